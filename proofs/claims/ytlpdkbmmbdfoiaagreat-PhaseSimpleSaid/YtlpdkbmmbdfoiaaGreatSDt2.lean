/-
  Elimination: what it keeps, when the rank is full, and the determinant. No program is named here.
-/
import Derived.Test.YtlpdkbmmbdfoiaaGreatSSz3
import Derived.Test.YtlpdkbmmbdfoiaaGreatSPh7
import Derived.Test.YtlpdkbmmbdfoiaaGreatSTa6
import Derived.Test.YtlpdkbmmbdfoiaaGreatSTk
import Derived.Test.YtlpdkbmmbdfoiaaGreatSEl1
import Derived.Test.YtlpdkbmmbdfoiaaGreatSEl2
set_option linter.unusedVariables false
set_option linter.unusedSimpArgs false
namespace Go.Proofs.YtlpdkbmmbdfoiaaGreat
open Go.RowKit
def CellsP (w : World) (xs : List Value) (n : Nat) (f : Nat → Rat) (S : Nat → Prop) : Prop :=
 ∀ j, j < n → S j → ∃ a b, xs[j * 3]? = some (.bool (decide (f j < 0))) ∧ xs[j * 3 + 1]? = some a ∧ xs[j * 3 + 2]? = some b ∧ zgb w a (f j).num.natAbs ∧ zgb w b (f j).den
def zbc (w : World) (e : TypeId) (B : Nat) (v : Value) (n : Nat) (f : Nat → Rat) (S : Nat → Prop) : Prop := ∃ xs, zuc w e B 3 v n xs ∧ CellsP w xs n f S
section
variable {w w' : World} {e : TypeId} {B n : Nat} {v u : Value} {f : Nat → Rat} {S : Nat → Prop}
theorem zkb.ownR (h : zkb w e B v n) : ∃ xs, zuc w e B 3 v n xs := by
 obtain ⟨g, cs, rfl, h1, h2⟩ := id h
 have hcl : cs.length = n * 3 := h1.1
 refine ⟨cs, h1, ?_⟩
 intro g' hg' cur e' fz hc c hcc z
 rcases h1.2 with ⟨h', _⟩ | ⟨g2, cap, cur2, h', hb, hg, _, _, hs, ht⟩
 ·cases h'
 ·injection h' with h4 h5 h6
  injection h4 with h4
  injection h4 with h4
  subst h4
  simp only [Value.ownBlock, Option.some.injEq] at hg'
  subst hg'
  rw [hc] at hg
  injection hg with hg
  injection hg with hg
  subst hg
  subst h6
  have hcur : cur.toList = cs := by
   rw [← ht]
   refine (List.take_of_length_le ?_).symm
   simp only [Array.length_toList]
   omega
  rw [hcur] at hcc
  exact h2 c hcc z
theorem zbc.start (h : zkb w e B v n) (f : Nat → Rat) : zbc w e B v n f (fun j => j < 0) := by
 obtain ⟨xs, h1⟩ := h.ownR
 exact ⟨xs, h1, fun j _ h => absurd h (Nat.not_lt_zero _)⟩
theorem zbc.noLimb (h : zbc w e B v n f S) : zqb w v := by obtain ⟨xs, h1, _⟩ := h; exact h1.nl
theorem zbc.block (h : zbc w e B v n f S) : ∀ k, v.ownBlock = some k → B ≤ k ∧ k < w.heap.size := by obtain ⟨xs, h1, _⟩ := h; exact h1.block
theorem zbc.blk (h : zbc w e B v n f S) (hn : 0 < n) : ∃ g, v.ownBlock = some g ∧ (base v).block = g ∧ B ≤ g ∧ g < w.heap.size ∧ ∀ j, ptr v j = ⟨g, j, none⟩ := by
 obtain ⟨xs, h1, _⟩ := h
 exact h1.blk (by rw [h1.clen]; omega)
theorem CellsP.grown {xs : List Value} (h2 : CellsP w xs n f S) (hg : w.grownBy w' u.ownBlock) (hn : zqb w u) : CellsP w' xs n f S := fun j hj hs => by
 obtain ⟨a, b, e1, e2, e3, e4, e5⟩ := h2 j hj hs
 exact ⟨a, b, e1, e2, e3, e4.grown hg hn, e5.grown hg hn⟩
theorem zbc.grown (h : zbc w e B v n f S) (hg : w.grownBy w' u.ownBlock) (hn : zqb w u) (hne : v.ownBlock = none ∨ v.ownBlock ≠ u.ownBlock) : zbc w' e B v n f S := by
 obtain ⟨xs, h1, h2⟩ := h
 exact ⟨xs, h1.grown hg hne, h2.grown hg hn⟩
theorem zbc.below (h : zbc w e B v n f S) (hb : Below w.heap.size w w') : zbc w' e B v n f S := by
 obtain ⟨xs, h1, h2⟩ := h
 refine ⟨xs, h1.below hb, fun j hj hs => ?_⟩
 obtain ⟨a, b, e1, e2, e3, e4, e5⟩ := h2 j hj hs
 exact ⟨a, b, e1, e2, e3, e4.below hb, e5.below hb⟩
theorem zbc.slots (h : zbc w e B v n f S) {i : Nat} (hi : i < n) : ∃ c0 c1 c2, w.cell? (ptr v (i * 3)) = some c0 ∧ w.cell? (ptr v (i * 3 + 1)) = some c1 ∧ w.cell? (ptr v (i * 3 + 2)) = some c2 ∧
 w.frozen? (ptr v (i * 3)) = false ∧ w.frozen? (ptr v (i * 3 + 1)) = false ∧ w.frozen? (ptr v (i * 3 + 2)) = false ∧
 ptr v (i * 3) ≠ ptr v (i * 3 + 1) ∧ ptr v (i * 3) ≠ ptr v (i * 3 + 2) ∧ ptr v (i * 3 + 1) ≠ ptr v (i * 3 + 2) := by
 obtain ⟨g, _, _, _, _, hp⟩ := h.blk (by omega)
 obtain ⟨xs, h1, _⟩ := h
 have hl := h1.clen
 refine ⟨_, _, _, h1.cell (i * 3) (by omega), h1.cell (i * 3 + 1) (by omega), h1.cell (i * 3 + 2) (by omega), h1.frozen _ (by omega), h1.frozen _ (by omega), h1.frozen _ (by omega), ?_, ?_, ?_⟩ <;> (rw [hp, hp]; intro h; injection h with h1 h2; omega)
theorem zbc.put (h : zbc w e B v n f S) {i : Nat} (hi : i < n) {x y z : Value} (hf : zya w (.agg #[x, y, z]) (f i)) :
 zbc (((w.setCell (ptr v (i * 3)) x).setCell (ptr v (i * 3 + 1)) y).setCell (ptr v (i * 3 + 2)) z) e B v n f (fun j => S j ∨ j = i) ∧
  w.grownBy (((w.setCell (ptr v (i * 3)) x).setCell (ptr v (i * 3 + 1)) y).setCell (ptr v (i * 3 + 2)) z) v.ownBlock := by
 obtain ⟨xs, h1, h2⟩ := h
 obtain ⟨a, b, ha, h4, h5⟩ := id hf
 injection ha with ha
 injection ha with ha
 simp only [List.cons.injEq, and_true] at ha
 obtain ⟨rfl, rfl, rfl⟩ := ha
 have hl := h1.clen
 have ny : ∀ k, y ≠ .int .u32 k := fun k => by obtain ⟨a1, n1, c1, e1, _⟩ := h4.v.sl; subst e1; simp
 have nz : ∀ k, z ≠ .int .u32 k := fun k => by obtain ⟨a1, n1, c1, e1, _⟩ := h5.v.sl; subst e1; simp
 obtain ⟨s1, g1⟩ := h1.set1 (i * 3) (by omega) (.bool (decide (f i < 0))) (fun k => by simp)
 obtain ⟨s2, g2⟩ := s1.set1 (i * 3 + 1) (by rw [List.length_set]; omega) y ny
 obtain ⟨s3, g3⟩ := s2.set1 (i * 3 + 2) (by rw [List.length_set, List.length_set]; omega) z nz
 have gg := zce (zce g1 g2) g3
 refine ⟨⟨_, s3, fun j hj hs => ?_⟩, gg⟩
 by_cases hij : i = j
 ·subst hij
  refine ⟨y, z, ?_, ?_, ?_, ?_, ?_⟩
  ·rw [List.getElem?_set_ne (by omega), List.getElem?_set_ne (by omega), List.getElem?_set_self (by omega)]
  ·rw [List.getElem?_set_ne (by omega), List.getElem?_set_self (by rw [List.length_set]; omega)]
  ·rw [List.getElem?_set_self (by rw [List.length_set, List.length_set]; omega)]
  ·exact h4.grown gg h1.nl
  ·exact h5.grown gg h1.nl
 ·obtain ⟨a, b, e1, e2, e3, e4, e5⟩ := h2 j hj (by
   rcases hs with hs | hs
   ·exact hs
   ·exact absurd hs.symm hij)
  refine ⟨a, b, ?_, ?_, ?_, e4.grown gg h1.nl, e5.grown gg h1.nl⟩
  ·rw [List.getElem?_set_ne (by omega), List.getElem?_set_ne (by omega), List.getElem?_set_ne (by omega)]; exact e1
  ·rw [List.getElem?_set_ne (by omega), List.getElem?_set_ne (by omega), List.getElem?_set_ne (by omega)]; exact e2
  ·rw [List.getElem?_set_ne (by omega), List.getElem?_set_ne (by omega), List.getElem?_set_ne (by omega)]; exact e3
theorem zbc.imp {T : Nat → Prop} (h : zbc w e B v n f S) (hs : ∀ j, j < n → T j → S j) : zbc w e B v n f T := by
 obtain ⟨xs, h1, h2⟩ := h
 exact ⟨xs, h1, fun j hj ht => h2 j hj (hs j hj ht)⟩
theorem zbc.succ {i : Nat} (h : zbc w e B v n f (fun j => j < i ∨ j = i)) : zbc w e B v n f (fun j => j < i + 1) := h.imp fun j _ h => by omega
theorem zbc.frRow (h : zbc w e B v n f S) (hs : ∀ j, j < n → S j) : zbb w e B v (zfb n f) := by
 obtain ⟨xs, h1, h2⟩ := h
 refine ⟨xs, by rw [zfa]; exact h1, fun j hj => ?_⟩
 rw [ztb]
 rw [zfa] at hj
 exact h2 j hj (hs j hj)
end
section
variable {w w' : World} {B n : Nat} {vO vX : Value} {rs : List Value} {qs : Nat → List Rat} {f : Nat → Rat} {S : Nat → Prop}
theorem zej.putG (h : zej w B vO rs n qs) {i j : Nat} (hi : i < rs.length) (hj : j < (qs i).length) {x y z : Value} {r : Rat} (hf : zya w (.agg #[x, y, z]) r) :
 zej (((w.setCell (ptr rs[i] (j * 3)) x).setCell (ptr rs[i] (j * 3 + 1)) y).setCell (ptr rs[i] (j * 3 + 2)) z) B vO rs n (fun k => if k = i then (qs i).set j r else qs k) ∧
  w.grownBy (((w.setCell (ptr rs[i] (j * 3)) x).setCell (ptr rs[i] (j * 3 + 1)) y).setCell (ptr rs[i] (j * 3 + 2)) z) rs[i].ownBlock ∧ zqb w rs[i] := by
 obtain ⟨own, row, ap⟩ := h
 obtain ⟨p1, p2⟩ := (row i hi).put (i := j) hj hf
 have hnl := (row i hi).noLimb
 obtain ⟨ys, y1, y2⟩ := id (row i hi)
 refine ⟨⟨own.grown p2 (own.kinds y1 (by decide)), fun k hk => ?_, ap⟩, p2, hnl⟩
 by_cases hki : k = i
 ·subst hki; rw [if_pos rfl]; exact p1
 ·rw [if_neg hki]; exact (row k hk).grown p2 hnl (ap k i hk hi hki)
theorem zak {n i : Nat} {f g : Nat → Rat} (h : ∀ k, k < n → k ≠ i → f k = g k) : (zfb n f).set i (g i) = zfb n g := by
 refine List.ext_getElem (by rw [List.length_set, zfa, zfa]) fun k h1 h2 => ?_
 rw [ztb]
 by_cases e : i = k
 ·subst e; rw [List.getElem_set_self]
 ·rw [List.getElem_set_ne e, ztb]
  exact h k (by rw [zfa] at h2; exact h2) (fun e2 => e e2.symm)
structure MX (w : World) (B : Nat) (vO : Value) (rs : List Value) (n : Nat) (qs : Nat → List Rat) (vX : Value) (f : Nat → Rat) (S : Nat → Prop) : Prop where
 t : zej w B vO rs n qs
 x : zbc w 38 B vX n f S
 ne : ∀ (i : Nat) (hi : i < rs.length), rs[i].ownBlock = none ∨ rs[i].ownBlock ≠ vX.ownBlock
 sz : B ≤ w.heap.size
theorem MX.below (h : MX w B vO rs n qs vX f S) (hb : Below w.heap.size w w') : MX w' B vO rs n qs vX f S := ⟨h.t.below hb, h.x.below hb, h.ne, Nat.le_trans h.sz hb.size⟩
theorem MX.congr {p : Nat → List Rat} (h : MX w B vO rs n qs vX f S) (hpq : ∀ i, i < n → qs i = p i) : MX w B vO rs n p vX f S := ⟨h.t.congr hpq, h.x, h.ne, h.sz⟩
theorem MX.putX (h : MX w B vO rs n qs vX f S) {i : Nat} (hi : i < n) {x y z : Value} (hf : zya w (.agg #[x, y, z]) (f i)) :
 MX (((w.setCell (ptr vX (i * 3)) x).setCell (ptr vX (i * 3 + 1)) y).setCell (ptr vX (i * 3 + 2)) z) B vO rs n qs vX f (fun j => S j ∨ j = i) ∧
  Below B w (((w.setCell (ptr vX (i * 3)) x).setCell (ptr vX (i * 3 + 1)) y).setCell (ptr vX (i * 3 + 2)) z) := by
 obtain ⟨t, x', ne, sz⟩ := h
 obtain ⟨p1, p2⟩ := x'.put hi hf
 have hnl := x'.noLimb
 obtain ⟨ys, y1, y2⟩ := id x'
 have hb := zla p2 sz (fun k hk => (x'.block k hk).1)
 refine ⟨⟨⟨t.own.grown p2 (t.own.kinds y1 (by decide)), fun k hk => (t.row k hk).grown p2 hnl (ne k hk), t.ap⟩, p1, ne, Nat.le_trans sz hb.size⟩, hb⟩
theorem MX.set (h : MX w B vO rs n qs vX f S) {i : Nat} (hi : i < rs.length) {v' : Value} {q : List Rat} (hv : zbb w' 38 B v' q) (hg : w.grownBy w' rs[i].ownBlock) (hn : zqb w rs[i]) (hob : v'.ownBlock = rs[i].ownBlock ∨ v'.ownBlock = some w.heap.size) :
 MX (w'.setCell (ptr vO i) v') B vO (rs.set i v') n (fun k => if k = i then q else qs k) vX f S ∧ Below B w (w'.setCell (ptr vO i) v') := by
 have hX : vX.ownBlock = none ∨ vX.ownBlock ≠ rs[i].ownBlock := by
  rcases h.ne i hi with h1 | h1
  ·cases hx : vX.ownBlock with
   | none => exact Or.inl rfl
   | some g => exact Or.inr (by rw [h1]; intro e; cases e)
  ·exact Or.inr (fun e => h1 e.symm)
 obtain ⟨s1, s2⟩ := h.t.set hi h.sz hv hg hn hob
 obtain ⟨ys, y1, y2⟩ := id (h.t.row i hi)
 have own' := h.t.own.grown hg (h.t.own.kinds y1 (by decide))
 obtain ⟨_, c2⟩ := own'.set1 i hi v' (fun z e => by obtain ⟨a1, a2, a3, e1, _⟩ := hv.sl; rw [e1] at e; cases e)
 have hx1 := h.x.grown hg hn hX
 obtain ⟨zs, z1, z2⟩ := id hx1
 have hx2 := hx1.grown c2 own'.nl (z1.kinds own' (by decide))
 refine ⟨⟨s1, hx2, fun k hk => ?_, Nat.le_trans h.sz s2.size⟩, s2⟩
 have hk0 : k < rs.length := by simpa using hk
 by_cases hki : k = i
 ·subst hki
  rw [List.getElem_set_self]
  rcases hob with h1 | h1
  ·rw [h1]; exact h.ne k hi
  ·rw [h1]
   refine Or.inr fun e => ?_
   have := (h.x.block _ e.symm).2
   omega
 ·rw [List.getElem_set_ne (fun e => hki e.symm)]
  exact h.ne k hk0
theorem MX.put (h : MX w B vO rs n qs vX f S) {i j : Nat} (hi : i < rs.length) (hj : j < (qs i).length) {x y z : Value} {r : Rat} (hf : zya w (.agg #[x, y, z]) r) :
 MX (((w.setCell (ptr rs[i] (j * 3)) x).setCell (ptr rs[i] (j * 3 + 1)) y).setCell (ptr rs[i] (j * 3 + 2)) z) B vO rs n (fun k => if k = i then (qs i).set j r else qs k) vX f S ∧
  Below B w (((w.setCell (ptr rs[i] (j * 3)) x).setCell (ptr rs[i] (j * 3 + 1)) y).setCell (ptr rs[i] (j * 3 + 2)) z) := by
 obtain ⟨p1, p2, p3⟩ := h.t.putG hi hj hf
 have hX : vX.ownBlock = none ∨ vX.ownBlock ≠ rs[i].ownBlock := by
  rcases h.ne i hi with h1 | h1
  ·cases hx : vX.ownBlock with
   | none => exact Or.inl rfl
   | some g => exact Or.inr (by rw [h1]; intro e; cases e)
  ·exact Or.inr (fun e => h1 e.symm)
 have hb := zla p2 h.sz (fun k hk => ((h.t.row i hi).block k hk).1)
 exact ⟨⟨p1, h.x.grown p2 p3 hX, h.ne, Nat.le_trans h.sz hb.size⟩, hb⟩
theorem MX.matF (h : MX w B vO rs n qs vX f S) {A : Mx} (hq : ∀ i, i < n → qs i = zfb n (A i)) : zol w vO n n A := ⟨h.t.own.sl, h.t.own.len, fun k hk => by
 have hk2 : k < rs.length := by rw [h.t.rl]; exact hk
 refine ⟨rs[k], h.t.own.cell k hk2, ?_⟩
 have h1 := (h.t.row k hk2).fracs
 rwa [hq k hk] at h1⟩
end
theorem zim : ∀ n : Fin 100, fits (fq false n.val 1) := by decide +kernel
theorem make_n1 (n : Nat) (hn : n < 100) (w : World) : Calls Tryz.prog 67 #[.int .i64 (n : Nat), .int .i64 1] w (RF0 w (fq false n 1)) :=
 (ztk (n : Nat) 1 w (by omega) (by omega) (by decide) (by decide) (by decide)).mono fun _ _ h => h.ok (by
  rw [decide_eq_false (show ¬ ((n : Nat) : Int) < 0 by omega), decide_eq_false (show ¬ (1 : Int) < 0 by decide)]; rfl) (zim ⟨n, hn⟩)
set_option maxHeartbeats 800000 in
theorem pnumber_nat (n : Nat) (hn : n < 100) (w : World) : Calls Tryz.prog 88 #[.int .i64 (n : Nat)] w (RF1 w (fq false n 1)) := by
 have HN := zH hn
 clear hn
 go_enter Tryz.func88, Tryz.ntmps88
 go_wp2_with (go_at_call 67; (with_reducible refine (make_n1 n HN.out _).mono ?_); rintro e w1 ⟨v, rfl, hv, hb1⟩
              obtain ⟨t9, x9, y9, rfl, ⟨a1, l91, k1, rfl, _⟩, ⟨a2, l92, k2, rfl, _⟩⟩ := hv.isF
              have hr := ((C3.new w 38 (.bool false) (.slice none 0 0) (.slice none 0 0)).belowS hb1).allocS (.cells #[.bool t9, .slice a1 l91 k1, .slice a2 l92 k2] 38)
              have hv2 := hv.below (zca w1 (.cells #[.bool t9, .slice a1 l91 k1, .slice a2 l92 k2] 38))
              have hb2 := zaa (zaa (zca w (.cells #[.bool false, .slice none 0 0, .slice none 0 0] 38)) hb1) (zca w1 (.cells #[.bool t9, .slice a1 l91 k1, .slice a2 l92 k2] 38))
              have HR := zH hr
              obtain ⟨_, d1, d2, d3, d4, d5, d6⟩ := hr)
 refine zab rfl rfl Tryz.aggF Tryz.sizeF (HR.out.set _ _ _) rfl ?_
 exact ⟨_, rfl, hv2.set3 HR.out (fun z => by simp) (fun z => by simp) _ _ _, zha hb2 (Nat.le_refl _) _ _ _⟩
def dotL (a b : List Rat) (k : Nat) : Rat := 0 + sg k fun t => a.getD t 0 * b.getD t 0
theorem dotL_succ (a b : List Rat) (k : Nat) : dotL a b k + a.getD k 0 * b.getD k 0 = dotL a b (k + 1) := by
 show _ = 0 + (_ + a.getD k 0 * b.getD k 0)
 unfold dotL
 rw [Rat.add_assoc]
structure ScaP (a b : List Rat) (f : Nat) : Prop where
 len : b.length = a.length
 n : a.length ≤ 1000
 f100 : f < 100
 fa : ∀ t, t < a.length → fits (a.getD t 0) ∧ fits (b.getD t 0) ∧ fits (a.getD t 0 * b.getD t 0)
 fs : ∀ k, k ≤ a.length → fits (dotL a b k)
 fr : fits (dotL a b a.length * fq false f 1)
set_option maxRecDepth 100000 in
set_option maxHeartbeats 6400000 in
theorem zam (va vb : Value) (a b : List Rat) (f : Nat) (w : World) (ha : zza w va a) (hb : zza w vb b) (hp : ScaP a b f) :
 Calls Tryz.prog 99 #[va, vb, .int .i64 (f : Nat)] w (RF0 w (dotL a b a.length * fq false f 1)) := by
 obtain ⟨xa, xn, xk, rfl, _⟩ := id ha.sl
 obtain ⟨ya, yn, yk, rfl, _⟩ := id hb.sl
 have sx := ha.sl
 have sy := hb.sl
 have hxn : xn = a.length := ha.len
 have hyn : yn = a.length := hb.len.trans hp.len
 obtain ⟨n, hnn⟩ : ∃ n, a.length = n := ⟨_, rfl⟩
 rw [hnn] at hxn hyn
 obtain rfl : xn = n := hxn
 obtain rfl : yn = xn := hyn
 have HN := zH hnn
 have h1000 : yn ≤ 1000 := by rw [← hnn]; exact hp.n
 have HP := zH hp
 have hba := zca w (.cells #[.bool false, .slice none 0 0, .slice none 0 0] 38)
 have HR := zH (C3.new w 38 (.bool false) (.slice none 0 0) (.slice none 0 0))
 have HA := zH (ha.below hba)
 have HB := zH (hb.below hba)
 have HBW := zH hba
 clear ha hb hp hba hnn
 go_enter Tryz.func99, Tryz.ntmps99
 go_upto_region 1 with fail
 obtain ⟨b6, hb6⟩ : ∃ b, w.heap.size = b := ⟨_, rfl⟩
 have HE6 := zH hb6
 rw [hb6] at HR ⊢
 clear hb6
 generalize w.alloc (.cells #[.bool false, .slice none 0 0, .slice none 0 0] 38) = W1 at *
 go_upto_region 2 with (first
  |(go_at_call 88; (with_reducible refine (zie _).mono ?_); rintro e8 w8 ⟨v8, rfl, hv8, hb8⟩
    obtain ⟨t8, x8, y8, rfl, ⟨a81, l81, k81, rfl, _⟩, ⟨a82, l82, k82, rfl, _⟩⟩ := hv8.isF
    have hba := zca w8 (.cells #[.bool t8, .slice a81 l81 k81, .slice a82 l82 k82] 38)
    have HC8 := zH (C3.new w8 38 (.bool t8) (.slice a81 l81 k81) (.slice a82 l82 k82))
    have HF8 := zH (hv8.below hba)
    have HBR := zH (zaa hb8 hba)
    have HL8 : Hid (W1.heap.size ≤ w8.heap.size) := zH hb8.size
    clear hv8 hb8 hba))
 obtain ⟨b8, hb8⟩ : ∃ b, w8.heap.size = b := ⟨_, rfl⟩
 rw [hb8] at HC8 HL8 ⊢
 clear hb8
 generalize w8.alloc (.cells #[.bool t8, .slice a81 l81 k81, .slice a82 l82 k82] 38) = W8 at *
 go_wp2_with fail
 go_loopg [15] (yn) (fun g u15 wr => ∃ (k : Nat) (t8 : Bool) (a81 : Option Addr) (l81 k81 : Nat) (a82 : Option Addr) (l82 k82 : Nat), k ≤ yn ∧ g = yn - k ∧ u15 = .int .i64 k ∧ C3 wr b8 (.bool t8) (.slice a81 l81 k81) (.slice a82 l82 k82) ∧ zya wr (.agg #[.bool t8, .slice a81 l81 k81, .slice a82 l82 k82]) (dotL a b k) ∧ Below W1.heap.size W1 wr)
 case atStart => exact ⟨0, _, _, _, _, _, _, _, Nat.zero_le _, rfl, rfl, HC8.out, by show zya _ _ (0 + 0); rw [Rat.add_zero]; exact HF8.out, HBR.out⟩
 case round =>
  obtain ⟨k, t8, a81, l81, k81, a82, l82, k82, hkn, hg, rfl, hc8, hf8, hbr⟩ := hrel
  obtain ⟨W9, hw9⟩ : ∃ w6, w6 = wr := ⟨_, rfl⟩
  subst hw9
  have HG := zH hg
  have HC8 := zH hc8
  have HF8 := zH hf8
  have HBR := zH hbr
  clear hg hc8 hf8 hbr
  by_cases hkl : k < yn
  ·have hka : k < a.length := by rw [HN.out]; exact hkl
   have hkb : k < b.length := by rw [HP.out.len, HN.out]; exact hkl
   obtain ⟨ts, as1, ls1, ks1, as2, ls2, ks2, g1, g2, g3, hfs⟩ := (HA.out.below HBR.out).cellsAt (k := k) hka
   obtain ⟨tr, ar1, lr1, kr1, ar2, lr2, kr2, p1, p2, p3, hfr⟩ := (HB.out.below HBR.out).cellsAt (k := k) hkb
   have HFP := zH (HP.out.fa k hka)
   have HES := zH (dotL_succ a b k)
   have HSS : Hid (fits (dotL a b k) ∧ fits (dotL a b (k + 1))) := zH ⟨HP.out.fs k (by omega), HP.out.fs (k + 1) (by omega)⟩
   obtain ⟨s, hs⟩ : ∃ s, a.getD k 0 = s := ⟨_, rfl⟩
   obtain ⟨r, hr⟩ : ∃ r, b.getD k 0 = r := ⟨_, rfl⟩
   rw [hs, hr] at HFP HES
   rw [hs] at hfs
   rw [hr] at hfr
   have HFS := zH hfs
   have HFR := zH hfr
   have S0 := zH (And.intro g1 (And.intro g2 (And.intro g3 (And.intro p1 (And.intro p2 (And.intro p3 (And.intro p3 p3)))))))
   have i1 : (0 : Int) ≤ (k : Int) := by omega
   have i2 : (k : Int) < (yn : Nat) := by omega
   clear g1 g2 g3 p1 p2 p3 hfs hfr hs hr hka hkb
   go_upto_region 5 with fail
   go_cut [10, 11] (fun u10 u11 wy => ∃ (b10 : Nat) (t' : Bool) (a1 : Option Addr) (l1 k1 : Nat) (a2 : Option Addr) (l2 k2 : Nat), u10 = .pointer (some ⟨b10, 0, none⟩) ∧ u11 = .int .i64 0 ∧ C3 wy b10 (.bool t') (.slice a1 l1 k1) (.slice a2 l2 k2) ∧ zya wy (.agg #[.bool t', .slice a1 l1 k1, .slice a2 l2 k2]) (s * r) ∧ Below W9.heap.size W9 wy ∧ W9.heap.size ≤ b10)
   case first =>
    go_region_held3 (fun w' => w'.cell? (ptr (.slice xa yn xk) (k * 3)) = some (.bool ts) ∧ w'.cell? (ptr (.slice xa yn xk) (k * 3 + 1)) = some (.slice as1 ls1 ks1) ∧ w'.cell? (ptr (.slice xa yn xk) (k * 3 + 2)) = some (.slice as2 ls2 ks2) ∧ w'.cell? (ptr (.slice ya yn yk) (k * 3)) = some (.bool tr) ∧ w'.cell? (ptr (.slice ya yn yk) (k * 3 + 1)) = some (.slice ar1 lr1 kr1) ∧ w'.cell? (ptr (.slice ya yn yk) (k * 3 + 2)) = some (.slice ar2 lr2 kr2) ∧ w'.cell? (ptr (.slice ya yn yk) (k * 3 + 2)) = some (.slice ar2 lr2 kr2) ∧ w'.cell? (ptr (.slice ya yn yk) (k * 3 + 2)) = some (.slice ar2 lr2 kr2) ∧ Below W9.heap.size W9 w') (first
     | with_reducible exact kp8a S0.out (zga _)
     | with_reducible exact kp8w (by assumption) (zca _ _)
     | with_reducible exact kp8w (by assumption) (by assumption)
     | with_reducible exact kp8a S0.out (zaa hB32 (zca _ _))
     | with_reducible exact kp8s S0.out hB32 (Nat.le_refl _) _ _ _
     | with_reducible exact kp8s S0.out hB32 hB31.size _ _ _
     | with_reducible exact kp8s S0.out (zaa hB32 (zca _ _)) hB32.size _ _ _) (first
     |(go_at_call 131; (with_reducible refine (zrk _ _ s r _ (HFS.out.below (kp8c (by assumption))) (HFR.out.below (kp8c (by assumption))) HFP.out.1 HFP.out.2.1 HFP.out.2.2).mono ?_); rintro e32 w32 ⟨v32, rfl, hv32, hb32⟩
       obtain ⟨t32, x32, y32, rfl, ⟨a321, l321, k321, rfl, _⟩, ⟨a322, l322, k322, rfl, _⟩⟩ := hv32.isF
       have hB32 := zaa (kp8c (by assumption)) hb32
       have hc6 := (fun (p : Addr) hp => hb32.cell (p := p) hp)
       have hf6 := (fun (p : Addr) hp => hb32.frozen (p := p) hp)
       have zq2 := hb32.size
       (try simp only [zsj, sizeD] at zq2)
       (try have z2 : W9.heap.size < w32.heap.size := (by omega))))
    all_goals
     have hE := kp8c (by assumption)
     go_wp2_with fail
     go_meet
     case rel =>
      first
       | exact ⟨_, _, _, _, _, _, _, _, rfl, rfl, C3.new w32 _ _ _ _, hv32.below (zca _ _), hE, hB32.size⟩
       | exact ⟨_, _, _, _, _, _, _, _, rfl, rfl, ((C3.newB (b := W9.heap.size) W9.drew 38 (.bool false) (.slice none 0 0) (.slice none 0 0) rfl).belowS hb32).set _ _ _, hv32.set3 ((C3.newB (b := W9.heap.size) W9.drew 38 (.bool false) (.slice none 0 0) (.slice none 0 0) rfl).belowS hb32) (fun z => by simp) (fun z => by simp) _ _ _, hE, Nat.le_refl _⟩
   case rest =>
    obtain ⟨b10, t10, a101, l101, k101, a102, l102, k102, rfl, rfl, hc, hf, hb6', hle⟩ := hcut
    obtain ⟨W10, hw3⟩ : ∃ w3, w3 = wc := ⟨_, rfl⟩
    subst hw3
    have HC10 := zH hc
    have HF10 := zH hf
    have HL10 : Hid (W1.heap.size ≤ b10 ∧ b8 < b10) := zH ⟨Nat.le_trans HBR.out.size hle, Nat.lt_of_lt_of_le HC8.out.lt hle⟩
    replace HC8 := zH (HC8.out.belowS hb6')
    replace HF8 := zH (HF8.out.below hb6')
    replace HBR := zH (zaa HBR.out hb6')
    clear hc hf hb6' hle S0 HFS HFR
    obtain ⟨_, d0, d1, d2, _, _, _⟩ := HC8.out
    obtain ⟨_, p0, p1, p2, f0, f1, f2⟩ := HC10.out
    go_upto_region 8 with (first
     |(go_at_call 80; (with_reducible refine (add_can _ _ (dotL a b k) (s * r) _ HF8.out HF10.out HSS.out.1 HFP.out.2.2 (by rw [HES.out]; exact HSS.out.2)).mono ?_); rw [HES.out]; rintro e12 w12 ⟨v12, rfl, hv12, hb12⟩
       obtain ⟨t12, x12, y12, rfl, ⟨a121, l121, k121, rfl, _⟩, ⟨a122, l122, k122, rfl, _⟩⟩ := hv12.isF
       have HV12 := zH hv12
       clear d0 d1 d2 p0 p1 p2 f0 f1 f2
       replace HC8 := zH (HC8.out.belowS hb12)
       replace HF8 := zH (HF8.out.below hb12)
       replace HC10 := zH (HC10.out.belowS hb12)
       replace HBR := zH (zaa HBR.out hb12)
       obtain ⟨_, p0, p1, p2, f0, f1, f2⟩ := HC10.out
       clear hv12 hb12))
    have HF12 := zH (HV12.out.set3 HC10.out (fun z => by simp) (fun z => by simp) (.bool t12) (.slice a121 l121 k121) (.slice a122 l122 k122))
    have HC8 := zH (HC8.out.set_other (show b8 ≠ b10 by have := HL10.out.2; omega) (.bool t12) (.slice a121 l121 k121) (.slice a122 l122 k122))
    have HBR := zH (zha HBR.out HL10.out.1 (.bool t12) (.slice a121 l121 k121) (.slice a122 l122 k122))
    have HC10 := zH (HC10.out.set (.bool t12) (.slice a121 l121 k121) (.slice a122 l122 k122))
    clear p0 p1 p2 f0 f1 f2
    generalize (((w12.setCell ⟨b10, 0, none⟩ (.bool t12)).setCell ⟨b10, 1, none⟩ (.slice a121 l121 k121)).setCell ⟨b10, 2, none⟩ (.slice a122 l122 k122)) = X12 at *
    obtain ⟨_, d0, d1, d2, f0, f1, f2⟩ := HC8.out
    obtain ⟨_, p0, p1, p2, _, _, _⟩ := HC10.out
    go_wp2_with fail
    go_roundg (yn - (k + 1))
    case measure => (have := HG.out; omega)
    case rel => exact ⟨k + 1, _, _, _, _, _, _, _, by omega, rfl, by go_num, HC8.out.set _ _ _, HF12.out.set3 HC8.out (fun z => by simp) (fun z => by simp) _ _ _, zha HBR.out HL8.out _ _ _⟩
  ·have HKE : Hid (a.length = k) := zH (by rw [HN.out]; omega)
   have HFE : Hid (fits (dotL a b k) ∧ fits (fq false f 1) ∧ fits (dotL a b k * fq false f 1)) := zH ⟨HP.out.fs k (by rw [HKE.out]; exact Nat.le_refl _), zim ⟨f, HP.out.f100⟩, by have h := HP.out.fr; rw [HKE.out] at h; exact h⟩
   obtain rfl : k = yn := by omega
   have HR9 := zH (HR.out.belowS HBR.out)
   have HBT := zH (zaa HBW.out HBR.out)
   have hD := zga (B := W9.heap.size) W9
   have HF8D := zH (HF8.out.below hD)
   have HRD := zH (HR9.out.belowS hD)
   have HBD := zH (zaa HBT.out hD)
   have kA : b6 ≠ b8 := by have h1 := HR.out.lt; have h2 := HL8.out; omega
   have HF100 := zH HP.out.f100
   obtain ⟨_, q1, q2, q3, _, _, _⟩ := HC8.out.belowS hD
   go_upto_region 12 with fail
   go_region_held3 (fun w' => w'.cell? ⟨b8, 0, none⟩ = some (.bool t8) ∧ w'.cell? ⟨b8, 1, none⟩ = some (.slice a81 l81 k81) ∧ w'.cell? ⟨b8, 2, none⟩ = some (.slice a82 l82 k82) ∧ w'.cell? ⟨b8, 0, none⟩ = some (.bool t8) ∧ w'.cell? ⟨b8, 1, none⟩ = some (.slice a81 l81 k81) ∧ w'.cell? ⟨b8, 2, none⟩ = some (.slice a82 l82 k82)) (first
    | with_reducible exact ⟨q1, q2, q3, q1, q2, q3⟩
    | with_reducible exact keep6b (by assumption) (by assumption)
    | with_reducible exact keep6 (keep6 (keep6 (by assumption) kA kA kA kA kA kA _) kA kA kA kA kA kA _) kA kA kA kA kA kA _) (first
    |(go_at_call 88; (with_reducible refine (pnumber_nat f HF100.out _).mono ?_); rintro e3 w3 ⟨v3, rfl, hv3, hb3⟩
      obtain ⟨t3, x3, y3, rfl, ⟨a31, l31, k31, rfl, _⟩, ⟨a32, l32, k32, rfl, _⟩⟩ := hv3.isF)
    |(go_at_call 131; (with_reducible refine (zrk _ _ (dotL a b k) (fq false f 1) _ (HF8D.out.below hb3) hv3 HFE.out.1 HFE.out.2.1 HFE.out.2.2).mono ?_); rintro e4 w4 ⟨v4, rfl, hv4, hb4⟩
      obtain ⟨t4, x4, y4, rfl, ⟨a41, l41, k41, rfl, _⟩, ⟨a42, l42, k42, rfl, _⟩⟩ := hv4.isF
      have HR4 := zH ((HRD.out.belowS hb3).belowS hb4)
      obtain ⟨_, g0, g1, g2, g3, g4, g5⟩ := HR4.out))
   all_goals
    have hbE := zaa (zaa HBD.out hb3) hb4
    go_wp2_with fail
    refine zoa rfl rfl Tryz.aggF Tryz.sizeF (HR4.out.set _ _ _) rfl ?_
    rw [HKE.out]
    exact ⟨_, rfl, hv4.set3 HR4.out (fun z => by simp) (fun z => by simp) _ _ _, zha hbE (by rw [HE6.out]; exact Nat.le_refl _) _ _ _⟩
end Go.Proofs.YtlpdkbmmbdfoiaaGreat
namespace Go.Proofs.YtlpdkbmmbdfoiaaGreat
def alt (i : Nat) : Rat := if i % 2 = 0 then 1 else -1
theorem alt_succ (i : Nat) : alt (i + 1) = -alt i := by
 unfold alt
 by_cases h : i % 2 = 0
 ·rw [if_pos h, if_neg (by omega)]
 ·rw [if_neg h, if_pos (by omega)]; decide +kernel
def mnr (A : Mx) (i : Nat) : Mx := fun a b => A (if a < i then a else a + 1) (b + 1)
def dt : Nat → Mx → Rat
 | 0, _ => 1
 | n + 1, A => sg (n + 1) fun i => alt i * A i 0 * dt n (mnr A i)
theorem zad {n : Nat} {A B : Mx} (h : ∀ a b, a < n → b < n → A a b = B a b) : dt n A = dt n B := by
 induction n generalizing A B with
 | zero => rfl
 | succ n ih =>
   refine zma fun i hi => ?_
   rw [h i 0 hi (by omega), ih (A := mnr A i) (B := mnr B i) (fun a b ha hb => by unfold mnr; exact h _ _ (by split <;> omega) (by omega))]
def zmc (A : Mx) (r : Nat) (x : Nat → Rat) : Mx := fun a => if a = r then x else A a
theorem zuf (A : Mx) (r : Nat) : zmc A r (A r) = A := by
 funext a; unfold zmc; split
 ·next h => rw [h]
 ·rfl
theorem zdd (A : Mx) (r : Nat) (x : Nat → Rat) : zmc A r x r = x := by unfold zmc; rw [if_pos rfl]
theorem zsc {A : Mx} {r a : Nat} {x : Nat → Rat} (h : a ≠ r) : zmc A r x a = A a := by unfold zmc; rw [if_neg h]
theorem zyj {A : Mx} {r s : Nat} {x y : Nat → Rat} (h : r ≠ s) : zmc (zmc A r x) s y = zmc (zmc A s y) r x := by
 funext a; unfold zmc
 by_cases h1 : a = s
 ·subst h1; rw [if_pos rfl, if_neg (fun e => h e.symm), if_pos rfl]
 ·rw [if_neg h1]; split
  ·rfl
  ·rfl
theorem zkf (A : Mx) (r : Nat) (x : Nat → Rat) : mnr (zmc A r x) r = mnr A r := by
 funext a b; unfold mnr zmc
 rw [if_neg (by split <;> omega)]
theorem zen {A : Mx} {r i : Nat} {x : Nat → Rat} (h : i ≠ r) : mnr (zmc A r x) i = zmc (mnr A i) (if r < i then r else r - 1) (fun b => x (b + 1)) := by
 funext a b; unfold mnr zmc
 by_cases h1 : a = if r < i then r else r - 1
 ·rw [if_pos h1, if_pos (by split at h1 <;> split <;> omega)]
 ·rw [if_neg h1, if_neg (by split at h1 <;> split <;> omega)]
theorem znm {n : Nat} (A : Mx) {r : Nat} (hr : r < n) (x y : Nat → Rat) (c : Rat) : dt n (zmc A r fun b => x b + c * y b) = dt n (zmc A r x) + c * dt n (zmc A r y) := by
 induction n generalizing A r x y with
 | zero => omega
 | succ n ih =>
   rw [dt, dt, dt, ← zeb, ← zue]
   refine zma fun i hi => ?_
   by_cases h : i = r
   ·subst h
    rw [zdd, zdd, zdd, zkf, zkf, zkf]
    grind
   ·rw [zsc h, zsc h, zsc h, zen h, zen h, zen h]
    have h1 : (if r < i then r else r - 1) < n := by split <;> omega
    have := ih (mnr A i) h1 (fun b => x (b + 1)) (fun b => y (b + 1))
    rw [this]
    grind
theorem sg_pair {n r : Nat} {f : Nat → Rat} (hr : r + 1 < n) (h : ∀ i, i < n → i ≠ r → i ≠ r + 1 → f i = 0) : sg n f = f r + f (r + 1) := by
 have e : sg n f = sg n (fun i => (if r = i then f i else 0) + (if r + 1 = i then f i else 0)) := zma fun i hi => by
  by_cases h1 : r = i
  ·subst h1; rw [if_pos rfl, if_neg (by omega)]; grind
  ·by_cases h2 : r + 1 = i
   ·subst h2; rw [if_neg h1, if_pos rfl]; grind
   ·rw [if_neg h1, if_neg h2, h i hi (fun e => h1 e.symm) (fun e => h2 e.symm)]; grind
 rw [e, zue, zed (by omega), zed hr]
theorem dt_adj {n : Nat} {A : Mx} {r : Nat} (hr : r + 1 < n) (h : A r = A (r + 1)) : dt n A = 0 := by
 induction n generalizing A r with
 | zero => omega
 | succ n ih =>
   rw [dt, sg_pair hr]
   ·have hm : mnr A r = mnr A (r + 1) := by
     funext a b; unfold mnr
     by_cases h1 : a < r
     ·rw [if_pos h1, if_pos (by omega)]
     ·by_cases h2 : a = r
      ·subst h2; rw [if_neg h1, if_pos (by omega), h]
      ·rw [if_neg h1, if_neg (by omega)]
    rw [alt_succ, ← h, ← hm]
    grind
   ·intro i hi h1 h2
    have hz : dt n (mnr A i) = 0 := by
     by_cases h3 : i < r
     ·refine ih (r := r - 1) (by omega) ?_
      funext b; unfold mnr
      rw [if_neg (by omega), if_neg (by omega), show r - 1 + 1 = r by omega, h]
     ·refine ih (r := r) (by omega) ?_
      funext b; unfold mnr
      rw [if_pos (by omega), if_pos (by omega), h]
    rw [hz, Rat.mul_zero]
theorem dt_zero {n : Nat} {A : Mx} {r : Nat} (hr : r < n) : dt n (zmc A r fun _ => 0) = 0 := by
 have h := znm A hr (fun _ => 0) (fun _ => 0) 1
 have e : (fun b : Nat => (0 : Rat) + 1 * 0) = fun _ => 0 := by funext b; grind
 rw [e] at h
 grind
theorem dt_scale {n : Nat} (A : Mx) {r : Nat} (hr : r < n) (x : Nat → Rat) (c : Rat) : dt n (zmc A r fun b => c * x b) = c * dt n (zmc A r x) := by
 have h := znm A hr (fun _ => 0) x c
 have e : (fun b : Nat => (0 : Rat) + c * x b) = fun b => c * x b := by funext b; grind
 rw [e, dt_zero hr] at h
 grind
theorem dt_exch {n a b : Nat} (ha : a < n) (hb : b < n) (hab : a ≠ b) (h0 : ∀ (A : Mx), A a = A b → dt n A = 0) (A : Mx) : dt n (swp A a b) = -dt n A := by
 have D : ∀ x y, ∃ z, dt n (zmc (zmc A a x) b y) = z := fun x y => ⟨_, rfl⟩
 have e1 : swp A a b = zmc (zmc A a (A b)) b (A a) := by
  funext i; unfold swp zmc
  by_cases h1 : i = a
  ·subst h1; rw [if_pos rfl, if_neg hab, if_pos rfl]
  ·rw [if_neg h1]; split
   ·rfl
   ·rfl
 have e2 : A = zmc (zmc A a (A a)) b (A b) := by rw [zuf, zuf]
 have key : ∀ x, dt n (zmc (zmc A a x) b x) = 0 := fun x => h0 _ (by rw [zdd, zsc hab, zdd])
 have s1 : ∀ x y z, dt n (zmc (zmc A a (fun j => x j + 1 * y j)) b z) = dt n (zmc (zmc A a x) b z) + 1 * dt n (zmc (zmc A a y) b z) := fun x y z => by
  rw [zyj hab, zyj hab, zyj hab]; exact znm _ ha x y 1
 have s2 : ∀ x y z, dt n (zmc (zmc A a z) b (fun j => x j + 1 * y j)) = dt n (zmc (zmc A a z) b x) + 1 * dt n (zmc (zmc A a z) b y) := fun x y z => znm _ hb x y 1
 have h := key (fun j => A a j + 1 * A b j)
 rw [s1, s2, s2, key, key] at h
 rw [e1]
 have e3 : dt n A = dt n (zmc (zmc A a (A a)) b (A b)) := congrArg (dt n) e2
 rw [e3]
 grind
theorem dt_same {n : Nat} : ∀ (k i : Nat) (A : Mx), i + 1 + k < n → A i = A (i + 1 + k) → dt n A = 0
 | 0, i, A, hk, h => dt_adj hk h
 | k + 1, i, A, hk, h => by
   have hs := dt_exch (n := n) (a := i + 1 + k) (b := i + 1 + k + 1) (by omega) (by omega) (by omega) (fun B hB => dt_adj (by omega) hB) A
   have hz : dt n (swp A (i + 1 + k) (i + 1 + k + 1)) = 0 := dt_same k i _ (by omega) (by
    unfold swp
    rw [if_neg (by omega), if_neg (by omega), if_pos rfl]
    exact h)
   grind
theorem zqi {n : Nat} {A : Mx} {i j : Nat} (hi : i < n) (hj : j < n) (hij : i ≠ j) (h : A i = A j) : dt n A = 0 := by
 rcases Nat.lt_or_gt_of_ne hij with h1 | h1
 ·exact dt_same (j - i - 1) i A (by omega) (by rw [show i + 1 + (j - i - 1) = j by omega]; exact h)
 ·exact dt_same (i - j - 1) j A (by omega) (by rw [show j + 1 + (i - j - 1) = i by omega]; exact h.symm)
theorem dt_swp {n a b : Nat} (ha : a < n) (hb : b < n) (hab : a ≠ b) (A : Mx) : dt n (swp A a b) = -dt n A := dt_exch ha hb hab (fun B h => zqi ha hb hab h) A
theorem dt_add {n i r : Nat} (hi : i < n) (hr : r < n) (hir : i ≠ r) (A : Mx) (c : Rat) : dt n (zmc A i fun b => A i b + c * A r b) = dt n A := by
 have h := znm A hi (A i) (A r) c
 have hz : dt n (zmc A i (A r)) = 0 := zqi hi hr hir (by rw [zdd, zsc (fun e => hir e.symm)])
 rw [zuf, hz] at h
 rw [h]; grind
theorem dt_sum {n : Nat} (A : Mx) {r : Nat} (hr : r < n) (f : Nat → Nat → Rat) (c : Nat → Rat) : ∀ m, dt n (zmc A r fun b => sg m fun l => c l * f l b) = sg m fun l => c l * dt n (zmc A r (f l))
 | 0 => by
   have e : (fun b => sg 0 fun l => c l * f l b) = fun _ => 0 := by funext b; rfl
   rw [e, dt_zero hr]; rfl
 | m + 1 => by
   have e : (fun b => sg (m + 1) fun l => c l * f l b) = fun b => (sg m fun l => c l * f l b) + c m * f m b := by funext b; rfl
   rw [e, znm A hr, dt_sum A hr f c m]; rfl
def pr : Nat → (Nat → Rat) → Rat
 | 0, _ => 1
 | n + 1, f => pr n f * f n
theorem pr_congr {n : Nat} {f g : Nat → Rat} (h : ∀ i, i < n → f i = g i) : pr n f = pr n g := by
 induction n with
 | zero => rfl
 | succ n ih => rw [pr, pr, ih (fun i hi => h i (by omega)), h n (by omega)]
theorem pr_first (n : Nat) (f : Nat → Rat) : pr (n + 1) f = f 0 * pr n fun i => f (i + 1) := by
 induction n with
 | zero => simp [pr]
 | succ n ih => rw [pr, ih, pr]; grind
theorem zhl {n : Nat} {A : Mx} (h : ∀ i j, i < n → j < n → i ≠ j → A i j = 0) : dt n A = pr n fun i => A i i := by
 induction n generalizing A with
 | zero => rfl
 | succ n ih =>
   have e : dt (n + 1) A = sg (n + 1) fun i => if 0 = i then alt i * A i 0 * dt n (mnr A i) else 0 := zma fun i hi => by
    by_cases h0 : 0 = i
    ·rw [if_pos h0]
    ·rw [if_neg h0, h i 0 hi (by omega) (fun e => h0 e.symm)]; grind
   rw [e, zed (show 0 < n + 1 by omega), pr_first, ih (A := mnr A 0) (fun i j hi hj hij => by
    unfold mnr; rw [if_neg (by omega)]; exact h _ _ (by omega) (by omega) (by omega))]
   have e2 : (pr n fun i => mnr A 0 i i) = pr n fun i => A (i + 1) (i + 1) := pr_congr fun i hi => by unfold mnr; rw [if_neg (by omega)]
   rw [e2]
   have : alt 0 = 1 := by decide +kernel
   rw [this]; grind
def dtB : Nat → Nat → Nat
 | 0, _ => 1
 | n + 1, m => (n + 1) * (m * dtB n m)
theorem over_alt {D B : Nat} {q : Rat} (i : Nat) (h : over D B q) : over D B (alt i * q) := by
 unfold alt; split
 ·rw [Rat.one_mul]; exact h
 ·have e : (-1 : Rat) * q = -q := by grind
  rw [e]; exact over.neg h
theorem dt_over {n D m : Nat} {A : Mx} (hD : D ≠ 0) (h : ∀ i j, i < n → j < n → over D m (A i j)) : over (D ^ n) (dtB n m) (dt n A) := by
 induction n generalizing A with
 | zero => exact ⟨1, by simp [dt]; decide +kernel, Nat.le_refl _⟩
 | succ n ih =>
   rw [dt, dtB]
   refine over.sg (Nat.ne_of_gt (Nat.pow_pos (Nat.pos_of_ne_zero hD))) fun i hi => ?_
   have h1 := ih (A := mnr A i) (fun a b ha hb => by unfold mnr; exact h _ _ (by split <;> omega) (by omega))
   have h2 := over.mul (over_alt i (h i 0 hi (by omega))) h1
   rw [Nat.pow_succ, Nat.mul_comm (D ^ n) D]
   exact h2
theorem fp_congr {y z : Nat → Bool} (f r : Nat) (h : ∀ i, r ≤ i → i < r + f → y i = z i) : fp y f r = fp z f r := by
 induction f generalizing r with
 | zero => rfl
 | succ f ih => rw [fp, fp, h r (Nat.le_refl _) (by omega), ih (r + 1) (fun i h1 h2 => h i (by omega) (by omega))]
theorem zmm {n m : Nat} {A M : Mx} (b c : Bool) (h : ∀ i j, i < n → j < m → A i j = M i j) : ∀ k, k ≤ m →
 (elim b n A k).r = (elim c n M k).r ∧ (elim b n A k).d = (elim c n M k).d ∧ ∀ i j, (elim b n A k).r ≤ i → i < n → j < m → (elim b n A k).A i j = (elim c n M k).A i j
 | 0, _ => ⟨rfl, rfl, fun i j _ hi hj => h i j hi hj⟩
 | k + 1, hk => by
   obtain ⟨h1, h2, h3⟩ := zmm b c h k (by omega)
   have hr := (zme b n A k).1
   rw [elim, elim]
   obtain ⟨⟨X, r, d⟩, hX⟩ : ∃ S, elim b n A k = S := ⟨_, rfl⟩
   obtain ⟨⟨Y, s, e⟩, hY⟩ : ∃ S, elim c n M k = S := ⟨_, rfl⟩
   rw [hX, hY] at h1 h2 h3
   rw [hX] at hr
   rw [hX, hY]
   dsimp only at h1 h2 h3 hr
   subst h1 h2
   have hp : pvt n k ⟨X, r, d⟩ = pvt n k ⟨Y, r, d⟩ := fp_congr _ _ fun i hi1 hi2 => by
    have hi2 : i < r + (n - r) := hi2
    have hi1 : r ≤ i := hi1
    show decide (X i k ≠ 0) = decide (Y i k ≠ 0)
    rw [h3 i k hi1 (by omega) (by omega)]
   unfold zof
   rw [hp]
   have hge : r ≤ pvt n k ⟨Y, r, d⟩ := zlk n k ⟨Y, r, d⟩
   by_cases hlt : pvt n k ⟨Y, r, d⟩ < n
   ·rw [if_pos hlt, if_pos hlt]
    dsimp only
    generalize pvt n k ⟨Y, r, d⟩ = a at *
    have hsw : ∀ i j, r ≤ i → i < n → j < m → swp X r a i j = swp Y r a i j := fun i j hi hin hj => by
     unfold swp
     split
     ·exact h3 a j hge hlt hj
     ·split
      ·exact h3 r j (Nat.le_refl _) (by omega) hj
      ·exact h3 i j hi hin hj
    refine ⟨rfl, ?_, fun i j hi hin hj => ?_⟩
    ·rw [hsw r k (Nat.le_refl _) (by omega) (by omega)]
    ·have hi' : r < i := hi
     unfold zyi
     rw [hsw i j (by omega) hin hj, hsw i k (by omega) hin (by omega), hsw r k (Nat.le_refl _) (by omega) (by omega), hsw r j (Nat.le_refl _) (by omega) hj]
     have he : act b (swp X r a) r k i ↔ act c (swp Y r a) r k i := by
      unfold act
      rw [hsw i k (by omega) hin (by omega)]
      exact ⟨fun ⟨p, q, s⟩ => ⟨p, fun z => by omega, s⟩, fun ⟨p, q, s⟩ => ⟨p, fun z => by omega, s⟩⟩
     by_cases hact : act c (swp Y r a) r k i ∧ k ≤ j
     ·rw [if_pos hact, if_pos ⟨he.2 hact.1, hact.2⟩]
     ·rw [if_neg hact, if_neg (fun hh => hact ⟨he.1 hh.1, hh.2⟩)]
   ·rw [if_neg hlt, if_neg hlt]
    exact ⟨rfl, rfl, h3⟩
theorem hA_self {A : Mx} {a r : Nat} (h : a = r) : swp A r a = A := by
 subst h; funext i; unfold swp; split
 ·next h => rw [h]
 ·rfl
structure RowC (n : Nat) (P : Mx → Rat → Prop) : Prop where
 congr : ∀ A B s, (∀ i, i < n → A i = B i) → P A s → P B s
 swap : ∀ A s a b, a < n → b < n → a ≠ b → P A s → P (swp A a b) (-s)
 add : ∀ A s i r c, i < n → r < n → i ≠ r → P A s → P (zmc A i fun b => A i b + c * A r b) s
def sgs (b : Bool) (n : Nat) (A : Mx) : Nat → Rat
 | 0 => 1
 | k + 1 => if pvt n k (elim b n A k) < n then (if pvt n k (elim b n A k) = (elim b n A k).r then sgs b n A k else -sgs b n A k) else sgs b n A k
theorem zvd (b : Bool) (n : Nat) (A : Mx) : ∀ k i j, (elim b n A k).r ≤ i → i < n → j < k → (elim b n A k).A i j = 0
 | 0, i, j, _, _, hj => by omega
 | k + 1, i, j, hi, hin, hj => by
   have ih := zvd b n A k
   rw [elim, zof] at hi ⊢
   by_cases hlt : pvt n k (elim b n A k) < n
   ·rw [if_pos hlt] at hi ⊢
    dsimp only at hi ⊢
    have hge := zlk n k (elim b n A k)
    have hpn := pvt_ne (zme b n A k).1 hlt
    generalize pvt n k (elim b n A k) = a at *
    have hs : ∀ i j, (elim b n A k).r ≤ i → i < n → j < k → swp (elim b n A k).A (elim b n A k).r a i j = 0 := fun i j h1 h2 h3 => by
     unfold swp; split
     ·exact ih a j hge hlt h3
     ·split
      ·exact ih _ j (Nat.le_refl _) (by omega) h3
      ·exact ih i j h1 h2 h3
    unfold zyi
    by_cases hjk : j < k
    ·rw [if_neg (by omega)]; exact hs i j (by omega) hin hjk
    ·obtain rfl : j = k := by omega
     by_cases hz : swp (elim b n A j).A (elim b n A j).r a i j = 0
     ·rw [if_neg (fun h => h.1.2.2 hz)]; exact hz
     ·have hact : act b (swp (elim b n A j).A (elim b n A j).r a) (elim b n A j).r j i := ⟨by omega, fun z => by omega, hz⟩
      rw [if_pos ⟨hact, Nat.le_refl _⟩]
      by_cases hp : swp (elim b n A j).A (elim b n A j).r a (elim b n A j).r j = 0
      ·exfalso
       rw [zrj] at hp
       exact hpn hp
      ·rw [Rat.div_mul_cancel hp]; grind
   ·rw [if_neg hlt] at hi ⊢
    rcases Nat.lt_or_ge j k with h | h
    ·exact ih i j hi hin h
    ·obtain rfl : j = k := by omega
     have hall := fp_before (fun i => decide ((elim b n A j).A i j ≠ 0)) (n - (elim b n A j).r) (elim b n A j).r i hi (by unfold pvt at hlt; omega)
     simpa using hall
theorem redP_succ {b : Bool} {A : Mx} {r k e : Nat} (h0 : ∀ j, j < k → A r j = 0) (he : e ≠ r) :
 ∃ c, zrg b A r k (e + 1) = zmc (zrg b A r k e) e (fun j => zrg b A r k e e j + c * zrg b A r k e r j) := by
 by_cases hact : act b A r k e
 ·refine ⟨-(A e k / A r k), ?_⟩
  rw [zek, zjj]
  funext a j
  unfold zrg zmc
  by_cases h1 : a = e
  ·subst h1
   rw [if_pos (by omega), if_pos rfl]
   unfold zyi
   by_cases h2 : k ≤ j
   ·rw [if_pos ⟨hact, h2⟩]; grind
   ·rw [if_neg (fun h => h2 h.2), h0 j (by omega)]; grind
  ·rw [if_neg h1]
   show _ = if a < e then zyi b A r k a j else A a j
   by_cases h2 : a < e
   ·rw [if_pos h2, if_pos (show a < e + 1 by omega)]
   ·rw [if_neg h2, if_neg (show ¬ a < e + 1 by omega)]
 ·refine ⟨0, ?_⟩
  rw [zmh hact]
  have e1 : (fun j => zrg b A r k e e j + 0 * zrg b A r k e r j) = zrg b A r k e e := by funext j; grind
  rw [e1, zuf]
theorem redu_kept {n : Nat} {P : Mx → Rat → Prop} (hP : RowC n P) {b : Bool} {A : Mx} {r k : Nat} {s : Rat} (hr : r < n) (h0 : ∀ j, j < k → A r j = 0) (h : P A s) : P (zyi b A r k) s := by
 have key : ∀ e, e ≤ n → P (zrg b A r k e) s := by
  intro e
  induction e with
  | zero => intro _; rw [redP_zero]; exact h
  | succ e ih =>
    intro he
    by_cases her : e = r
    ·rw [zmh (fun ha => ha.1 her)]; exact ih (by omega)
    ·obtain ⟨c, hc⟩ := redP_succ (b := b) h0 her
     rw [hc]
     exact hP.add _ s e r c (by omega) hr her (ih (by omega))
 refine hP.congr _ _ s (fun i hi => ?_) (key n (Nat.le_refl _))
 funext j
 exact redP_all i j hi
theorem zyc {n : Nat} {P : Mx → Rat → Prop} (hP : RowC n P) (b : Bool) {A : Mx} (h : P A 1) : ∀ k, P (elim b n A k).A (sgs b n A k)
 | 0 => h
 | k + 1 => by
   have ih := zyc hP b h k
   have hl := zvd b n A k
   have hrn := (zme b n A k).1
   rw [elim, zof, sgs]
   by_cases hlt : pvt n k (elim b n A k) < n
   ·rw [if_pos hlt, if_pos hlt]
    dsimp only
    have hge := zlk n k (elim b n A k)
    generalize pvt n k (elim b n A k) = a at *
    have hr : (elim b n A k).r < n := by omega
    have hsw : P (swp (elim b n A k).A (elim b n A k).r a) (if a = (elim b n A k).r then sgs b n A k else -sgs b n A k) := by
     by_cases ha : a = (elim b n A k).r
     ·rw [if_pos ha, hA_self ha]; exact ih
     ·rw [if_neg ha]; exact hP.swap _ _ _ _ hr hlt (fun e => ha e.symm) ih
    refine redu_kept hP hr (fun j hj => ?_) hsw
    rw [zrj]
    exact hl a j hge hlt hj
   ·rw [if_neg hlt, if_neg hlt]; exact ih
end Go.Proofs.YtlpdkbmmbdfoiaaGreat
