/-
  The system of equations of two laws that run side by side. No program is walked here.
-/
import Derived.Test.YtlpdkbmmbdfoiaaGreatSDt2
import Derived.Test.YtlpdkbmmbdfoiaaGreatSPp1
set_option linter.unusedVariables false
set_option linter.unusedSimpArgs false
namespace Go.Proofs.YtlpdkbmmbdfoiaaGreat
open Go.RowKit
def mkF (w : World) (e : TypeId) (n : Nat) : World := w.alloc (.cells (madeCells #[Value.bool false, .slice none 0 0, .slice none 0 0] (n * 3)) e)
theorem mkF_size (w : World) (e : TypeId) (n : Nat) : (mkF w e n).heap.size = w.heap.size + 1 := by simp [mkF]
theorem zze (w : World) (e : TypeId) (n : Nat) : Below w.heap.size w (mkF w e n) := zca w _
theorem zkb.mkF (w : World) (e : TypeId) (n : Nat) (hn : n ≤ 128) : zkb (mkF w e n) e w.heap.size (.slice (some ⟨w.heap.size, 0, none⟩) n n) n := by
 have := World.ownsRow_lit (size := 3) (base := w.heap.size) w (madeCells #[Value.bool false, .slice none 0 0, .slice none 0 0] (n * 3)) (e := e) n (Nat.le_refl _) (by simp [maxLen]; omega) (size_madeCells _ _)
 refine ⟨w.heap.size, _, rfl, this, fun x hx z => ?_⟩
 have hx2 : x ∈ (madeCells #[Value.bool false, .slice none 0 0, .slice none 0 0] (n * 3)).toList := hx
 unfold madeCells at hx2
 simp only [Array.toList_map, List.mem_map, Array.mem_toList_iff] at hx2
 obtain ⟨k, hk, rfl⟩ := hx2
 have h7 : k % 3 < 3 := Nat.mod_lt _ (by decide)
 have h8 : (#[Value.bool false, .slice none 0 0, .slice none 0 0] : Array Value).size = 3 := rfl
 rw [h8]
 rcases (show k % 3 = 0 ∨ k % 3 = 1 ∨ k % 3 = 2 by omega) with h9 | h9 | h9 <;> rw [h9] <;> simp
theorem zkb.mkFB (w : World) (e : TypeId) (n a : Nat) (ha : w.heap.size = a) (hn : n ≤ 128) : zkb (Go.Proofs.YtlpdkbmmbdfoiaaGreat.mkF w e n) e a (.slice (some ⟨a, 0, none⟩) n n) n := by
 subst ha; exact zkb.mkF w e n hn
theorem run_mkF {P : Program} (t e : TypeId) (i : TypeInfo) (h1 : P.underlying t = some (.slice e)) (h2 : P.info? e = some i) (h3 : i.zero = some (.agg #[.bool false, .slice none 0 0, .slice none 0 0])) (h4 : i.size = 3) (h5 : i.bytes = 56)
 (n : Nat) (hn : n ≤ 128) (w : World) : (Instr.makeSlice t (.int .i64 (n : Int)) (.int .i64 (n : Int))).run P w = .ok (.slice (some ⟨w.heap.size, 0, none⟩) n n) (mkF w e n) := by
 have hb2 : (i.bytes : Int) * (n : Int) ≤ 281474976710656 := by rw [h5]; omega
 have hr := run_make (P := P) w t e i _ h1 h2 h3 .i64 .i64 n n (by omega) (Int.le_refl _) hb2 (by omega)
 simp only [Int.toNat_natCast] at hr
 rw [hr, h4]
 rfl
@[go_sem] theorem cell_mkF (w : World) (e : TypeId) (n : Nat) (p : Addr) (hp : p.block < w.heap.size) : (mkF w e n).cell? p = w.cell? p := (zze w e n).cell hp
@[go_sem] theorem frozen_mkF (w : World) (e : TypeId) (n : Nat) (p : Addr) (hp : p.block < w.heap.size) : (mkF w e n).frozen? p = w.frozen? p := (zze w e n).frozen hp
@[go_sem] theorem size_mkF (w : World) (e : TypeId) (n : Nat) : (mkF w e n).heap.size = w.heap.size + 1 := mkF_size w e n
structure BX (w : World) (B : Nat) (vM : Value) (rs : List Value) (n : Nat) (qs : Nat → List Rat) (vR : Value) (f : Nat → Rat) (vS : Value) (g : Nat → Rat) (k : Nat) : Prop where
 t : zej w B vM rs n qs
 r : zbc w 38 B vR n f (fun j => j < k)
 s : zbc w 38 B vS n g (fun j => j < k)
 nr : ∀ (i : Nat) (hi : i < rs.length), rs[i].ownBlock = none ∨ rs[i].ownBlock ≠ vR.ownBlock
 ns : ∀ (i : Nat) (hi : i < rs.length), rs[i].ownBlock = none ∨ rs[i].ownBlock ≠ vS.ownBlock
 rs : vR.ownBlock = none ∨ vR.ownBlock ≠ vS.ownBlock
 sz : B ≤ w.heap.size
section
variable {w w' : World} {B n k : Nat} {vM vR vS : Value} {rs : List Value} {qs : Nat → List Rat} {f g : Nat → Rat}
theorem zlj {a b : Value} (h : a.ownBlock = none ∨ a.ownBlock ≠ b.ownBlock) : b.ownBlock = none ∨ b.ownBlock ≠ a.ownBlock := by
 cases hb : b.ownBlock with
 | none => exact Or.inl rfl
 | some x =>
   refine Or.inr fun e => ?_
   rcases h with h | h
   ·rw [h] at e; cases e
   ·exact h (by rw [hb]; exact e.symm)
theorem BX.below (h : BX w B vM rs n qs vR f vS g k) (hb : Below w.heap.size w w') : BX w' B vM rs n qs vR f vS g k :=
 ⟨h.t.below hb, h.r.below hb, h.s.below hb, h.nr, h.ns, h.rs, Nat.le_trans h.sz hb.size⟩
theorem BX.put (h : BX w B vM rs n qs vR f vS g k) (hk : k < n) {r : Value} {q : List Rat} (hr : zbb w 38 B r q) (h1 : ∀ (i : Nat) (hi : i < rs.length), rs[i].ownBlock = none ∨ rs[i].ownBlock ≠ r.ownBlock) (h2 : r.ownBlock = none ∨ r.ownBlock ≠ vR.ownBlock) (h3 : r.ownBlock = none ∨ r.ownBlock ≠ vS.ownBlock)
 {x y z x' y' z' : Value} (hf : zya w (.agg #[x, y, z]) (f k)) (hg : zya w (.agg #[x', y', z']) (g k)) :
 let w1 := w.setCell (ptr vM k) r
 let w2 := ((w1.setCell (ptr vR (k * 3)) x).setCell (ptr vR (k * 3 + 1)) y).setCell (ptr vR (k * 3 + 2)) z
 let w3 := ((w2.setCell (ptr vS (k * 3)) x').setCell (ptr vS (k * 3 + 1)) y').setCell (ptr vS (k * 3 + 2)) z'
 BX w3 B vM (rs.set k r) n (fun i => if i = k then q else qs i) vR f vS g (k + 1) ∧ Below B w w3 ∧ zbc w1 38 B vR n f (fun j => j < k) ∧ zbc w2 38 B vS n g (fun j => j < k) := by
 intro w1 w2 w3
 obtain ⟨t, r', s', nr, ns, ers, sz⟩ := h
 have hkr : k < rs.length := by rw [t.rl]; exact hk
 obtain ⟨p1, g1⟩ := t.own.set1 k hkr r (fun z e => by obtain ⟨a1, a2, a3, e1, _⟩ := hr.sl; rw [e1] at e; cases e)
 have hnM := t.own.nl
 have kM : ∀ {v : Value} {m : Nat} {f' : Nat → Rat} {S : Nat → Prop}, zbc w 38 B v m f' S → v.ownBlock = none ∨ v.ownBlock ≠ vM.ownBlock := fun h => by
  obtain ⟨ys, y1, y2⟩ := id h
  exact y1.kinds t.own (by decide)
 have kF : ∀ {v : Value} {q' : List Rat}, zbb w 38 B v q' → v.ownBlock = none ∨ v.ownBlock ≠ vM.ownBlock := fun h => by
  obtain ⟨ys, y1, y2⟩ := id h
  exact y1.kinds t.own (by decide)
 have r1 := r'.grown g1 hnM (kM r')
 have s1 := s'.grown g1 hnM (kM s')
 have t1 : zej w1 B vM (rs.set k r) n (fun i => if i = k then q else qs i) := ⟨p1, fun i hi => by
  have hi0 : i < rs.length := by simpa using hi
  by_cases e : i = k
  ·subst e
   rw [List.getElem_set_self, if_pos rfl]
   exact hr.grown g1 hnM (kF hr)
  ·rw [List.getElem_set_ne (fun e' => e e'.symm), if_neg e]
   exact (t.row i hi0).grown g1 hnM (kF (t.row i hi0)), fun i j hi hj hij => by
  have hi0 : i < rs.length := by simpa using hi
  have hj0 : j < rs.length := by simpa using hj
  by_cases e : i = k
  ·subst e
   rw [List.getElem_set_self, List.getElem_set_ne hij]
   exact zlj (h1 j hj0)
  ·rw [List.getElem_set_ne (fun e' => e e'.symm)]
   by_cases e2 : j = k
   ·subst e2
    rw [List.getElem_set_self]
    exact h1 i hi0
   ·rw [List.getElem_set_ne (fun e' => e2 e'.symm)]
    exact t.ap i j hi0 hj0 hij⟩
 have nr1 : ∀ (i : Nat) (hi : i < (rs.set k r).length), (rs.set k r)[i].ownBlock = none ∨ (rs.set k r)[i].ownBlock ≠ vR.ownBlock := fun i hi => by
  have hi0 : i < rs.length := by simpa using hi
  by_cases e : i = k
  ·subst e; rw [List.getElem_set_self]; exact h2
  ·rw [List.getElem_set_ne (fun e' => e e'.symm)]; exact nr i hi0
 have ns1 : ∀ (i : Nat) (hi : i < (rs.set k r).length), (rs.set k r)[i].ownBlock = none ∨ (rs.set k r)[i].ownBlock ≠ vS.ownBlock := fun i hi => by
  have hi0 : i < rs.length := by simpa using hi
  by_cases e : i = k
  ·subst e; rw [List.getElem_set_self]; exact h3
  ·rw [List.getElem_set_ne (fun e' => e e'.symm)]; exact ns i hi0
 have hf1 := hf.grown g1 hnM
 have hg1 := hg.grown g1 hnM
 obtain ⟨r2, g2⟩ := r1.put hk hf1
 have hnR := r1.noLimb
 have kR : vM.ownBlock = none ∨ vM.ownBlock ≠ vR.ownBlock := zlj (kM r')
 have t2 : zej w2 B vM (rs.set k r) n (fun i => if i = k then q else qs i) := ⟨t1.own.grown g2 kR, fun i hi => (t1.row i hi).grown g2 hnR (nr1 i hi), t1.ap⟩
 have s2 := s1.grown g2 hnR (zlj ers)
 have hg2 := hg1.grown g2 hnR
 obtain ⟨s3, g3⟩ := s2.put hk hg2
 have hnS := s2.noLimb
 have kS : vM.ownBlock = none ∨ vM.ownBlock ≠ vS.ownBlock := zlj (kM s')
 have t3 : zej w3 B vM (rs.set k r) n (fun i => if i = k then q else qs i) := ⟨t2.own.grown g3 kS, fun i hi => (t2.row i hi).grown g3 hnS (ns1 i hi), t2.ap⟩
 have r3 := r2.grown g3 hnS ers
 have b1 := zla g1 sz (fun k hk => (t.own.block k hk).1)
 have b2 := zla g2 (Nat.le_trans sz b1.size) (fun k hk => (r1.block k hk).1)
 have b3 := zla g3 (Nat.le_trans sz (Nat.le_trans b1.size b2.size)) (fun k hk => (s2.block k hk).1)
 have hb := (b1.trans b2).trans b3
 exact ⟨⟨t3, r3.succ, s3.succ, nr1, ns1, ers, Nat.le_trans sz hb.size⟩, hb, r1, s2⟩
theorem BX.matF (h : BX w B vM rs n qs vR f vS g k) {A : Mx} (hq : ∀ i, i < n → qs i = zfb n (A i)) : zol w vM n n A := ⟨h.t.own.sl, h.t.own.len, fun k hk => by
 have hk2 : k < rs.length := by rw [h.t.rl]; exact hk
 refine ⟨rs[k], h.t.own.cell k hk2, ?_⟩
 have h1 := (h.t.row k hk2).fracs
 rwa [hq k hk] at h1⟩
end
end Go.Proofs.YtlpdkbmmbdfoiaaGreat
namespace Go.Proofs.YtlpdkbmmbdfoiaaGreat
section
variable (a b : LQ)
def bfN : Nat := a.start.length * b.start.length
def bf1 (i j k : Nat) : Nat → Rat := fun c => if c = i * b.start.length + j then zpf a i + zpf b j else if c % b.start.length = j ∧ c / b.start.length < k then 0 - rtQ a i (c / b.start.length) else 0
def bf2 (i j k : Nat) : Nat → Rat := fun c => if c = i * b.start.length + j then zpf a i + zpf b j else if c % b.start.length = j then 0 - rtQ a i (c / b.start.length) else if c / b.start.length = i ∧ c % b.start.length < k then 0 - rtQ b j (c % b.start.length) else 0
def bfA : Mx := fun r => bf2 a b (r / b.start.length) (r % b.start.length) b.start.length
def bfR (r : Nat) : Rat := exQ a (r / b.start.length)
def bfS (r : Nat) : Rat := stQ a (r / b.start.length) * stQ b (r % b.start.length)
def befX : Nat → Rat := solE (bfN a b) (bfA a b) (bfR a b)
def befQ : Rat := dotL (zfb (bfN a b) (bfS a b)) (zfb (bfN a b) (befX a b)) (bfN a b) * fq false 1 1
structure BefP : Prop where
 sys : SysOk (bfN a b) (bfA a b) (bfR a b) (befX a b)
 sca : ScaP (zfb (bfN a b) (bfS a b)) (zfb (bfN a b) (befX a b)) 1
end
theorem zag {n i j : Nat} (hj : j < n) : (i * n + j) / n = i := by
 rw [Nat.mul_comm, Nat.mul_add_div (by omega), Nat.div_eq_of_lt hj, Nat.add_zero]
theorem zcj {n i j : Nat} (hj : j < n) : (i * n + j) % n = j := by
 rw [Nat.mul_comm, Nat.mul_add_mod, Nat.mod_eq_of_lt hj]
theorem at_lt {m n i j : Nat} (hi : i < m) (hj : j < n) : i * n + j < m * n := by
 have h := Nat.mul_le_mul_right n (show i + 1 ≤ m from hi)
 rw [Nat.add_mul] at h
 omega
theorem at_eq {n c : Nat} : (c / n) * n + c % n = c := by
 rw [Nat.mul_comm]; exact Nat.div_add_mod c n
section
variable {a b : LQ}
theorem bf1_start {i j c : Nat} : bf1 a b i j 0 c = if c = i * b.start.length + j then zpf a i + zpf b j else 0 := by
 unfold bf1
 by_cases h : c = i * b.start.length + j
 ·rw [if_pos h, if_pos h]
 ·rw [if_neg h, if_neg h, if_neg (fun h => absurd h.2 (Nat.not_lt_zero _))]
theorem bf1_step (ha : zkc a) {i j k : Nat} (hi : i < a.start.length) (hj : j < b.start.length) : bf1 a b i j k (k * b.start.length + j) - rtQ a i k = bf1 a b i j (k + 1) (k * b.start.length + j) := by
 unfold bf1
 rw [zag hj, zcj hj]
 by_cases h : k = i
 ·subst h
  rw [if_pos rfl, if_pos rfl, ha.rt_diag hi]
  grind
 ·have h2 : ¬ k * b.start.length + j = i * b.start.length + j := fun e => by
   have h3 : k * b.start.length = i * b.start.length := by omega
   exact h (Nat.eq_of_mul_eq_mul_right (by omega) h3)
  rw [if_neg h2, if_neg h2, if_neg (fun h => absurd h.2 (Nat.lt_irrefl _)), if_pos ⟨rfl, Nat.lt_succ_self _⟩]
theorem bf1_other {i j k c : Nat} (hj : j < b.start.length) (hc : c ≠ k * b.start.length + j) : bf1 a b i j k c = bf1 a b i j (k + 1) c := by
 unfold bf1
 by_cases h : c = i * b.start.length + j
 ·rw [if_pos h, if_pos h]
 ·rw [if_neg h, if_neg h]
  by_cases h2 : c % b.start.length = j ∧ c / b.start.length < k
  ·rw [if_pos h2, if_pos ⟨h2.1, Nat.lt_succ_of_lt h2.2⟩]
  ·rw [if_neg h2]
   by_cases h3 : c % b.start.length = j ∧ c / b.start.length < k + 1
   ·exfalso
    have h4 : c / b.start.length = k := Nat.le_antisymm (Nat.lt_succ_iff.1 h3.2) (Nat.not_lt.1 fun h => h2 ⟨h3.1, h⟩)
    exact hc (by rw [← h4, ← h3.1]; exact at_eq.symm)
   ·rw [if_neg h3]
theorem bf_meet {i j c : Nat} (hc : c < bfN a b) : bf1 a b i j a.start.length c = bf2 a b i j 0 c := by
 have h4 : c / b.start.length < a.start.length := Nat.div_lt_of_lt_mul (by rw [Nat.mul_comm]; exact hc)
 unfold bf1 bf2
 by_cases h : c = i * b.start.length + j
 ·rw [if_pos h, if_pos h]
 ·rw [if_neg h, if_neg h]
  by_cases h2 : c % b.start.length = j
  ·rw [if_pos ⟨h2, h4⟩, if_pos h2]
  ·rw [if_neg (fun h => h2 h.1), if_neg h2, if_neg (fun h => absurd h.2 (Nat.not_lt_zero _))]
theorem bf2_step (hb : zkc b) {i j k : Nat} (hj : j < b.start.length) (hk : k < b.start.length) : bf2 a b i j k (i * b.start.length + k) - rtQ b j k = bf2 a b i j (k + 1) (i * b.start.length + k) := by
 unfold bf2
 rw [zag hk, zcj hk]
 by_cases h : k = j
 ·subst h
  rw [if_pos rfl, if_pos rfl, hb.rt_diag hj]
  grind
 ·have h2 : ¬ i * b.start.length + k = i * b.start.length + j := fun e => h (by omega)
  rw [if_neg h2, if_neg h2, if_neg h, if_neg (fun h => absurd h.2 (Nat.lt_irrefl _)), if_neg h, if_pos ⟨rfl, Nat.lt_succ_self _⟩]
theorem bf2_other {i j k c : Nat} (hc : c ≠ i * b.start.length + k) : bf2 a b i j k c = bf2 a b i j (k + 1) c := by
 unfold bf2
 by_cases h : c = i * b.start.length + j
 ·rw [if_pos h, if_pos h]
 ·rw [if_neg h, if_neg h]
  by_cases h1 : c % b.start.length = j
  ·rw [if_pos h1, if_pos h1]
  ·rw [if_neg h1, if_neg h1]
   by_cases h2 : c / b.start.length = i ∧ c % b.start.length < k
   ·rw [if_pos h2, if_pos ⟨h2.1, Nat.lt_succ_of_lt h2.2⟩]
   ·rw [if_neg h2]
    by_cases h3 : c / b.start.length = i ∧ c % b.start.length < k + 1
    ·exfalso
     have h4 : c % b.start.length = k := Nat.le_antisymm (Nat.lt_succ_iff.1 h3.2) (Nat.not_lt.1 fun h => h2 ⟨h3.1, h⟩)
     exact hc (by rw [← h4, ← h3.1]; exact at_eq.symm)
    ·rw [if_neg h3]
theorem lsum_app (l : List Rat) : ∀ m : List Rat, zwg (l ++ m) = zwg l + zwg m := by
 intro m
 have key : ∀ (m : List Rat) (x : Rat), List.foldl (· + ·) x m = x + List.foldl (· + ·) 0 m := by
  intro m
  induction m with
  | nil => intro x; show x = x + 0; grind
  | cons y m ih =>
    intro x
    show List.foldl (· + ·) (x + y) m = x + List.foldl (· + ·) (0 + y) m
    rw [ih (x + y), ih (0 + y)]
    grind
 unfold zwg
 rw [List.foldl_append]
 exact key m _
theorem outQ_fits (ha : zkc a) {i : Nat} (hi : i < a.start.length) : fits (zpf a i) := by
 have h := ha.outL hi
 refine lim_sum (List.Sublist.refl _) h ?_
 rw [List.length_append, ha.rowlen hi]
 have := ha.n4
 simp; omega
theorem zok (ha : zkc a) (hb : zkc b) {i j : Nat} (hi : i < a.start.length) (hj : j < b.start.length) : fits (zpf a i + zpf b j) := by
 have h1 := ha.outL hi
 have h2 := hb.outL hj
 unfold zpf
 rw [← lsum_app]
 refine lim_sum (List.Sublist.refl _) (fun q hq => ?_) ?_
 ·rcases List.mem_append.1 hq with h | h
  ·exact h1 q h
  ·exact h2 q h
 ·rw [List.length_append, List.length_append, List.length_append, ha.rowlen hi, hb.rowlen hj]
  have := ha.n4
  have := hb.n4
  simp; omega
theorem fits_ng {q : Rat} (h : fits q) : fits (0 - q) := by
 rw [Rat.sub_eq_add_neg, Rat.zero_add]
 exact ⟨by rw [Rat.neg_num, Int.natAbs_neg]; exact h.1, h.2⟩
theorem bf1_fits (ha : zkc a) (hb : zkc b) {i j k c : Nat} (hi : i < a.start.length) (hj : j < b.start.length) (hc : c < bfN a b) : fits (bf1 a b i j k c) := by
 have h4 : c / b.start.length < a.start.length := Nat.div_lt_of_lt_mul (by rw [Nat.mul_comm]; exact hc)
 unfold bf1
 split
 ·exact zok ha hb hi hj
 ·split
  ·exact fits_ng (ha.rt_lim hi h4).fits
  ·decide
theorem bf2_fits (ha : zkc a) (hb : zkc b) {i j k c : Nat} (hi : i < a.start.length) (hj : j < b.start.length) (hc : c < bfN a b) : fits (bf2 a b i j k c) := by
 have h4 : c / b.start.length < a.start.length := Nat.div_lt_of_lt_mul (by rw [Nat.mul_comm]; exact hc)
 have h5 : c % b.start.length < b.start.length := Nat.mod_lt _ (by omega)
 unfold bf2
 split
 ·exact zok ha hb hi hj
 ·split
  ·exact fits_ng (ha.rt_lim hi h4).fits
  ·split
   ·exact fits_ng (hb.rt_lim hj h5).fits
   ·decide
end
end Go.Proofs.YtlpdkbmmbdfoiaaGreat
