/-
  Tape.Chain, the inner loop's state. No code is walked here.
-/
import Derived.Test.YtlpdkbmmbdfoiaaGreatFKeep
import Derived.Test.YtlpdkbmmbdfoiaaGreatFPk0
import Derived.Test.YtlpdkbmmbdfoiaaGreatFTa4
import Derived.Test.YtlpdkbmmbdfoiaaGreatFStep
import Derived.Test.YtlpdkbmmbdfoiaaGreatFOwR
import Derived.Test.YtlpdkbmmbdfoiaaGreatFRb5
import Derived.Test.YtlpdkbmmbdfoiaaGreatFFr3
import Derived.Test.YtlpdkbmmbdfoiaaGreatFPh4
import Derived.Deep.CutRange
import Derived.Deep.DeepCutAuto
import Derived.Deep.LoopGhost
import Derived.Deep.RegionHeld3
import Derived.Lib.SliceRun
set_option linter.unusedVariables false
set_option linter.unusedSimpArgs false
namespace Go.Proofs.YtlpdkbmmbdfoiaaGreat
open Go.RowKit
structure zam (w : World) (v : Value) (n m : Nat) (A : Mx) : Prop where
 sl : zgc v
 len : slen v = n
 row : ∀ i, i < n → ∃ r, w.cell? (ptr v i) = some r ∧ zbb w r (zib m (A i))
theorem zam.below {w w' : World} {v : Value} {n m : Nat} {A : Mx} (h : zam w v n m A) (hb : Below w.heap.size w w') : zam w' v n m A :=
 ⟨h.sl, h.len, fun i hi => by obtain ⟨r, h1, h2⟩ := h.row i hi; exact ⟨r, zba hb h1, h2.below hb⟩⟩
theorem zcg {P : Program} (t e : TypeId) (i : TypeInfo) (ht : P.underlying t = some (.slice e)) (hi : P.info? e = some i) (hz : i.zero = some (.agg #[.bool false, .slice none 0 0, .slice none 0 0])) (hsize : i.size = 3) (hby : i.bytes = 56)
 {ops : Array Oper} {o : Oper} {a : Act} {w : World} {K : Act → World → Prop} {Q : Exit → Act → World → Prop} {E : Prop} (hgd : o.guard = none) (s x : Operand)
 (ho : o.op = .call { callee := .builtin .append, args := #[s, x], argTypes := #[t, t] }) (B : Nat) (v : Value) (q : List Rat) (hs : a.eval s = v) (hown : zya w e B v q) (c0 c1 c2 : Value) (r : Rat) (hf : zqa w (.agg #[c0, c1, c2]) r) (g : Nat) (hxe : a.eval x = .slice (some ⟨g, 0, none⟩) 1 1)
 (hc : zjf w g #[c0, c1, c2]) (hn : q.length ≤ 1000) (hbase : B ≤ w.heap.size)
 (h : ∀ v' w', zya w' e B v' (q ++ [r]) → w.grownBy w' v.ownBlock → zlb w v → (v'.ownBlock = v.ownBlock ∨ v'.ownBlock = some w.heap.size) → K (a.put o.dst v') w') :
 if Region.wanted o (yielded ops a.tmps) = true then Oper.wp P o a w K Q else E := by
 obtain ⟨xs, h1, h2⟩ := hown
 have hl : xs.length = q.length * 3 := h1.clen
 obtain ⟨a1, b1, ha, h4, h5⟩ := id hf
 injection ha with ha
 injection ha with ha
 simp only [List.cons.injEq, and_true] at ha
 obtain ⟨rfl, rfl, rfl⟩ := ha
 obtain ⟨p1, p2, p3, rfl, _⟩ := h4.v.sl
 obtain ⟨s1, s2, s3, rfl, _⟩ := h5.v.sl
 rw [if_pos (by simp [Region.wanted, hgd])]
 obtain ⟨v', w', hr, k2, k3, k4, k5⟩ := zwd (P := P) w B t o.type e i _ 3 56 ht hi hz hsize hby rfl (by decide) v q.length xs h1.own ⟨g, 0, none⟩ 1 1 [.bool (decide (r < 0)), .slice p1 p2 p3, .slice s1 s2 s3] rfl
  (fun j u hu => by
   rw [Addr.add_lit, Nat.zero_add]
   exact hc.cell j (by simpa using hu)) (fun u hu => by simp at hu; rcases hu with rfl | rfl | rfl <;> rfl) (by simp [maxLen]; omega) (by omega) hbase h1.nl (fun u hu z => by simp at hu; rcases hu with rfl | rfl | rfl <;> simp) (fun c hc z => by
   have hc2 : c ∈ [Value.bool false, .slice none 0 0, .slice none 0 0] := hc
   simp at hc2; rcases hc2 with rfl | rfl <;> simp)
 unfold Oper.wp execOp
 simp only [ho, resolve, invoke, builtin, Sem.run_bind, Sem.run_pure, Result.andThen_ok, List.map_toArray, List.map_cons, List.map_nil, hs, hxe, hr]
 refine h v' w' ⟨_, ?_, (zwe.snoc (r := r) h2 hl hf).grown k3 h1.nl⟩ k3 h1.nl k4
 rw [List.length_append]
 exact ⟨k2, k5⟩
theorem zbi {P : Program} (t e : TypeId) (i : TypeInfo) (h1 : P.underlying t = some (.slice e)) (h2 : P.info? e = some i) (h3 : i.zero = some (.slice none 0 0)) (h4 : i.size = 1) (h5 : i.bytes = 24)
 (w : World) {ops : Array Oper} {rest : List Oper} {o : Oper} {a : Act} {Q : Exit → Act → World → Prop} (hg : o.guard = none) (l c : Operand) (hop : o.op = Op.makeSlice t l c)
 (B : Nat) (u : Int) (n : Nat) (hu : u = n) (hl : a.eval l = .int .i64 u) (hc : a.eval c = .int .i64 u) (b2 : n ≤ 1000) (b4 : B ≤ w.heap.size)
 (hK : ∀ v w', zlc w' e B 1 v n (List.replicate n (.slice none 0 0)) → Below w.heap.size w w' → wpList P ops Q rest (a.put o.dst v) w') :
 wpList P ops Q (o :: rest) a w := by
 subst hu
 refine wpList_make_full w hg l c t hop B e i _ 1 h1 h2 h3 h4 .i64 .i64 n n n hl hc rfl rfl (by rw [h5]; omega) (by unfold maxLen; omega) b4 ?_
 intro w' hown hgr
 have hcs : (madeCells (Value.slice none 0 0).cells (n * 1)).toList = List.replicate n (.slice none 0 0) := by
  rw [show (Value.slice none 0 0).cells = #[.slice none 0 0] from rfl, Nat.mul_one, toList_madeCells_one]
 rw [hcs] at hown
 refine hK _ w' ⟨hown, ?_⟩ (zna hgr (Nat.le_refl _) (fun k hk => by cases hk))
 intro g' hg' cur e' fz hcc x hx z
 rcases hown.2 with ⟨h', _⟩ | ⟨g2, cap, cur2, h', hb, hgg, _, _, hs, ht⟩
 ·cases h'
 ·injection h' with k4 k5 k6
  injection k4 with k4
  injection k4 with k4
  simp only [Value.ownBlock, Option.some.injEq] at hg'
  rw [← hg', k4, hgg] at hcc
  injection hcc with hcc
  injection hcc with hcc _ _
  subst hcc
  have e9 : cur2.toList = List.replicate n (.slice none 0 0) := by
   rw [← ht]
   exact (List.take_of_length_le (by rw [Array.length_toList, hs, ← k6]; exact Nat.le_refl _)).symm
  rw [e9] at hx
  rw [List.eq_of_mem_replicate hx]; simp
structure zrj (w : World) (B : Nat) (vO : Value) (rs : List Value) (n : Nat) (qs : Nat → List Rat) : Prop where
 own : zlc w 25 B 1 vO n rs
 row : ∀ (i : Nat) (h : i < rs.length), zya w 38 B rs[i] (qs i)
 ap : ∀ (i j : Nat) (hi : i < rs.length) (hj : j < rs.length), i ≠ j → rs[i].ownBlock = none ∨ rs[i].ownBlock ≠ rs[j].ownBlock
section
variable {w w' : World} {B n : Nat} {vO : Value} {rs : List Value} {qs : Nat → List Rat}
theorem zrj.rl (h : zrj w B vO rs n qs) : rs.length = n := by have := h.own.clen; omega
theorem zrj.start (h : zlc w 25 B 1 vO n (List.replicate n (.slice none 0 0))) : zrj w B vO (List.replicate n (.slice none 0 0)) n (fun _ => []) :=
 ⟨h, fun i hi => by rw [List.getElem_replicate]; exact zya.nil _ _ _, fun i j hi hj _ => Or.inl (by rw [List.getElem_replicate]; rfl)⟩
theorem zrj.below (h : zrj w B vO rs n qs) (hb : Below w.heap.size w w') : zrj w' B vO rs n qs :=
 ⟨h.own.below hb, fun i hi => (h.row i hi).moves (zhb.below (B := B) hb) (Nat.le_refl _), h.ap⟩
theorem zrj.set (h : zrj w B vO rs n qs) {i : Nat} (hi : i < rs.length) {v' : Value} {q : List Rat} (hB : B ≤ w.heap.size) (hv : zya w' 38 B v' q) (hg : w.grownBy w' rs[i].ownBlock) (hn : zlb w rs[i]) (hob : v'.ownBlock = rs[i].ownBlock ∨ v'.ownBlock = some w.heap.size) :
 zrj (w'.setCell (ptr vO i) v') B vO (rs.set i v') n (fun k => if k = i then q else qs k) ∧ Below B w (w'.setCell (ptr vO i) v') := by
 obtain ⟨own, row, ap⟩ := h
 obtain ⟨ys, y1, y2⟩ := id (row i hi)
 have own' := own.grown hg (own.kinds y1 (by decide))
 have hlen : rs.length = n := by have := own.clen; omega
 obtain ⟨s1, s2⟩ := own'.set1 i hi v' (fun z e => by obtain ⟨a1, a2, a3, e1, _⟩ := hv.sl; rw [e1] at e; cases e)
 have hbr := (row i hi).block
 have hbo := own.block
 refine ⟨⟨s1, fun k hk => ?_, fun j k hj hk hjk => ?_⟩, (zna hg hB (fun k hk => (hbr k hk).1)).trans (zna s2 (Nat.le_trans hB hg.size) (fun k hk => (hbo k hk).1))⟩
 ·have hk0 : k < rs.length := by simpa using hk
  by_cases hki : k = i
  ·subst hki
   rw [List.getElem_set_self, if_pos rfl]
   obtain ⟨zs, z1, z2⟩ := id hv
   exact hv.grown s2 own'.nl (z1.kinds own' (by decide))
  ·rw [List.getElem_set_ne (fun e => hki e.symm), if_neg hki]
   obtain ⟨zs, z1, z2⟩ := id (row k hk0)
   have hk1 := (row k hk0).grown hg hn (ap k i hk0 hi hki)
   exact hk1.grown s2 own'.nl (z1.kinds own (by decide))
 ·have hj0 : j < rs.length := by simpa using hj
  have hk0 : k < rs.length := by simpa using hk
  by_cases h1 : j = i
  ·subst h1
   rw [List.getElem_set_self, List.getElem_set_ne hjk]
   rcases hob with h | h
   ·rw [h]; exact ap j k hj0 hk0 hjk
   ·rw [h]; refine Or.inr (fun e => ?_)
    have := ((row k hk0).block _ e.symm).2
    omega
  ·rw [List.getElem_set_ne (fun e => h1 e.symm)]
   by_cases h2 : k = i
   ·subst h2
    rw [List.getElem_set_self]
    rcases hob with h | h
    ·rw [h]; exact ap j k hj0 hk0 hjk
    ·rw [h]; refine Or.inr (fun e => ?_)
     have := ((row j hj0).block _ e).2
     omega
   ·rw [List.getElem_set_ne (fun e => h2 e.symm)]; exact ap j k hj0 hk0 hjk
end
@[go_sem ↓] theorem zdm {P : Program} (w : World) {t : TypeId} {v : Value} {lo : Int} (h : zgc v) (ht : P.underlying t = some (.slice (P.elem t))) (h0 : 0 ≤ lo) (h1 : lo ≤ (slen v : Int)) :
 (Instr.slice t v (some (.int .i64 lo)) none none).run P w = ((sizeOf (P.elem t)).run P w).andThen fun s w => .ok (cut s v lo.toNat (slen v)) w := by
  obtain ⟨a, n, cap, rfl, hn, _, h3⟩ := h
  simp only [slen] at h1
  have h00 : (n : Int) ≤ cap := by omega
  simp [Instr.slice, run_underlying ht, Instr.sliceBounds, Instr.sliceBound, asIntOf, h0, h1, h00, cut, slen]
theorem zbb.drop {w : World} {v : Value} {q : List Rat} (h : zbb w v q) (lo : Nat) (hlo : lo < q.length) : zbb w (cut 3 v lo (slen v)) (q.drop lo) := by
 have hl := h.len
 have hle := h.sl.le
 refine ⟨h.sl.cut (by omega) hle.1, by rw [h.sl.slen_cut, List.length_drop, hl], fun j hj => ?_⟩
 have hj2 : lo + j < q.length := by rw [List.length_drop] at hj; omega
 obtain ⟨a, b, h1, h2, h3, h4, h5⟩ := h.at' (lo + j) hj2
 have e : (q.drop lo)[j]'hj = q[lo + j]'hj2 := by rw [List.getElem_drop]
 rw [e]
 rw [zwk h.sl (by omega), zwk h.sl (by omega), zwk h.sl (by omega)]
 exact ⟨a, b, by rw [show lo * 3 + j * 3 = (lo + j) * 3 by omega]; exact h1, by rw [show lo * 3 + (j * 3 + 1) = (lo + j) * 3 + 1 by omega]; exact h2, by rw [show lo * 3 + (j * 3 + 2) = (lo + j) * 3 + 2 by omega]; exact h3, h4, h5⟩
theorem zrj.congr {w : World} {B n : Nat} {vO : Value} {rs : List Value} {p q : Nat → List Rat} (h : zrj w B vO rs n p) (hpq : ∀ i, i < n → p i = q i) : zrj w B vO rs n q :=
 ⟨h.own, fun i hi => by rw [← hpq i (by rw [← h.rl]; exact hi)]; exact h.row i hi, h.ap⟩
theorem zlk (k : Nat) (f : Nat → Rat) : zib k f ++ [f k] = zib (k + 1) f := by
 unfold zib; rw [List.range_succ, List.map_append]; rfl
def rawM (n m : Nat) (A : Mx) : List (List RF) := (List.range n).map fun i => (zib m (A i)).map RF.of
theorem zpc (n m : Nat) (A : Mx) : (rawM n m A).length = n := by simp [rawM]
theorem rawM_get (n m : Nat) (A : Mx) (i : Nat) (h : i < (rawM n m A).length) : (rawM n m A)[i] = (zib m (A i)).map RF.of := by simp [rawM]
theorem zam.raw {w : World} {v : Value} {n m : Nat} {A : Mx} (h : zam w v n m A) : MatN w v (rawM n m A) :=
 ⟨h.sl, by rw [h.len, zpc], fun j hj => by
  rw [zpc] at hj
  obtain ⟨r, h1, h2⟩ := h.row j hj
  exact ⟨r, h1, by rw [rawM_get]; exact h2.raw⟩⟩
def fitM (n m : Nat) (A : Mx) : Prop := ∀ i j, i < n → j < m → fits (A i j)
theorem zgn {n m : Nat} {A : Mx} {l : List RF} (h : l ∈ rawM n m A) : ∃ i, i < n ∧ l = (zib m (A i)).map RF.of := by
 obtain ⟨i, hi, rfl⟩ := List.mem_map.1 h
 exact ⟨i, List.mem_range.1 hi, rfl⟩
theorem rawM_ok {n m : Nat} {A : Mx} (hf : fitM n m A) : ∀ l ∈ rawM n m A, ∀ x ∈ l, x.ok := by
 intro l hl x hx
 obtain ⟨i, hi, rfl⟩ := zgn hl
 obtain ⟨q, hq, rfl⟩ := List.mem_map.1 hx
 obtain ⟨j, hj, rfl⟩ := List.mem_map.1 hq
 exact RF.of_ok (hf i j hi (List.mem_range.1 hj))
theorem zhn {n m : Nat} {A : Mx} : ∀ l ∈ rawM n m A, l.length = m := by
 intro l hl
 obtain ⟨i, hi, rfl⟩ := zgn hl
 rw [List.length_map, zea]
theorem zth {n m : Nat} {A : Mx} (hn : 1 ≤ n) : ((rawM n m A).headD []).length = m := by
 cases h : rawM n m A with
 | nil => have := zpc n m A; rw [h] at this; simp at this; omega
 | cons a l => exact zhn (A := A) (n := n) a (by rw [h]; simp)
def wtF (n m : Nat) (A : Mx) : Nat := wtsM (rawM n m A)
theorem zbb.setc {w : World} {v : Value} {q : List Rat} (h : zbb w v q) {p : Addr} {x : Value} (hp : (base v).block ≠ p.block) (hc : w.cell? p = some x) (hx : ∀ z, x ≠ .int .u32 z) (u : Value) : zbb (w.setCell p u) v q := by
 have hne : ∀ k, p ≠ ptr v k := fun k e => hp (by rw [e, zsa])
 refine ⟨h.sl, h.len, fun j hj => ?_⟩
 obtain ⟨a, b, h1, h2, h3, h4, h5⟩ := h.at' j hj
 exact ⟨a, b, by rw [World.cell?_setCell_other _ _ _ _ (hne _)]; exact h1, by rw [World.cell?_setCell_other _ _ _ _ (hne _)]; exact h2, by rw [World.cell?_setCell_other _ _ _ _ (hne _)]; exact h3, ⟨h4.v.over hc hx u, h4.2⟩, ⟨h5.v.over hc hx u, h5.2⟩⟩
theorem fracs_one {w : World} {b : Nat} {x y z : Value} {r : Rat} (hb : zjf w b #[x, y, z]) (hf : zqa w (.agg #[x, y, z]) r) : zbb w (.slice (some ⟨b, 0, none⟩) 1 1) [r] := by
 obtain ⟨a1, b1, ha, h4, h5⟩ := hf
 injection ha with ha
 injection ha with ha
 simp only [List.cons.injEq, and_true] at ha
 obtain ⟨rfl, rfl, rfl⟩ := ha
 refine ⟨⟨_, 1, 1, rfl, Nat.le_refl _, by simp [maxLen], fun e => by cases e⟩, rfl, fun j hj => ?_⟩
 obtain rfl : j = 0 := by simp at hj; omega
 have hp : ∀ k, ptr (.slice (some ⟨b, 0, none⟩) 1 1) k = ⟨b, k, none⟩ := fun k => by simp only [ptr, base, Addr.add_lit, Nat.zero_add]
 exact ⟨y, z, by rw [hp]; exact hb.cell 0 rfl, by rw [hp]; exact hb.cell 1 rfl, by rw [hp]; exact hb.cell 2 rfl, h4, h5⟩
theorem mat_one {w : World} {b : Nat} {r : Value} {q : List RF} (hb : zjf w b #[r]) (hq : zni w r q) : MatN w (.slice (some ⟨b, 0, none⟩) 1 1) [q] := by
 refine ⟨⟨_, 1, 1, rfl, Nat.le_refl _, by simp [maxLen], fun e => by cases e⟩, rfl, fun j hj => ?_⟩
 obtain rfl : j = 0 := by simp at hj; omega
 have hp : ∀ k, ptr (.slice (some ⟨b, 0, none⟩) 1 1) k = ⟨b, k, none⟩ := fun k => by simp only [ptr, base, Addr.add_lit, Nat.zero_add]
 exact ⟨r, by rw [hp]; exact hb.cell 0 rfl, hq⟩
theorem zvh (l : List Rat) : qs (l.map RF.of) = l := by
 unfold qs; rw [List.map_map]
 have : (RF.q ∘ RF.of) = id := by funext q; exact RF.of_q q
 rw [this, List.map_id]
theorem wts_rowL {n K : Nat} {f : Nat → Rat} (h : ∀ j, j < n → wt (f j) ≤ K) : wts (zib n f) ≤ n * K := by
 induction n with
 | zero => simp [zib, wts]
 | succ n ih =>
   have h1 := ih fun j hj => h j (by omega)
   have h2 := h n (Nat.lt_succ_self n)
   have e : zib (n + 1) f = zib n f ++ [f n] := by unfold zib; rw [List.range_succ, List.map_append]; rfl
   rw [e, wts_snoc, Nat.succ_mul]
   omega
theorem wts_rawV {n K : Nat} {f : Nat → Rat} (h : ∀ j, j < n → wt (f j) ≤ K) : wts (qs ((zib n f).map RF.of)) ≤ n * K := by
 rw [zvh]; exact wts_rowL h
theorem sum_map_le {l : List (List RF)} {g : List RF → Nat} {K : Nat} (h : ∀ x ∈ l, g x ≤ K) : (l.map g).sum ≤ l.length * K := by
 induction l with
 | nil => simp
 | cons x l ih =>
   have h1 := h x (by simp)
   have h2 := ih fun y hy => h y (by simp [hy])
   rw [List.map_cons, List.sum_cons, List.length_cons, Nat.succ_mul]
   omega
theorem wtF_le {n m K : Nat} {A : Mx} (h : ∀ i j, i < n → j < m → wt (A i j) ≤ K) : wtF n m A ≤ n * (m * K) := by
 unfold wtF wtsM
 have h2 := sum_map_le (l := rawM n m A) (g := fun l => wts (qs l)) (K := m * K) fun l hl => by
  obtain ⟨i, hi, rfl⟩ := zgn hl
  exact wts_rawV fun j hj => h i j hi hj
 rw [zpc] at h2
 exact h2
theorem keep6w {w0 X Y : World} {a1 a2 a3 a4 a5 a6 : Addr} {x1 x2 x3 x4 x5 x6 : Value} (h : X.cell? a1 = some x1 ∧ X.cell? a2 = some x2 ∧ X.cell? a3 = some x3 ∧ X.cell? a4 = some x4 ∧ X.cell? a5 = some x5 ∧ X.cell? a6 = some x6 ∧ Below w0.heap.size w0 X) (hb : Below X.heap.size X Y) :
 Y.cell? a1 = some x1 ∧ Y.cell? a2 = some x2 ∧ Y.cell? a3 = some x3 ∧ Y.cell? a4 = some x4 ∧ Y.cell? a5 = some x5 ∧ Y.cell? a6 = some x6 ∧ Below w0.heap.size w0 Y := by
 obtain ⟨k1, k2, k3, k4, k5, k6, k7⟩ := h
 exact ⟨zba hb k1, zba hb k2, zba hb k3, zba hb k4, zba hb k5, zba hb k6, zaa k7 hb⟩
theorem keep6a {w0 X : World} {a1 a2 a3 a4 a5 a6 : Addr} {x1 x2 x3 x4 x5 x6 : Value} (h : w0.cell? a1 = some x1 ∧ w0.cell? a2 = some x2 ∧ w0.cell? a3 = some x3 ∧ w0.cell? a4 = some x4 ∧ w0.cell? a5 = some x5 ∧ w0.cell? a6 = some x6) (hb : Below w0.heap.size w0 X) :
 X.cell? a1 = some x1 ∧ X.cell? a2 = some x2 ∧ X.cell? a3 = some x3 ∧ X.cell? a4 = some x4 ∧ X.cell? a5 = some x5 ∧ X.cell? a6 = some x6 ∧ Below w0.heap.size w0 X := by
 obtain ⟨k1, k2, k3, k4, k5, k6⟩ := h
 exact ⟨zba hb k1, zba hb k2, zba hb k3, zba hb k4, zba hb k5, zba hb k6, hb⟩
theorem zgi {w0 X : World} {a1 a2 a3 a4 a5 a6 : Addr} {x1 x2 x3 x4 x5 x6 : Value} (h : X.cell? a1 = some x1 ∧ X.cell? a2 = some x2 ∧ X.cell? a3 = some x3 ∧ X.cell? a4 = some x4 ∧ X.cell? a5 = some x5 ∧ X.cell? a6 = some x6 ∧ Below w0.heap.size w0 X) : Below w0.heap.size w0 X := h.2.2.2.2.2.2
theorem keep6s {w0 X : World} {a1 a2 a3 a4 a5 a6 : Addr} {x1 x2 x3 x4 x5 x6 : Value} (h : w0.cell? a1 = some x1 ∧ w0.cell? a2 = some x2 ∧ w0.cell? a3 = some x3 ∧ w0.cell? a4 = some x4 ∧ w0.cell? a5 = some x5 ∧ w0.cell? a6 = some x6) (hb : Below w0.heap.size w0 X) {b : Nat} (hB : w0.heap.size ≤ b) (x y z : Value) :
 (((X.setCell ⟨b, 0, none⟩ x).setCell ⟨b, 1, none⟩ y).setCell ⟨b, 2, none⟩ z).cell? a1 = some x1 ∧ (((X.setCell ⟨b, 0, none⟩ x).setCell ⟨b, 1, none⟩ y).setCell ⟨b, 2, none⟩ z).cell? a2 = some x2 ∧ (((X.setCell ⟨b, 0, none⟩ x).setCell ⟨b, 1, none⟩ y).setCell ⟨b, 2, none⟩ z).cell? a3 = some x3 ∧
 (((X.setCell ⟨b, 0, none⟩ x).setCell ⟨b, 1, none⟩ y).setCell ⟨b, 2, none⟩ z).cell? a4 = some x4 ∧ (((X.setCell ⟨b, 0, none⟩ x).setCell ⟨b, 1, none⟩ y).setCell ⟨b, 2, none⟩ z).cell? a5 = some x5 ∧ (((X.setCell ⟨b, 0, none⟩ x).setCell ⟨b, 1, none⟩ y).setCell ⟨b, 2, none⟩ z).cell? a6 = some x6 ∧ Below w0.heap.size w0 (((X.setCell ⟨b, 0, none⟩ x).setCell ⟨b, 1, none⟩ y).setCell ⟨b, 2, none⟩ z) :=
 keep6a h (zga hb hB x y z)
@[go_sem] theorem slen_lit2 (a : Option Addr) (n c : Nat) : slen (.slice a n c) = n := rfl
def oth (y : Int) (n : Nat) : Int := if n % 2 = 0 then y + ((n / 2 + 1 : Nat) : Int) else y - ((n / 2 + 1 : Nat) : Int)
theorem oth_ne (y : Int) (n : Nat) : oth y n ≠ y := by unfold oth; split <;> omega
@[go_sem] theorem oth_beq (y : Int) (n : Nat) : (oth y n == y) = false := by simpa using oth_ne y n
@[go_sem] theorem beq_oth (y : Int) (n : Nat) : (y == oth y n) = false := by simpa using fun h => oth_ne y n h.symm
@[go_sem] theorem oth_bne (y : Int) (n : Nat) : (oth y n != y) = true := by simpa using oth_ne y n
@[go_sem] theorem bne_oth (y : Int) (n : Nat) : (y != oth y n) = true := by simpa using fun h => oth_ne y n h.symm
@[go_sem] theorem int_beq_self (y : Int) : (y == y) = true := by simp
@[go_sem] theorem int_bne_self (y : Int) : (y != y) = false := by simp
theorem cmpR_lt (p q : Rat) : cmpR p q < 0 ↔ p < q := by
 unfold cmpR
 by_cases h1 : p < q
 ·rw [if_pos h1]; exact ⟨fun _ => h1, fun _ => by decide⟩
 ·rw [if_neg h1]
  by_cases h2 : q < p
  ·rw [if_pos h2]; exact ⟨fun h => absurd h (by decide), fun h => absurd h h1⟩
  ·rw [if_neg h2]; exact ⟨fun h => absurd h (by decide), fun h => absurd h h1⟩
end Go.Proofs.YtlpdkbmmbdfoiaaGreat
namespace Go.Proofs.YtlpdkbmmbdfoiaaGreat
def alikeQ (own : Int) (p q : List Rat) : Prop := ∀ (i : Nat) (x y : Rat), (i : Int) ≠ own → p[i]? = some x → q[i]? = some y → x = y
def agree (bl : List Int) (f : Nat → List Rat) (g : Nat → Bool) (i j : Nat) : Prop := ∀ b, bl[i]? = some b → bl[j]? = some b → g i = g j ∧ alikeQ b (f i) (f j)
theorem foldl_shift (l : List Rat) (s x : Rat) : l.foldl (· + ·) (s + x) = l.foldl (· + ·) s + x := by
 induction l generalizing s with
 | nil => rfl
 | cons y l ih =>
   simp only [List.foldl_cons]
   rw [show s + x + y = s + y + x by grind, ih]
section
variable {c : CQ} {of : List Int} {share : List Rat}
end
theorem lsum_cons (x : Rat) (l : List Rat) : zgg (x :: l) = zgg l + x := by
 unfold zgg
 rw [List.foldl_cons, foldl_shift]
theorem wts_all3 {l : List Rat} {K : Nat} (h : ∀ q ∈ l, wt q ≤ K) : wts l ≤ l.length * K := by
 induction l with
 | nil => simp [wts]
 | cons x l ih =>
   have h1 := h x (by simp)
   have h2 := ih fun q hq => h q (by simp [hq])
   rw [zmg, List.length_cons, Nat.succ_mul]
   omega
section
variable {c : RC}
end
end Go.Proofs.YtlpdkbmmbdfoiaaGreat
namespace Go.Proofs.YtlpdkbmmbdfoiaaGreat
open Go.RowKit
theorem zvg.wt {q : Rat} (h : zvg q) : Go.Proofs.YtlpdkbmmbdfoiaaGreat.wt q ≤ 64 := by
 unfold Go.Proofs.YtlpdkbmmbdfoiaaGreat.wt
 have h1 := h.2.1
 have h2 := h.2.2
 split
 ·omega
 ·split <;> omega
theorem lim_sum {l m : List Rat} (hs : l.Sublist m) (hl : ∀ q ∈ m, zvg q) (hn : m.length ≤ 40) : fits (zgg l) :=
 lsum_fits hs (fun q hq => (hl q hq).1) (by
  have := wts_all3 (l := m) (K := 64) fun q hq => (hl q hq).wt
  omega)
theorem ztn (va : Value) (l : List Rat) (w : World) (ha : zbb w va l) (hl : ∀ q ∈ l, zvg q) (hn : l.length ≤ 40) : Calls Tryz.prog 137 #[va] w (RF0 w (zgg l)) := by
 have h := sum_frac va (l.map RF.of) w ha.raw (fun x hx => by obtain ⟨y, hy, rfl⟩ := List.mem_map.1 hx; exact RF.of_ok (hl y hy).fits) (fun k hk => by
  rw [← List.map_take, zvh]
  exact lim_sum (List.take_sublist _ _) hl hn)
 rw [zvh] at h
 exact h
set_option maxRecDepth 100000 in
set_option maxHeartbeats 1600000 in
theorem zym (w : World) (nm : Value) : Calls Tryz.prog 58 #[.agg #[nm, .slice none 0 0, .slice none 0 0, .slice none 0 0]] w (fun e w' => e = .returned (.bool false) ∧ Below w.heap.size w w') := by
 obtain ⟨_, c0, c1, c2, c3, _, _, _, _⟩ := C4.new w 52 nm (.slice none 0 0) (.slice none 0 0) (.slice none 0 0)
 have HB := zH (zca w (.cells #[nm, .slice none 0 0, .slice none 0 0, .slice none 0 0] 52))
 go_enter Tryz.func58, Tryz.ntmps58
 go_wp2_with (first
  |(go_at_call 133; (with_reducible refine (fin_any 0 1 4 _).mono ?_); rintro e4 w4 ⟨rfl, rfl⟩))
 go_ret
 exact ⟨rfl, HB.out⟩
set_option maxRecDepth 100000 in
set_option maxHeartbeats 6400000 in
theorem zbh (va : Value) (l : LQ) (w : World) (ha : zhm w va l) (hl : zxb l) : Calls Tryz.prog 58 #[va] w (fun e w' => e = .returned (.bool true) ∧ Below w.heap.size w w') := by
 obtain ⟨nm, sv, rv, ev, rfl, hs, hr, he⟩ := id ha
 obtain ⟨ra, rn, rk, rfl, _⟩ := id hr.sl
 obtain ⟨sa, sn, sk, rfl, _⟩ := id hs.sl
 obtain ⟨ea, en, ek, rfl, _⟩ := id he.sl
 have hba := zca w (.cells #[nm, .slice sa sn sk, .slice ra rn rk, .slice ea en ek] 52)
 have HC := zH (C4.new w 52 nm (.slice sa sn sk) (.slice ra rn rk) (.slice ea en ek))
 have HA := zH (ha.below hba)
 have HS := zH (hs.below hba)
 have HR := zH (hr.below hba)
 have HE := zH (he.below hba)
 have HBW := zH hba
 have hsn : sn = l.start.length := hs.len
 have hen : en = l.start.length := he.len.trans hl.el
 have hrn : rn = l.start.length := hr.len.trans hl.rl
 obtain ⟨n, hnn⟩ : ∃ n, l.start.length = n := ⟨_, rfl⟩
 have HN := zH hnn
 rw [hnn] at hen hsn hrn
 have n1 : 1 ≤ n := by rw [← hnn]; exact hl.n1
 have n4 : n ≤ 4 := by rw [← hnn]; exact hl.n4
 obtain rfl : en = n := hen
 obtain rfl : sn = en := hsn
 obtain rfl : rn = sn := hrn
 have HL := zH hl
 have srt := hr.sl
 have sxt := he.sl
 have sst := hs.sl
 have hin : (decide ((1 : Int) ≤ (rn : Nat)) && decide (((rn : Nat) : Int) ≤ 4)) = true := by
  rw [decide_eq_true (show (1 : Int) ≤ (rn : Nat) by omega), decide_eq_true (show ((rn : Nat) : Int) ≤ 4 by omega)]; rfl
 have HIN := zH hin
 clear hs hr he ha hl hba hnn hin
 go_enter Tryz.func58, Tryz.ntmps58
 go_upto_region 1 with fail
 obtain ⟨b, hb⟩ : ∃ b, w.heap.size = b := ⟨_, rfl⟩
 rw [hb] at HC ⊢
 clear hb
 generalize w.alloc (.cells #[nm, .slice sa rn sk, .slice ra rn rk, .slice ea rn ek] 52) = W1 at *
 obtain ⟨_, c0, c1, c2, c3, _, _, _, _⟩ := HC.out
 go_upto_region 4 with (first
  |(go_at_call 133; (with_reducible refine (fin_any _ _ _ _).mono ?_); rw [HIN.out]; rintro e4 w4 ⟨rfl, hw4⟩; rw [hw4]; clear hw4)
  |(go_at_call 134; (with_reducible refine (fall_ok _ l.start W1 HS.out HL.out.st (by have := HL.out.n4; omega)).mono ?_); rintro e5 w5 ⟨rfl, hb5⟩
    have HB5 := zH hb5
    clear c0 c1 c2 c3
    obtain ⟨_, c0, c1, c2, c3, _, _, _, _⟩ := HC.out.belowS hb5
    clear hb5)
  |(go_at_call 134; (with_reducible refine (fall_ok _ l.exit w5 (HE.out.below HB5.out) HL.out.ex (by have := HL.out.n4; have := HL.out.el; omega)).mono ?_); rintro e6 w6 ⟨rfl, hb6⟩
    have HB6 := zH (zaa HB5.out hb6)
    clear c0 c1 c2 c3
    obtain ⟨_, c0, c1, c2, c3, _, _, _, _⟩ := HC.out.belowS HB6.out
    clear hb6))
 go_wp2_with fail
 clear c0 c1 c2 c3
 go_loopg [47] (rn) (fun g u47 wr => ∃ (k : Nat), k ≤ rn ∧ g = rn - k ∧ u47 = .int .i64 k ∧ Below W1.heap.size W1 wr)
 case atStart => exact ⟨0, Nat.zero_le _, rfl, rfl, HB6.out⟩
 case round =>
  obtain ⟨k, hk, hg, rfl, hbr⟩ := hrel
  obtain ⟨wb, hwb⟩ : ∃ wb, wb = wr := ⟨_, rfl⟩
  subst hwb
  have HG := zH hg
  have HBR := zH hbr
  clear hg hbr
  by_cases hkl : k < rn
  ·have hir : k < l.rates.length := by rw [HL.out.rl, HN.out]; exact hkl
   obtain ⟨rw1, hrv, hrow⟩ := HR.out.at' k hir
   obtain ⟨rl1, rl2, rl3⟩ := HL.out.row k hir
   obtain ⟨ua, un, uk, rfl, _⟩ := id hrow.sl
   have srow := hrow.sl
   have hun : un = rn := by have h := hrow.len; rw [rl1, HN.out] at h; exact h
   subst hun
   have hkr : k < (l.rates[k]'hir).length := by rw [rl1, HN.out]; exact hkl
   obtain ⟨ts, as1, ls1, ks1, as2, ls2, ks2, g1, g2, g3, hfs⟩ := (hrow.below HBR.out).cellsAt (k := k) hkr
   rw [rl3] at hfs
   have HROW := zH hrow
   have HRL := zH rl2
   have HRLN : Hid ((l.rates[k]'hir).length ≤ 1000) := zH (by rw [rl1, HN.out]; omega)
   have HFS := zH hfs
   have hri := zba HBR.out hrv
   have S0 := zH (And.intro g1 (And.intro g2 g3))
   have i1 : (0 : Int) ≤ (k : Int) := by omega
   have i2 : (k : Int) < (un : Nat) := by omega
   clear hrv hrow rl1 rl2 rl3 hfs g1 g2 g3
   go_wp2_with (first
    |(go_at_call 134; (with_reducible refine (fall_ok _ _ _ (HROW.out.below HBR.out) HRL.out HRLN.out).mono ?_); rintro e5 w5 ⟨rfl, hb5⟩
      have HB5 := zH hb5
      have g1 := zba hb5 S0.out.1
      have g2 := zba hb5 S0.out.2.1
      have g3 := zba hb5 S0.out.2.2
      clear hb5)
    |(go_at_call 136; (with_reducible refine (ztf _ 0 _ (HFS.out.below HB5.out)).mono ?_); rintro e7 w7 ⟨rfl, hb7⟩
      have HB7 := zH (zaa HBR.out (zaa HB5.out hb7))
      clear hb7))
   go_roundg (un - (k + 1))
   case measure => (have := HG.out; omega)
   case rel => exact ⟨k + 1, by omega, rfl, by go_num, HB7.out⟩
  ·have HSUM : Hid (zgg l.start = 1) := zH HL.out.sum
   have HNL : Hid (l.start.length ≤ 40) := zH (by have := HL.out.n4; omega)
   obtain rfl : k = rn := by omega
   obtain ⟨_, c0, c1, c2, c3, _, _, _, _⟩ := HC.out.belowS HBR.out
   go_upto_region 11 with (first
    |(go_at_call 137; (with_reducible refine (ztn _ l.start _ (HS.out.below HBR.out) HL.out.st HNL.out).mono ?_); rw [HSUM.out]; rintro e8 w8 ⟨v8, rfl, hv8, hb8⟩
      obtain ⟨t8, x8, y8, rfl, ⟨a81, l81, k81, rfl, _⟩, ⟨a82, l82, k82, rfl, _⟩⟩ := hv8.isF
      have hba := zca w8 (.cells #[.bool t8, .slice a81 l81 k81, .slice a82 l82 k82] 38)
      have hbb := zaa hb8 hba
      have HC8 := zH (C3.new w8 38 (.bool t8) (.slice a81 l81 k81) (.slice a82 l82 k82))
      have HF8 := zH (hv8.below hba)
      have HB8 := zH (zaa HBR.out hbb)
      clear hv8 hb8 hba hbb c0 c1 c2 c3))
   obtain ⟨b8, hb8⟩ : ∃ b, w8.heap.size = b := ⟨_, rfl⟩
   rw [hb8] at HC8 ⊢
   clear hb8
   generalize w8.alloc (.cells #[.bool t8, .slice a81 l81 k81, .slice a82 l82 k82] 38) = W8 at *
   go_upto_region 12 with (first
    |(go_at_call 67; (with_reducible refine (make_11 _).mono ?_); rintro e9 w9 ⟨v9, rfl, hv9, hb9⟩
      obtain ⟨t9, x9, y9, rfl, ⟨a91, l91, k91, rfl, _⟩, ⟨a92, l92, k92, rfl, _⟩⟩ := hv9.isF
      have hba := zca w9 (.cells #[.bool t9, .slice a91 l91 k91, .slice a92 l92 k92] 38)
      have hbb := zaa hb9 hba
      have HC9 := zH (C3.new w9 38 (.bool t9) (.slice a91 l91 k91) (.slice a92 l92 k92))
      have HF9 := zH (hv9.below hba)
      replace HC8 := zH (HC8.out.belowS hbb)
      replace HF8 := zH (HF8.out.below hbb)
      replace HB8 := zH (zaa HB8.out hbb)
      clear hv9 hb9 hba hbb))
   obtain ⟨b9, hb9⟩ : ∃ b, w9.heap.size = b := ⟨_, rfl⟩
   rw [hb9] at HC9 ⊢
   clear hb9
   generalize w9.alloc (.cells #[.bool t9, .slice a91 l91 k91, .slice a92 l92 k92] 38) = W9 at *
   obtain ⟨_, d0, d1, d2, _, _, _⟩ := HC8.out
   obtain ⟨_, p0, p1, p2, _, _, _⟩ := HC9.out
   obtain ⟨_, c0, c1, c2, c3, _, _, _, _⟩ := HC.out.belowS HB8.out
   go_wp2_with (first
    |(go_at_call 130; (with_reducible refine (cmp_can _ _ 1 1 _ HF8.out HF9.out (by decide) (by decide)).mono ?_); rw [(zji 1 1).2 rfl]; rintro e10 w10 ⟨rfl, hb10⟩
      have HB10 := zH (zaa HB8.out hb10)
      clear c0 c1 c2 c3 d0 d1 d2 p0 p1 p2
      obtain ⟨_, c0, c1, c2, c3, _, _, _, _⟩ := HC.out.belowS HB10.out
      clear hb10)
    |(go_at_call 138; (with_reducible refine (fends_ok _ l _ (HA.out.below HB10.out) HL.out).mono ?_); rintro e11 w11 ⟨rfl, hb11⟩
      have HB11 := zH (zaa HB10.out hb11)
      clear hb11))
   go_ret
   exact ⟨rfl, HBW.out.trans (HB11.out.mono HBW.out.size)⟩
set_option maxRecDepth 100000 in
set_option maxHeartbeats 3200000 in
theorem blank1_any (b n : Nat) (w : World) (hc : w.cell? ⟨b, 0, none⟩ = some (.int .i64 (n : Nat))) (hn1 : 1 ≤ n) (hn : n ≤ 4) :
 Calls Tryz.prog 164 #[.pointer (some ⟨b, 0, none⟩)] w (fun e w' => ∃ v, e = .returned v ∧ zqb w' 38 w.heap.size v n ∧ (∀ t, t < n → zlg w' v t 0) ∧ Below w.heap.size w w') := by
 obtain ⟨i0, hi, hz0, hz1, hz2⟩ := info_parts Tryz.infoF
 have hM := zon (P := Tryz.prog) 25 38 i0 Tryz.underlying25 hi hz0 hz1 (by rw [hz2]; decide)
 clear hi hz0 hz1 hz2
 go_enter Tryz.func164, Tryz.ntmps164
 go_wp2_with (refine hM w rfl _ _ rfl w.heap.size _ n rfl rfl rfl (by omega) (Nat.le_refl _) ?_
              intro vO w5 hO5 hb5 hvO
              have HO5 := zH hO5
              have HB5 := zH hb5
              have slO := hO5.sl
              have lnO := hO5.len
              clear hO5 hb5)
 clear hM
 go_loopg [8] (n) (fun g u8 wr => ∃ (i : Nat), i ≤ n ∧ g = n - i ∧ u8 = .int .i64 i ∧ zqb wr 38 w.heap.size vO n ∧ (∀ t, t < i → zlg wr vO t 0) ∧ Below w.heap.size w wr)
 case atStart => exact ⟨0, Nat.zero_le _, rfl, rfl, HO5.out, fun t h => by omega, HB5.out⟩
 case round =>
  obtain ⟨i, hin, hg, rfl, ho, he, hbr⟩ := hrel
  obtain ⟨w6, hw6⟩ : ∃ w6, w6 = wr := ⟨_, rfl⟩
  subst hw6
  have HG := zH hg
  have HE := zH he
  have HO := zH ho
  have HBR := zH hbr
  clear he hg HO5 HB5
  by_cases hil : i < n
  ·have i1 : (0 : Int) ≤ (i : Int) := by omega
   have i2 : (i : Int) < (n : Nat) := by omega
   clear ho hbr
   go_wp2_with (first
    |(go_at_call 88; (with_reducible refine (zqe _).mono ?_); rintro e31 w31 ⟨v31, rfl, hv31, hb31⟩
      obtain ⟨t6, x31, y31, rfl, ⟨a61, l61, k61, rfl, _⟩, ⟨a62, l62, k62, rfl, _⟩⟩ := hv31.isF
      have ho3 := HO.out.below hb31
      obtain ⟨c0, d0, _⟩ := ho3.cell (i * 3) (by omega)
      obtain ⟨c1, d1, _⟩ := ho3.cell (i * 3 + 1) (by omega)
      obtain ⟨c2, d2, _⟩ := ho3.cell (i * 3 + 2) (by omega)
      have f0 := ho3.frozen (i * 3)
      have f1 := ho3.frozen (i * 3 + 1)
      have f2 := ho3.frozen (i * 3 + 2)
      have n01 := ho3.inj (show i * 3 ≠ i * 3 + 1 by omega)
      have n02 := ho3.inj (show i * 3 ≠ i * 3 + 2 by omega)
      have n12 := ho3.inj (show i * 3 + 1 ≠ i * 3 + 2 by omega)
      have HS3 := zH (ho3.set3 i (.bool t6) (.slice a61 l61 k61) (.slice a62 l62 k62) (fun z => by simp) (fun z => by simp) (fun z => by simp))
      have HE3 := zH (fun t ht => (HE.out t ht).below hb31)
      have HO3 := zH ho3
      have HV6 := zH hv31
      have HB3 := zH (zfa HBR.out hb31 HBR.out.size)
      clear ho3 hv31 hb31))
   go_roundg (n - (i + 1))
   case measure => (have := HG.out; omega)
   case rel =>
    refine ⟨i + 1, by omega, rfl, by go_num, HS3.out.1, fun t ht => ?_, HB3.out.trans HS3.out.2⟩
    rcases Nat.lt_or_ge t i with h6 | h6
    ·exact zlg.set3_other HO3.out hil (by omega) (HE3.out t h6) _ _ _ (fun z => by simp) (fun z => by simp)
    ·obtain rfl : t = i := by omega
     exact zlg.set3 HO3.out hil HV6.out
  ·obtain rfl : i = n := by omega
   go_wp2_with fail
   go_ret
   exact ⟨vO, rfl, HO.out, HE.out, HBR.out⟩
def zuh (s : Bool) (n d : Nat) : Prop := okN n d ∧ 0 < fq s n d ∧ zua (fq s n d).num.natAbs ≤ 32 ∧ zua (fq s n d).den ≤ 32
theorem zlc.over {w : World} {e : TypeId} {B size n : Nat} {v : Value} {xs : List Value} (h : zlc w e B size v n xs) {p : Addr} (hp : v.ownBlock = none ∨ v.ownBlock ≠ some p.block) (u : Value) : zlc (w.setCell p u) e B size v n xs := by
 have key : ∀ g, v.ownBlock = some g → (w.setCell p u).heap[g]? = w.heap[g]? := fun g hg => Below.heap_setCell _ _ _ _ (by
  intro e; rcases hp with h1 | h1
  ·rw [hg] at h1; cases h1
  ·exact h1 (by rw [hg, e]))
 refine ⟨⟨h.own.1, ?_⟩, fun g hg cur e' fz hc => ?_⟩
 ·rcases h.own.2 with h' | ⟨g, cap, cur, rfl, hb, hg, rest⟩
  ·exact .inl h'
  ·exact .inr ⟨g, cap, cur, rfl, hb, by rw [key g rfl]; exact hg, rest⟩
 ·rw [key g hg] at hc
  exact h.nl g hg cur e' fz hc
theorem zya.over {w : World} {e : TypeId} {B : Nat} {v : Value} {q : List Rat} (h : zya w e B v q) {p : Addr} {x : Value} (hp : v.ownBlock = none ∨ v.ownBlock ≠ some p.block) (hc : w.cell? p = some x) (hx : ∀ z, x ≠ .int .u32 z) (u : Value) : zya (w.setCell p u) e B v q := by
 obtain ⟨xs, h1, h2⟩ := h
 refine ⟨xs, h1.over hp u, fun j hj => ?_⟩
 obtain ⟨a, b, e1, e2, e3, e4, e5⟩ := h2 j hj
 exact ⟨a, b, e1, e2, e3, ⟨e4.1.over hc hx u, e4.2⟩, ⟨e5.1.over hc hx u, e5.2⟩⟩
theorem zhb.high {B : Nat} {w0 w : World} (h : zhb B w0 w) {p : Addr} {x : Value} (hp : w0.heap.size ≤ p.block) (hc : w.cell? p = some x) (hx : ∀ z, x ≠ .int .u32 z) (u : Value) : zhb B w0 (w.setCell p u) := by
 refine ⟨by simpa [World.setCell] using h.size, fun g h1 h2 => ?_, fun q z hq => ?_⟩
 ·rw [Below.heap_setCell _ _ _ _ (by omega)]; exact h.row g h1 h2
 ·rw [World.cell?_setCell_other]
  ·exact h.limb q z hq
  ·intro e
   have := h.limb q z hq
   rw [← e, hc] at this
   injection this with this
   exact hx _ this
theorem zhb.grow {B : Nat} {w0 w w' : World} {v : Value} (h : zhb B w0 w) (hg : w.grownBy w' v.ownBlock) (hn : zlb w v) (hv : ∀ k, v.ownBlock = some k → w0.heap.size ≤ k) : zhb B w0 w' := by
 have hs : w.heap.size ≤ w'.heap.size := hg.size
 refine ⟨Nat.le_trans h.size hs, fun g h1 h2 => ?_, fun q z hq => ?_⟩
 ·rw [hg.block g (Nat.lt_of_lt_of_le h2 h.size) (fun e => by have := hv g e.symm; omega)]
  exact h.row g h1 h2
 ·have hc := h.limb q z hq
  refine hg.cell hc (fun e => ?_)
  have h2 := hn q.block e.symm
  unfold World.cell? at hc
  split at hc
  ·rename_i cur e' fz hh
   split at hc
   ·cases hc
   ·exact h2 cur e' fz hh _ (by have := Array.mem_of_getElem? hc; simpa using this) _ rfl
  ·cases hc
section
variable {w0 wA w w' : World} {bt B b5 : Nat} {l : List Nat} {vr vs vl rv : Value} {row : List Rat}
end
end Go.Proofs.YtlpdkbmmbdfoiaaGreat
