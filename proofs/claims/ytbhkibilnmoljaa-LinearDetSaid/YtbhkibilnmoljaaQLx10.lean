/-
  LinearDet: for every input the law returns true, and the input reads as it did. No condition.
  Ahead of it: The determinant of a product of small matrices: sizes. No program is named here. append of the rows of a matrix to an empty slice; two rows of an own matrix change places. No code is walked here. package drydockref02: Opposite of a fraction in lowest terms. Lifting a law: what came in reads as it did in every later world that only adds to the first; small integers that came in. No law is named here. LinearDet: the law function returns true.
-/
import Derived.Test.YtbhkibilnmoljaaQBx
import Derived.Test.YtbhkibilnmoljaaQRwM
import Derived.Test.YtbhkibilnmoljaaQLx1
import Derived.Test.YtbhkibilnmoljaaRows
import Derived.WalkKit
import Derived.ProofKit
import Derived.OpenShut
import Derived.ChangeSlices
namespace Go.Proofs.Ytbhkibilnmoljaa
set_option linter.unusedVariables false

theorem slim_prod : slim4 (grow 5 (5 * (12600 * 12600), 840 * 840, 1, 1)) := by decide +kernel
theorem slim_prod_le {k : Nat} (hk : k ≤ 5) : slim4 (grow k (5 * (12600 * 12600), 840 * 840, 1, 1)) := by
  obtain ⟨a1, a2, a3, a4⟩ := grow_le (x := (5 * (12600 * 12600), 840 * 840, 1, 1)) ⟨by decide, by decide, by decide, by decide⟩ 5 hk
  obtain ⟨c1, c2, c3, c4⟩ := slim_prod
  exact ⟨Nat.lt_of_le_of_lt a1 c1, Nat.lt_of_le_of_lt a2 c2, Nat.lt_of_le_of_lt a3 c3, Nat.lt_of_le_of_lt a4 c4⟩
/-- What the law of the determinant needs. -/
structure DetOk (k : Nat) (A B : Mx) : Prop where
  m : MulOk k k k A B
  f : fitM k k (mulM k A B)
  w : wtF k k (mulM k A B) ≤ 1250
  x : slimE true k k k (mulM k A B)
  d : fits (dt k A * dt k B)
theorem det_ok {k : Nat} {A B : Mx} (hk : k ≤ 5) (hA : ∀ i j, i < k → j < k → smallQ (A i j)) (hB : ∀ i j, i < k → j < k → smallQ (B i j)) : DetOk k A B := by
  obtain ⟨k1, o, f, w⟩ := mul_ok (n := k) (m := k) (c := k) (D := 840) (E := 840) (a := 12600) (b := 12600) (p := 30) (q := 20) (A := A) (B := B) (by decide) (by decide) hk hA hB (by decide) (by decide) (by decide) (by decide)
  refine ⟨k1, f, ?_, slimE_of (Nat.le_refl _) (by decide) (by decide) o (slim_prod_le hk), ?_⟩
  · have h2 : k * (k * (30 + 20)) ≤ 5 * (5 * (30 + 20)) := Nat.mul_le_mul hk (Nat.mul_le_mul_right _ hk)
    omega
  · have hD : 840 ^ k ≠ 0 := Nat.ne_of_gt (Nat.pow_pos (by decide))
    have h9 : 840 ^ k < 2 ^ 50 := Nat.lt_of_le_of_lt (Nat.pow_le_pow_right (by decide) hk) (by decide +kernel)
    have h1 := over.mul (dt_over (n := k) (D := 840) (m := 12600) (by decide) hA) (dt_over (n := k) (D := 840) (m := 12600) (by decide) hB)
    have hd := dtB_le hk
    refine fits_over2 (a := 152) (b := 100) (Nat.mul_ne_zero hD hD) h1 ?_ ?_ (by decide) (by decide)
    · exact Nat.lt_of_lt_of_le (Nat.mul_lt_mul'' hd hd) (by decide +kernel)
    · exact Nat.lt_of_lt_of_le (Nat.mul_lt_mul'' h9 h9) (by decide +kernel)
/-- With two rows exchanged, or not. -/
def swpIf (A : Mx) (i j : Nat) : Mx := if i = j then A else swp A i j
theorem swpIf_all {k : Nat} {A : Mx} {p : Rat → Prop} {i j : Nat} (hi : i < k) (hj : j < k) (h : ∀ a b, a < k → b < k → p (A a b)) : ∀ a b, a < k → b < k → p (swpIf A i j a b) := fun a b ha hb => by
  unfold swpIf; split
  · exact h a b ha hb
  · unfold swp; split
    · exact h j b hj hb
    · split
      · exact h i b hi hb
      · exact h a b ha hb
theorem dt_swpIf {k : Nat} {A : Mx} {i j : Nat} (hi : i < k) (hj : j < k) : dt k (swpIf A i j) = if i = j then dt k A else -dt k A := by
  unfold swpIf; split
  · rfl
  · next h => exact dt_swp hi hj h A
theorem neg_fits {q : Rat} (h : fits q) : fits (-q) := ⟨by rw [Rat.neg_num, Int.natAbs_neg]; exact h.1, by rw [Rat.neg_den]; exact h.2⟩
end Go.Proofs.Ytbhkibilnmoljaa
namespace Go.Proofs.Ytbhkibilnmoljaa
set_option linter.unusedVariables false
set_option linter.unusedSimpArgs false
open Go.RowKit

/-- append(s, x...), both rows of one-cell values that are no limbs. -/
theorem append_rows {P : Program} (t e : TypeId) (i : TypeInfo) (ht : P.underlying t = some (.slice e)) (hi : P.info? e = some i) (hz : i.zero = some (.slice none 0 0)) (hsize : i.size = 1) (hby : i.bytes = 24)
    (w : World) {ops : Array Oper} {rest : List Oper} {o : Oper} {a : Act} {Q : Exit → Act → World → Prop} (hgd : o.guard = none) (s x : Operand)
    (ho : o.op = .call { callee := .builtin .append, args := #[s, x], argTypes := #[t, t] }) (B : Nat)
    (v : Value) (xs : List Value) (hs : a.eval s = v) (hown : OwnR w e B 1 v xs.length xs) (ad : Addr) (m c : Nat) (hxe : a.eval x = .slice (some ad) m c) (news : List Value) (hl : news.length = m)
    (hnews : ∀ j u, news[j]? = some u → w.cell? (ad.add j) = some u) (h1 : ∀ u ∈ news, u.oneCell' = true) (hnn : ∀ c ∈ news, ∀ z, c ≠ .int .u32 z) (hn : xs.length + m ≤ 1000) (hbase : B ≤ w.heap.size)
    (h : ∀ v' w', OwnR w' e B 1 v' (xs ++ news).length (xs ++ news) → w.grownBy w' v.ownBlock → NoLimb w v → (v'.ownBlock = v.ownBlock ∨ v'.ownBlock = some w.heap.size) → IsSl v' → wpList P ops Q rest (a.put o.dst v') w') :
    wpList P ops Q (o :: rest) a w := by
  refine wpList_plain hgd fun K hK => ?_
  obtain ⟨v', w', hr, k1, k2, k3, k4⟩ := run_append_R (P := P) w B t o.type e i _ 1 24 ht hi hz hsize hby rfl (by decide) v xs.length xs hown.own ad m c news (by omega)
    hnews h1 (by simp [maxLen]; omega) (by omega) hbase hown.nl hnn (fun c hc z => by
      have hc2 : c ∈ [Value.slice none 0 0] := hc
      simp at hc2; subst hc2; simp)
  unfold Oper.wp execOp
  simp only [ho, resolve, invoke, builtin, Sem.run_bind, Sem.run_pure, Result.andThen_ok, List.map_toArray, List.map_cons, List.map_nil, hs, hxe, hr]
  have hR : OwnR w' e B 1 v' (xs.length + m) (xs ++ news) := ⟨k1, k4⟩
  exact hK _ _ (h v' w' (by rw [List.length_append, hl]; exact hR) k2 hown.nl k3 hR.sl)
theorem OwnR.empty {w : World} {e : TypeId} {B b : Nat} (hb : w.heap.size = b) (hB : B ≤ b) : OwnR (w.alloc (.cells #[] e)) e B 1 (.slice (some ⟨b, 0, none⟩) 0 0) 0 [] := by
  subst hb
  refine ⟨⟨rfl, .inr ⟨_, 0, #[], rfl, hB, heap_alloc_new w _, Nat.le_refl _, Nat.zero_le _, rfl, rfl⟩⟩, ?_⟩
  intro g hg cur e' fz hc c hcc z
  simp only [Value.ownBlock, Option.some.injEq] at hg
  subst hg
  rw [heap_alloc_new w _] at hc
  injection hc with hc
  injection hc with hc _
  subst hc
  simp at hcc
section
variable {w w' : World} {B n m : Nat} {v : Value} {rs : List Value} {A : Mx}
theorem MatF.rows (h : MatF w v n m A) : ∃ news : List Value, news.length = n ∧ (∀ j u, news[j]? = some u → w.cell? (ptr v j) = some u) ∧ (∀ u ∈ news, u.oneCell' = true) ∧ (∀ u ∈ news, ∀ z, u ≠ .int .u32 z) ∧ ∀ j (hj : j < news.length), FracsC w news[j] (rowL m (A j)) := by
  have hget : ∀ j, j < n → ∃ r, w.cell? (ptr v j) = some r ∧ FracsC w r (rowL m (A j)) := fun j hj => h.row j hj
  have key : ∀ j (hj : j < ((List.range n).map fun j => (w.cell? (ptr v j)).getD undef).length), ∃ r, ((List.range n).map fun j => (w.cell? (ptr v j)).getD undef)[j] = r ∧ w.cell? (ptr v j) = some r ∧ FracsC w r (rowL m (A j)) := fun j hj => by
    have hj2 : j < n := by simpa using hj
    obtain ⟨r, h1, h2⟩ := hget j hj2
    exact ⟨r, by simp [h1], h1, h2⟩
  have one : ∀ u ∈ (List.range n).map fun j => (w.cell? (ptr v j)).getD undef, ∃ q, FracsC w u q := fun u hu => by
    obtain ⟨j, hj, e⟩ := List.getElem_of_mem hu
    obtain ⟨r, h1, h2, h3⟩ := key j hj
    exact ⟨_, by rw [← e, h1]; exact h3⟩
  refine ⟨(List.range n).map fun j => (w.cell? (ptr v j)).getD undef, by simp, fun j u hu => ?_, fun u hu => ?_, fun u hu z => ?_, fun j hj => ?_⟩
  · obtain ⟨hj, e⟩ := List.getElem?_eq_some_iff.1 hu
    obtain ⟨r, h1, h2, h3⟩ := key j hj
    rw [h2, ← e, h1]
  · obtain ⟨q, hq⟩ := one u hu
    obtain ⟨a1, a2, a3, rfl, _⟩ := hq.sl
    rfl
  · obtain ⟨q, hq⟩ := one u hu
    obtain ⟨a1, a2, a3, rfl, _⟩ := hq.sl
    simp
  · obtain ⟨r, h1, h2, h3⟩ := key j hj
    rw [h1]; exact h3
theorem FracsC.low {q : List Rat} (h : FracsC w v q) (hq : 0 < q.length) : (base v).block < w.heap.size := by
  obtain ⟨_, _, h1, _⟩ := h.at' 0 hq
  have := World.block_lt_of_cell? w _ h1
  rwa [ptr_block] at this
/-- Rows of an older world, under a new slice. -/
theorem RowsM.copy {w0 : World} (ho : OwnR w 26 w0.heap.size 1 v rs.length rs) (hn : rs.length = n) (hb : Below w0.heap.size w0 w) (hm : 1 ≤ m) (hr : ∀ j (hj : j < rs.length), FracsC w0 rs[j] (rowL m (A j))) : RowsM w w0.heap.size v rs n n (fun i => rowL m (A i)) := by
  subst hn
  refine ⟨ho, fun i h1 h2 => ⟨(hr i h1).below hb, ?_⟩⟩
  have h3 := (hr i h1).low (by rw [rowL_length]; omega)
  obtain ⟨g, _, e2, e3, e4, _⟩ := ho.blk (by omega)
  omega
/-- Two rows change places. -/
theorem RowsM.swap (h : RowsM w B v rs n n (fun i => rowL m (A i))) {i j : Nat} (hi : i < rs.length) (hj : j < rs.length) (hij : i ≠ j) :
    RowsM ((w.setCell (ptr v i) rs[j]).setCell (ptr v j) rs[i]) B v ((rs.set i rs[j]).set j rs[i]) n n (fun k => rowL m (swp A i j k)) ∧ Below B w ((w.setCell (ptr v i) rs[j]).setCell (ptr v j) rs[i]) := by
  have hrl := h.rl
  have hvb := h.vblock (by omega)
  have hp : ∀ k, (ptr v k).block = (base v).block := fun k => ptr_block _ _
  have hnl : ∀ k (hk : k < rs.length) z, rs[k] ≠ .int .u32 z := fun k hk z => h.own.cell_ne k hk z
  obtain ⟨s1, g1⟩ := h.own.set1 i hi rs[j] (hnl j hj)
  have hj2 : j < (rs.set i rs[j]).length := by rw [List.length_set]; exact hj
  obtain ⟨s2, g2⟩ := s1.set1 j hj2 rs[i] (hnl i hi)
  have hcj := s1.cell j hj2
  have hcn : ∀ z, (rs.set i rs[j])[j]'hj2 ≠ .int .u32 z := fun z => s1.cell_ne j hj2 z
  have mv : ∀ k (hk : k < rs.length), FracsC ((w.setCell (ptr v i) rs[j]).setCell (ptr v j) rs[i]) rs[k] (rowL m (A k)) ∧ (base rs[k]).block ≠ (base v).block := fun k hk => by
    obtain ⟨r1, r2⟩ := h.row k hk (by omega)
    exact ⟨(r1.setc (by rw [hp]; exact r2) (h.own.cell i hi) (hnl i hi) _).setc (by rw [hp]; exact r2) hcj hcn _, r2⟩
  refine ⟨⟨s2, fun k hk _ => ?_⟩, ((Below.refl B w).setCell (by rw [hp]; exact hvb.1) _).setCell (by rw [hp]; exact hvb.1) _⟩
  have hk2 : k < rs.length := by simpa using hk
  by_cases h1 : k = j
  · subst h1
    rw [List.getElem_set_self]
    have e : swp A i k k = A i := by unfold swp; rw [if_neg (fun e => hij e.symm), if_pos rfl]
    rw [e]; exact mv i hi
  · rw [List.getElem_set_ne (fun e => h1 e.symm)]
    by_cases h2 : k = i
    · subst h2
      rw [List.getElem_set_self]
      have e : swp A k j k = A j := by unfold swp; rw [if_pos rfl]
      rw [e]; exact mv j hj
    · rw [List.getElem_set_ne (fun e => h2 e.symm)]
      have e : swp A i j k = A k := by unfold swp; rw [if_neg h2, if_neg h1]
      rw [e]; exact mv k hk2
theorem RowsM.one {q : Nat → List Rat} (h : RowsM w B v rs n n q) {i : Nat} (hi : i < rs.length) : RowsM (w.setCell (ptr v i) rs[i]) B v rs n n q ∧ Below B w (w.setCell (ptr v i) rs[i]) := by
  have hrl := h.rl
  have hvb := h.vblock (by omega)
  have hp : ∀ k, (ptr v k).block = (base v).block := fun k => ptr_block _ _
  have hnl : ∀ z, rs[i] ≠ .int .u32 z := fun z => h.own.cell_ne i hi z
  obtain ⟨s1, g1⟩ := h.own.set1 i hi rs[i] hnl
  rw [List.set_getElem_self] at s1
  exact ⟨⟨s1, fun k h1 h2 => by
    obtain ⟨r1, r2⟩ := h.row k h1 h2
    exact ⟨r1.setc (by rw [hp]; exact r2) (h.own.cell i hi) hnl _, r2⟩⟩, (Below.refl B w).setCell (by rw [hp]; exact hvb.1) _⟩
end
end Go.Proofs.Ytbhkibilnmoljaa
namespace Go.Proofs.Ytbhkibilnmoljaa
set_option linter.unusedVariables false
set_option linter.unusedSimpArgs false
open Go.RowKit

theorem neg_lt {q : Rat} (h : q ≠ 0) : (!decide (q < 0)) = decide (-q < 0) := by
  by_cases h1 : q < 0
  · rw [decide_eq_true h1, decide_eq_false (by grind)]; rfl
  · rw [decide_eq_false h1, decide_eq_true (by grind)]; rfl
set_option maxHeartbeats 800000 in
theorem r2opp_can (v : Value) (q : Rat) (w : World) (h : FracC w v q) : Calls Try.prog 23 #[v] w (RF1 w (-q)) := by
  have H0 := Lib.hid h
  obtain ⟨a, b, rfl, ha, hb⟩ := id h
  obtain ⟨aa, al, ak, rfl, _⟩ := id ha.v.sl
  obtain ⟨ba, bl, bk, rfl, _⟩ := id hb.v.sl
  have hbx := below_alloc w (.cells #[.bool (decide (q < 0)), .slice aa al ak, .slice ba bl bk] 30)
  have hb2 := below_alloc (w.alloc (.cells #[.bool (decide (q < 0)), .slice aa al ak, .slice ba bl bk] 30)) (.cells #[.bool false, .slice none 0 0, .slice none 0 0] 30)
  have hC := (C3.new w 30 (.bool (decide (q < 0))) (.slice aa al ak) (.slice ba bl bk)).belowS hb2
  have hR := C3.newB (b := w.heap.size + 1) (w.alloc (.cells #[.bool (decide (q < 0)), .slice aa al ak, .slice ba bl bk] 30)) 30 (.bool false) (.slice none 0 0) (.slice none 0 0) (by simp)
  have HC := Lib.hid hC
  have HR := Lib.hid hR
  have HQ := Lib.hid ((h.below hbx).below hb2)
  have HA := Lib.hid (((ha.below hbx).below hb2).nat)
  have hbb := below_then hbx hb2
  have HLN : Hid (nlen q.num.natAbs = 0 ↔ q = 0) := Lib.hid (by rw [nlen_eq_zero]; constructor <;> intro h <;> simp_all)
  obtain ⟨_, c0, c1, c2, _, _, _⟩ := id hC
  clear hC hR h ha hb
  by_cases hz : q = 0
  · have HZ := Lib.hid hz
    clear hz
    go_enter Try.func23, Try.ntmps23
    go_wp2_with (go_at_call 52; (with_reducible refine (rtrim_any _ q.num.natAbs _ HA.out).mono ?_); rintro e1 w1 ⟨r1, rfl, hr1, hb1⟩
                 have s1 := hr1.v.sl
                 have l1 : slen r1 = 0 := hr1.v.len.trans (HLN.out.2 HZ.out)
                 obtain ⟨_, c0, c1, c2, _, _, _⟩ := HC.out.belowS hb1
                 have HR1 := Lib.hid (HR.out.belowS hb1)
                 obtain ⟨_, d0, d1, d2, d3, d4, d5⟩ := HR1.out)
    refine bodyPost_c1 rfl rfl Try.aggF Try.sizeF (HR1.out.set _ _ _) rfl ?_
    refine ⟨_, rfl, ?_, below_set3 (below_then hbb hb1) (Nat.le_succ _) _ _ _⟩
    have h9 : -q = q := by rw [HZ.out]; decide +kernel
    rw [h9]
    exact (HQ.out.below hb1).set3 HR1.out (fun z => by simp) (fun z => by simp) _ _ _
  · have HZ := Lib.hid hz
    have hl : ∃ L, nlen q.num.natAbs = L ∧ 0 < L := ⟨_, rfl, Nat.pos_of_ne_zero fun e => hz (HLN.out.1 e)⟩
    obtain ⟨L, hL, hL0⟩ := hl
    have HL := Lib.hid hL
    clear hz hL
    go_enter Try.func23, Try.ntmps23
    go_wp2_with (go_at_call 52; (with_reducible refine (rtrim_any _ q.num.natAbs _ HA.out).mono ?_); rintro e1 w1 ⟨r1, rfl, hr1, hb1⟩
                 have s1 := hr1.v.sl
                 have l1 : slen r1 = L := hr1.v.len.trans HL.out
                 obtain ⟨_, c0, c1, c2, _, _, _⟩ := HC.out.belowS hb1
                 have HR1 := Lib.hid (HR.out.belowS hb1)
                 obtain ⟨_, d0, d1, d2, d3, d4, d5⟩ := HR1.out)
    refine bodyPost_c1 rfl rfl Try.aggF Try.sizeF (HR1.out.set _ _ _) rfl ?_
    refine ⟨_, rfl, ?_, below_set3 (below_then hbb hb1) (Nat.le_succ _) _ _ _⟩
    obtain ⟨_, _, e9, e10, e11⟩ := HQ.out.below hb1
    injection e9 with e9
    injection e9 with e9
    simp only [List.cons.injEq, and_true] at e9
    obtain ⟨_, rfl, rfl⟩ := e9
    have hN : FracC w1 (.agg #[.bool (!decide (q < 0)), .slice aa al ak, .slice ba bl bk]) (-q) := ⟨_, _, by rw [neg_lt HZ.out], by rw [Rat.neg_num, Int.natAbs_neg]; exact e10, by rw [Rat.neg_den]; exact e11⟩
    exact hN.set3 HR1.out (fun z => by simp) (fun z => by simp) _ _ _
theorem r2same_can (va vb : Value) (p q : Rat) (w : World) (ha : FracC w va p) (hb : FracC w vb q) (hp : fits p) (hq : fits q) : Calls Try.prog 24 #[va, vb] w fun en w' => en = .returned (.bool (decide (p = q))) ∧ Below w.heap.size w w' := by
  have h := r2same_any va vb _ _ _ _ _ _ w ha.raw hb.raw ⟨p.den_nz, hp.2, hp.1⟩ ⟨q.den_nz, hq.2, hq.1⟩
  rw [fq_self, fq_self] at h
  exact h
end Go.Proofs.Ytbhkibilnmoljaa
namespace Go.Proofs.Ytbhkibilnmoljaa
open Go.ChangeShapes Go.WideShapes Go.ChangeAt Go.RowKit
set_option linter.unusedVariables false
set_option linter.unusedSimpArgs false

theorem Try.cellsI8 : Try.prog.cellsOf 37 = 1 := by kernel_rfl
section
variable {H : Type} {enc : TypeId × Value → H} {P : Program}
theorem trodAll_stays (hl : laidOutB P = true) {W W' : World} (hb : Below W.heap.size W W') : ∀ {ts : List TypeId} {vs : List Value} {ds : List (DataW H)} {ps : List MemPlace}, (ts.all fun t => P.readableRec t && decide (t < P.types.size)) = true →
    DataW.TrodAll enc P W 0 (fun _ => true) true ts vs ds ps → (∀ x ∈ ps, x.block < W.heap.size) → DataW.TrodAll enc P W' 0 (fun b => decide (b < W.heap.size)) true ts vs ds ps
  | [], vs, ds, ps, _, h, _ => by
    obtain ⟨rfl, rfl, rfl⟩ := trodAll_nil h
    exact trodAll_mk0
  | t :: ts, vs, ds, ps, hr, h, hlt => by
    obtain ⟨v, vs', d, ds', p, q, rfl, rfl, rfl, h1, h2⟩ := trodAll_cons h
    simp only [List.all_cons, Bool.and_eq_true, decide_eq_true_eq] at hr
    obtain ⟨⟨r1, r2⟩, r3⟩ := hr
    exact trodAll_cons_mk (Below.trod hl r1 r2 h1 hb fun x hx => hlt x (List.mem_append_left _ hx)) (trodAll_stays hl hb (ts := ts) r3 h2 fun x hx => hlt x (List.mem_append_right _ hx))
/-- A slice of small integers that came in. -/
theorem i8_in {W : World} {a : Addr} {len cap : Nat} {zs : List Int} (hl : len ≤ cap) (hm : cap ≤ maxLen) (hz : zs.length = cap) (hcell : ∀ i, i < zs.length → W.cell? (a.add i) = some (.int .i8 (zs.getD i 0))) (hwz : ∀ n ∈ zs, (Lit.int .i8 n).wf = true) :
    I8V W (.slice (some a) len cap) (zs.take len) := by
  have hb : ∀ n ∈ zs, -128 ≤ n ∧ n ≤ 127 := fun n hn => by
    have := hwz n hn
    simp [Lit.wf, IntKind.min, IntKind.max, IntKind.signed, IntKind.bits] at this
    omega
  refine ⟨⟨⟨a, len, cap, rfl, hl, hm, fun e => by cases e⟩, by simp [slen]; omega, fun j hj => ?_⟩, fun x hx => hb x (List.mem_of_mem_take hx)⟩
  have hj2 : j < len := by simp at hj; omega
  have hj3 : j < zs.length := by omega
  have h1 := hcell j hj3
  have e1 : zs.getD j 0 = zs[j] := by simp [List.getD, List.getElem?_eq_getElem hj3]
  rw [e1] at h1
  simp only [ptr, base, List.getElem_map, List.getElem_take]
  exact h1
end
section
variable {H : Type} {enc : TypeId × Value → H}
set_option maxRecDepth 100000 in
theorem u8_came {W : World} {base : Nat} {v : Value} {d : DataW H} {p : List MemPlace} (hv : Value.okWide Try.prog W .any base 5 v) (h : DataW.Trod enc Try.prog W 0 (fun _ => true) true 5 v d p) : ∃ x : Nat, v = .int .u8 x ∧ x < 256 := by
  obtain ⟨n, rfl, rfl, rfl, hwn⟩ := open_int Try.underlying5 hv h
  have hn : 0 ≤ n ∧ n < 256 := by
    simp [Lit.wf, IntKind.min, IntKind.max, IntKind.signed, IntKind.bits] at hwn
    omega
  exact ⟨n.toNat, by congr 1; omega, by omega⟩
set_option maxRecDepth 100000 in
theorem i8_came {W : World} {base : Nat} {v : Value} {d : DataW H} {p : List MemPlace} (hv : Value.okWide Try.prog W .any base 22 v) (h : DataW.Trod enc Try.prog W 0 (fun _ => true) true 22 v d p) : ∃ l, I8V W v l := by
  obtain ⟨a, len, cap, rfl⟩ := okWide_slice Try.underlying22 hv
  obtain ⟨fuel, hf⟩ := h
  rcases open_ints Try.underlying22 Try.underlying37 Try.cellsI8 hf with ⟨hcs, hx⟩ | ⟨a, len', cap', zs, hcs, _, hl, hm, hz, hx, hcell, hwz⟩
  · simp [Value.cells] at hcs
    obtain ⟨rfl, rfl, rfl⟩ := hcs
    exact ⟨[], ⟨IsSl.nil, rfl, fun j h => by simp at h⟩, fun x h => by simp at h⟩
  · simp [Value.cells] at hcs
    obtain ⟨rfl, rfl, rfl⟩ := hcs
    simp only [if_true] at hz
    exact ⟨_, i8_in hl hm hz hcell hwz⟩
end
end Go.Proofs.Ytbhkibilnmoljaa
namespace Go.Proofs.Ytbhkibilnmoljaa
set_option linter.unusedVariables false
set_option linter.unusedSimpArgs false
open Go.RowKit

set_option maxRecDepth 100000 in
set_option maxHeartbeats 3200000 in
theorem det_law (x x3 x4 : Nat) (va vb : Value) (l m : List Int) (w : World) (hx : x < 256) (hx3 : x3 < 256) (hx4 : x4 < 256) (hl : I8V w va l) (hm : I8V w vb m) :
    Calls Try.prog 5 #[.int .u8 x, va, vb, .int .u8 x3, .int .u8 x4] w (fun e w' => e = .returned (.bool true) ∧ Below w.heap.size w w') := by
  obtain ⟨k, hk⟩ : ∃ k, 1 + x % 5 = k := ⟨_, rfl⟩
  have hk1 : 1 ≤ k := by omega
  have hk5 : k ≤ 5 := by omega
  have hk24 : k ≤ 24 := by omega
  have HK := Lib.hid hk
  have HL := Lib.hid hl
  have HM := Lib.hid hm
  have sl := hl.1.sl
  have sm := hm.1.sl
  obtain ⟨A, hAe⟩ : ∃ A, smallM k l = A := ⟨_, rfl⟩
  obtain ⟨B, hBe⟩ : ∃ A, smallM k m = A := ⟨_, rfl⟩
  have sA : ∀ i j, i < k → j < k → smallQ (A i j) := fun i j _ _ => hAe ▸ (smallM_small k l i j).1
  have sB : ∀ i j, i < k → j < k → smallQ (B i j) := fun i j _ _ => hBe ▸ (smallM_small k m i j).1
  have FA : Hid (fitM k k A) := Lib.hid (hAe ▸ smallM_fit k k l)
  have FB : Hid (fitM k k B) := Lib.hid (hBe ▸ smallM_fit k k m)
  have wA : wtF k k A ≤ 200 := hAe ▸ smallM_wt l hk5 hk5
  have wB : wtF k k B ≤ 200 := hBe ▸ smallM_wt m hk5 hk5
  have OK := Lib.hid (det_ok hk5 sA sB)
  have HWM : Hid (wtF k k A + wtF k k B ≤ 3800) := Lib.hid (by omega)
  have HWA : Hid (wtF k k A ≤ 1900) := Lib.hid (by omega)
  have HWB : Hid (wtF k k B ≤ 1900) := Lib.hid (by omega)
  have HWP : Hid (wtF k k (mulM k A B) ≤ 1900) := Lib.hid (by have := OK.out.w; omega)
  have XA : Hid (slimE true k k k A) := Lib.hid (slimE_small (Nat.le_refl _) hk5 sA)
  have XB : Hid (slimE true k k k B) := Lib.hid (slimE_small (Nat.le_refl _) hk5 sB)
  have DA : Hid (detE k A = dt k A) := Lib.hid (detE_dt k A)
  have DB : Hid (detE k B = dt k B) := Lib.hid (detE_dt k B)
  have DP : Hid (detE k (mulM k A B) = dt k A * dt k B) := Lib.hid (by rw [detE_dt, dt_mul])
  have fDA := Lib.hid (dt_fits hk5 sA)
  have fDB := Lib.hid (dt_fits hk5 sB)
  have EA := Lib.hid hAe
  have EB := Lib.hid hBe
  have SA := Lib.hid sA
  clear hk hl hm hAe hBe sA sB wA wB
  go_enter Try.func5, Try.ntmps5
  go_upto_region 10 with (first
    | (go_at_call 9; (with_reducible refine (order_any x _ hx).mono ?_); rw [HK.out]; rintro e0 w0 ⟨rfl, rfl⟩)
    | (go_at_call 10; first
       | ((with_reducible refine (matrix_any _ l k k _ HL.out hk1 hk5 hk1 hk5).mono ?_); rw [EA.out]; rintro e1 w1 ⟨v1, rfl, hm1, hb1⟩
          have sl1 := hm1.sl
          have ln1 := hm1.len
          have HM1 := Lib.hid hm1
          have HB1 := Lib.hid hb1
          clear hm1 hb1)
       | ((with_reducible refine (matrix_any _ m k k _ (HM.out.below HB1.out) hk1 hk5 hk1 hk5).mono ?_); rw [EB.out]; rintro e2 w2 ⟨v2, rfl, hm2, hb2⟩
          have sl2 := hm2.sl
          have HM2 := Lib.hid hm2
          have HM12 := Lib.hid (HM1.out.below hb2)
          have HB2 := Lib.hid (below_then HB1.out hb2)
          clear hm2 hb2))
    | (go_at_call 21; (with_reducible refine (mul_lin _ _ k k k A B _ HM12.out HM2.out hk1 hk24 hk1 hk24 hk1 hk24 FA.out FB.out HWM.out OK.out.m.p OK.out.m.s).mono ?_); rintro e3 w3 ⟨v3, rfl, hm3, hb3⟩
       have sl3 := hm3.sl
       have HP3 := Lib.hid hm3
       have HA3 := Lib.hid (HM12.out.below hb3)
       have HQ3 := Lib.hid (HM2.out.below hb3)
       have HB3 := Lib.hid (below_then HB2.out hb3)
       clear hm3 hb3)
    | (go_at_call 16; first
       | ((with_reducible refine (det_lin v1 k A _ HA3.out hk1 hk24 FA.out HWA.out XA.out).mono ?_); rw [DA.out]; rintro e4 w4 ⟨v4, rfl, hv4, hb4⟩
          obtain ⟨t4, x4', y4, rfl, ⟨a41, l41, k41, rfl, _⟩, ⟨a42, l42, k42, rfl, _⟩⟩ := hv4.isF
          have ba4 := below_alloc w4 (.cells #[.bool t4, .slice a41 l41 k41, .slice a42 l42 k42] 30)
          have bb4 := below_then hb4 ba4
          have HV4 := Lib.hid (hv4.below ba4)
          have HC4 := Lib.hid (C3.new w4 30 (.bool t4) (.slice a41 l41 k41) (.slice a42 l42 k42))
          have HA4 := Lib.hid (HA3.out.below bb4)
          have HQ4 := Lib.hid (HQ3.out.below bb4)
          have HP4 := Lib.hid (HP3.out.below bb4)
          have HB4 := Lib.hid (below_then HB3.out bb4)
          have HB3sz : Hid (w.heap.size ≤ w4.heap.size) := Lib.hid (below_then HB3.out hb4).size
          clear hv4 hb4 ba4 bb4)
       | ((with_reducible refine (det_lin v2 k B _ HQ4.out hk1 hk24 FB.out HWB.out XB.out).mono ?_); rw [DB.out]; rintro e5 w5 ⟨v5, rfl, hv5, hb5⟩
          obtain ⟨t5, x5', y5, rfl, ⟨a51, l51, k51, rfl, _⟩, ⟨a52, l52, k52, rfl, _⟩⟩ := hv5.isF
          have ba5 := below_alloc w5 (.cells #[.bool t5, .slice a51 l51 k51, .slice a52 l52 k52] 30)
          have bb5 := below_then hb5 ba5
          have HV5 := Lib.hid (hv5.below ba5)
          have HC5 := Lib.hid (C3.new w5 30 (.bool t5) (.slice a51 l51 k51) (.slice a52 l52 k52))
          have HV45 := Lib.hid (HV4.out.below bb5)
          have HC45 := Lib.hid (HC4.out.belowS bb5)
          have HA5 := Lib.hid (HA4.out.below bb5)
          have HP5 := Lib.hid (HP4.out.below bb5)
          have HB5 := Lib.hid (below_then HB4.out bb5)
          clear hv5 hb5 ba5 bb5)
       | ((with_reducible refine (det_lin v3 k (mulM k A B) _ HP5.out hk1 hk24 OK.out.f HWP.out OK.out.x).mono ?_); rw [DP.out]; rintro e6 w6 ⟨v6, rfl, hv6, hb6⟩
          obtain ⟨t6, x6', y6, rfl, ⟨a61, l61, k61, rfl, _⟩, ⟨a62, l62, k62, rfl, _⟩⟩ := hv6.isF
          have ba6 := below_alloc w6 (.cells #[.bool t6, .slice a61 l61 k61, .slice a62 l62 k62] 30)
          have bb6 := below_then hb6 ba6
          have HV6 := Lib.hid (hv6.below ba6)
          have HC6 := Lib.hid (C3.new w6 30 (.bool t6) (.slice a61 l61 k61) (.slice a62 l62 k62))
          have HV46 := Lib.hid (HV45.out.below bb6)
          have HC46 := Lib.hid (HC45.out.belowS bb6)
          have HV56 := Lib.hid (HV5.out.below bb6)
          have HC56 := Lib.hid (HC5.out.belowS bb6)
          have HA6 := Lib.hid (HA5.out.below bb6)
          have HB6 := Lib.hid (below_then HB5.out bb6)
          obtain ⟨_, p0, p1, p2, _, _, _⟩ := HC46.out
          obtain ⟨_, q0, q1, q2, _, _, _⟩ := HC56.out
          clear hv6 hb6 ba6 bb6))
    | (go_at_call 13; (with_reducible refine (r2mul_can _ _ (dt k A) (dt k B) _ HV46.out HV56.out fDA.out fDB.out OK.out.d).mono ?_); rintro e7 w7 ⟨v7, rfl, hv7, hb7⟩
       obtain ⟨t7, x7', y7, rfl, ⟨a71, l71, k71, rfl, _⟩, ⟨a72, l72, k72, rfl, _⟩⟩ := hv7.isF
       have ba7 := below_alloc w7 (.cells #[.bool t7, .slice a71 l71 k71, .slice a72 l72 k72] 30)
       have bb7 := below_then hb7 ba7
       have HV7 := Lib.hid (hv7.below ba7)
       have HC7 := Lib.hid (C3.new w7 30 (.bool t7) (.slice a71 l71 k71) (.slice a72 l72 k72))
       have HV47 := Lib.hid (HV46.out.below bb7)
       have HC47 := Lib.hid (HC46.out.belowS bb7)
       have HV67 := Lib.hid (HV6.out.below bb7)
       have HC67 := Lib.hid (HC6.out.belowS bb7)
       have HA7 := Lib.hid (HA6.out.below bb7)
       have HB7 := Lib.hid (below_then HB6.out bb7)
       obtain ⟨_, r0, r1, r2, _, _, _⟩ := HC67.out
       obtain ⟨_, s0, s1, s2, _, _, _⟩ := HC7.out
       clear hv7 hb7 ba7 bb7)
    | (go_at_call 22; (with_reducible refine (same_frac _ _ _ _ _ HV67.out HV7.out).mono ?_); rintro e8 w8 ⟨⟨b8, rfl, hb8⟩, hbel8⟩; obtain rfl : b8 = true := hb8.2 rfl; clear hb8
       have HV48 := Lib.hid (HV47.out.below hbel8)
       have HC48 := Lib.hid (HC47.out.belowS hbel8)
       have HA8 := Lib.hid (HA7.out.below hbel8)
       have HB8 := Lib.hid (below_then HB7.out hbel8)
       clear hbel8))
  obtain ⟨W8, hW8⟩ : ∃ W8, W8 = w8 := ⟨_, rfl⟩
  subst hW8
  obtain ⟨i, hi⟩ : ∃ i, x3 % k = i := ⟨_, rfl⟩
  obtain ⟨j, hj⟩ : ∃ j, x4 % k = j := ⟨_, rfl⟩
  have hik : i < k := by rw [← hi]; exact Nat.mod_lt _ hk1
  have hjk : j < k := by rw [← hj]; exact Nat.mod_lt _ hk1
  have hmi : ((x3 : Nat) : Int).tmod (k : Nat) = (i : Nat) := by rw [← hi]; rfl
  have hmj : ((x4 : Nat) : Int).tmod (k : Nat) = (j : Nat) := by rw [← hj]; rfl
  go_cut [24, 25] (fun u24 u25 wy => u24 = .int .i64 (i : Nat) ∧ u25 = .int .i64 (j : Nat) ∧ Below W8.heap.size W8 wy)
  case first =>
    have b1 : (0 : Int) ≤ (x3 : Int) := by omega
    have b2 : (x3 : Int) ≤ 255 := by omega
    have b3 : (0 : Int) ≤ (x4 : Int) := by omega
    have b4 : (x4 : Int) ≤ 255 := by omega
    have b5 : ((k : Int) == 0) = false := by simp; omega
    go_quiet (fail)
    go_wp2_with fail
    go_meet
    case rel => exact ⟨rfl, rfl, below_drewN W8 nq⟩
  case rest =>
    obtain ⟨rfl, rfl, hb9⟩ := hcut
    obtain ⟨w9, hw9⟩ : ∃ w9, w9 = wc := ⟨_, rfl⟩
    subst hw9
    have HV49 := Lib.hid (HV48.out.below hb9)
    have HC49 := Lib.hid (HC48.out.belowS hb9)
    have HA9 := Lib.hid (HA8.out.below hb9)
    have HB9 := Lib.hid (below_then HB8.out hb9)
    obtain ⟨a1, a2, a3, rfl, ha3⟩ := id sl1
    obtain ⟨ad, rfl⟩ : ∃ ad, a1 = some ad := by
      cases a1 with
      | none => exfalso; have h1 := ln1; have h2 := ha3.2.2 rfl; have h3 : a2 = k := h1; omega
      | some ad => exact ⟨ad, rfl⟩
    obtain rfl : a2 = k := ln1
    obtain ⟨news, n1, n2, n3, n4, n5⟩ := HA9.out.rows
    have hin : i < news.length := by omega
    have hjn : j < news.length := by omega
    obtain ⟨i4, hi4, hz4, hs4, hy4⟩ := info_parts Try.infoRow
    have hAP := append_rows (P := Try.prog) 24 26 i4 Try.underlying24 hi4 hz4 hs4 hy4
    have hbX := below_alloc w9 (.cells #[] 26)
    have hnews : ∀ q u, news[q]? = some u → (w9.alloc (.cells #[] 26)).cell? (ad.add q) = some u := fun q u hu => by
      have h := cell_below hbX (n2 q u hu)
      simpa only [ptr, base] using h
    have hle : ([] : List Value).length + a2 ≤ 1000 := by simp; omega
    have N2 := Lib.hid n2
    have N5 := Lib.hid n5
    clear hi4 hz4 hs4 hy4 hb9 n2 n5 hmi hmj
    go_upto_region 12 with (at_builtin; refine hAP (w9.alloc (.cells #[] 26)) rfl _ _ rfl w9.heap.size (.slice (some ⟨w9.heap.size, 0, none⟩) 0 0) [] rfl (OwnR.empty rfl (Nat.le_refl _)) ad a2 a3 rfl news n1 hnews n3 n4 hle (by simp) ?_; intro v10 w10 ho10 hg10 hn10 hq10 sl10)
    have hb10 : Below w9.heap.size (w9.alloc (.cells #[] 26)) w10 := below_of_grown hg10 (by simp) (fun q hq => by simp only [Value.ownBlock, Option.some.injEq] at hq; omega)
    have hB10 := hbX.trans hb10
    rw [List.nil_append] at ho10
    have hR := RowsM.copy (w0 := w9) (A := A) ho10 n1 hB10 hk1 N5.out
    have hA10 := HA9.out.below hB10
    have ci := cell_below hB10 (N2.out i _ (List.getElem?_eq_getElem hin))
    have cj := cell_below hB10 (N2.out j _ (List.getElem?_eq_getElem hjn))
    have oi := hR.own.cell i hin
    have oj := hR.own.cell j hjn
    have fi := hR.own.frozen i hin
    have fj := hR.own.frozen j hjn
    obtain ⟨i1', i2', i3', hni, _⟩ := (N5.out i hin).sl
    obtain ⟨j1', j2', j3', hnj, _⟩ := (N5.out j hjn).sl
    rw [hni] at ci oi
    rw [hnj] at cj oj
    have sv10 := sl10
    have lv10 : slen v10 = a2 := by have := hR.own.len; omega
    have hvb := hR.vblock (by omega)
    have hbA : (base (.slice (some ad) a2 a3)).block < w9.heap.size := by
      have h := World.block_lt_of_cell? w9 _ (N2.out i _ (List.getElem?_eq_getElem hin))
      rwa [ptr_block] at h
    have hneA : ∀ q r, (ptr v10 q) ≠ ptr (.slice (some ad) a2 a3) r := fun q r e => by
      have h := congrArg Addr.block e
      rw [ptr_block, ptr_block] at h
      omega
    have HSV := Lib.hid (And.intro n1 HB9.out)
    have HR := Lib.hid hR
    have HB10 := Lib.hid hB10
    have HNI := Lib.hid hni
    have HNJ := Lib.hid hnj
    have y1 : (0 : Int) ≤ (i : Int) := by omega
    have y2 : (i : Int) < (a2 : Nat) := by omega
    have y3 : (0 : Int) ≤ (j : Int) := by omega
    have y4 : (j : Int) < (a2 : Nat) := by omega
    clear hg10 hn10 hq10 ho10 hb10 hbX hnews hAP n1 n3 n4 hle
    go_cut [26] (fun u26 wy => ∃ rs', u26 = v10 ∧ RowsM wy w9.heap.size v10 rs' a2 a2 (fun q => rowL a2 (swpIf A i j q)) ∧ Below w9.heap.size w9 wy)
    case first =>
      by_cases hij : i = j
      · subst hij
        have hs0 : Value.slice i1' i2' i3' = Value.slice j1' j2' j3' := hni.symm.trans hnj
        injection hs0 with hs1 hs2 hs3
        subst hs1 hs2 hs3
        obtain ⟨r1, r2⟩ := hR.one hin
        obtain ⟨r3, r4⟩ := r1.one hin
        have r5 := r2.trans r4
        rw [hni] at r3 r5
        have HSW : Hid (RowsM ((w10.setCell (ptr v10 i) (.slice i1' i2' i3')).setCell (ptr v10 i) (.slice i1' i2' i3')) w9.heap.size v10 news a2 a2 (fun q => rowL a2 (A q)) ∧ Below w9.heap.size w10 ((w10.setCell (ptr v10 i) (.slice i1' i2' i3')).setCell (ptr v10 i) (.slice i1' i2' i3'))) := Lib.hid ⟨r3, r5⟩
        have K1 : Hid ((w10.setCell (ptr v10 i) (.slice i1' i2' i3')).cell? (ptr (.slice (some ad) a2 a3) i) = some (.slice i1' i2' i3') ∧ (w10.setCell (ptr v10 i) (.slice i1' i2' i3')).cell? (ptr (.slice (some ad) a2 a3) i) = some (.slice i1' i2' i3')) := Lib.hid ⟨by rw [World.cell?_setCell_other _ _ _ _ (hneA _ _)]; exact ci, by rw [World.cell?_setCell_other _ _ _ _ (hneA _ _)]; exact ci⟩
        have K2 : Hid (((w10.setCell (ptr v10 i) (.slice i1' i2' i3')).setCell (ptr v10 i) (.slice i1' i2' i3')).cell? (ptr (.slice (some ad) a2 a3) i) = some (.slice i1' i2' i3') ∧ ((w10.setCell (ptr v10 i) (.slice i1' i2' i3')).setCell (ptr v10 i) (.slice i1' i2' i3')).cell? (ptr (.slice (some ad) a2 a3) i) = some (.slice i1' i2' i3')) := Lib.hid ⟨by rw [World.cell?_setCell_other _ _ _ _ (hneA _ _)]; exact K1.out.1, by rw [World.cell?_setCell_other _ _ _ _ (hneA _ _)]; exact K1.out.2⟩
        clear hR hA10 hneA r1 r2 r3 r4 r5
        go_region_held3 (fun w' => w'.cell? (ptr (.slice (some ad) a2 a3) i) = some (.slice i1' i2' i3') ∧ w'.cell? (ptr (.slice (some ad) a2 a3) i) = some (.slice i1' i2' i3')) (first
          | exact ⟨ci, ci⟩
          | exact K1.out
          | exact K2.out) (fail)
        go_wp2_with fail
        go_meet
        case rel =>
          have hbd := below_drew (B := ((w10.setCell (ptr v10 i) (.slice i1' i2' i3')).setCell (ptr v10 i) (.slice i1' i2' i3')).heap.size) ((w10.setCell (ptr v10 i) (.slice i1' i2' i3')).setCell (ptr v10 i) (.slice i1' i2' i3'))
          have hsz := HB10.out.trans HSW.out.2
          have e0 : swpIf A i i = A := by unfold swpIf; rw [if_pos rfl]
          exact ⟨_, rfl, by rw [e0]; exact HSW.out.1.below hbd, below_then2 hsz hbd hsz.size⟩
      · have n12 := hR.own.inj (by omega) hij
        have hsw := hR.swap hin hjn hij
        rw [hni, hnj] at hsw
        have HSW : Hid (RowsM ((w10.setCell (ptr v10 i) (.slice j1' j2' j3')).setCell (ptr v10 j) (.slice i1' i2' i3')) w9.heap.size v10 ((news.set i (.slice j1' j2' j3')).set j (.slice i1' i2' i3')) a2 a2 (fun q => rowL a2 (swp A i j q)) ∧ Below w9.heap.size w10 ((w10.setCell (ptr v10 i) (.slice j1' j2' j3')).setCell (ptr v10 j) (.slice i1' i2' i3'))) := Lib.hid hsw
        have K1 : Hid ((w10.setCell (ptr v10 i) (.slice j1' j2' j3')).cell? (ptr (.slice (some ad) a2 a3) i) = some (.slice i1' i2' i3') ∧ (w10.setCell (ptr v10 i) (.slice j1' j2' j3')).cell? (ptr (.slice (some ad) a2 a3) j) = some (.slice j1' j2' j3')) := Lib.hid ⟨by rw [World.cell?_setCell_other _ _ _ _ (hneA _ _)]; exact ci, by rw [World.cell?_setCell_other _ _ _ _ (hneA _ _)]; exact cj⟩
        have K2 : Hid (((w10.setCell (ptr v10 i) (.slice j1' j2' j3')).setCell (ptr v10 j) (.slice i1' i2' i3')).cell? (ptr (.slice (some ad) a2 a3) i) = some (.slice i1' i2' i3') ∧ ((w10.setCell (ptr v10 i) (.slice j1' j2' j3')).setCell (ptr v10 j) (.slice i1' i2' i3')).cell? (ptr (.slice (some ad) a2 a3) j) = some (.slice j1' j2' j3')) := Lib.hid ⟨by rw [World.cell?_setCell_other _ _ _ _ (hneA _ _)]; exact K1.out.1, by rw [World.cell?_setCell_other _ _ _ _ (hneA _ _)]; exact K1.out.2⟩
        clear hsw hR hA10 hneA
        go_region_held3 (fun w' => w'.cell? (ptr (.slice (some ad) a2 a3) i) = some (.slice i1' i2' i3') ∧ w'.cell? (ptr (.slice (some ad) a2 a3) j) = some (.slice j1' j2' j3')) (first
          | exact ⟨ci, cj⟩
          | exact K1.out
          | exact K2.out) (fail)
        go_wp2_with fail
        go_meet
        case rel =>
          have hbd := below_drew (B := ((w10.setCell (ptr v10 i) (.slice j1' j2' j3')).setCell (ptr v10 j) (.slice i1' i2' i3')).heap.size) ((w10.setCell (ptr v10 i) (.slice j1' j2' j3')).setCell (ptr v10 j) (.slice i1' i2' i3'))
          have hsz := HB10.out.trans HSW.out.2
          have e0 : swpIf A i j = swp A i j := by unfold swpIf; rw [if_neg hij]
          exact ⟨_, rfl, by rw [e0]; exact HSW.out.1.below hbd, below_then2 hsz hbd hsz.size⟩
    case rest =>
      obtain ⟨rs', rfl, hR2, hb12⟩ := hcut
      obtain ⟨w12, hw12⟩ : ∃ w12, w12 = wc := ⟨_, rfl⟩
      subst hw12
      have HD12 := Lib.hid hR2.mat
      have HV12 := Lib.hid (HV49.out.below hb12)
      have HC12 := Lib.hid (HC49.out.belowS hb12)
      have HB12 := Lib.hid (below_then HB9.out hb12)
      have fD : Hid (fitM a2 a2 (swpIf A i j)) := Lib.hid (swpIf_all (p := fits) hik hjk FA.out)
      have xD : Hid (slimE true a2 a2 a2 (swpIf A i j)) := Lib.hid (slimE_small (Nat.le_refl _) hk5 (swpIf_all (p := smallQ) hik hjk SA.out))
      have wD : Hid (wtF a2 a2 (swpIf A i j) ≤ 1900) := Lib.hid (by
        have h1 := wtF_le (n := a2) (m := a2) (A := swpIf A i j) (K := 8) (swpIf_all (p := fun q => wt q ≤ 8) hik hjk (fun p q _ _ => EA.out ▸ (smallM_small a2 l p q).2))
        have h2 : a2 * (a2 * 8) ≤ 5 * (5 * 8) := Nat.mul_le_mul hk5 (Nat.mul_le_mul_right _ hk5)
        omega)
      clear hR2 hb12 hR hA10 ci cj oi oj fi fj hneA
      by_cases hij : i = j
      · have hij2 : ((i : Int) != (j : Int)) = false := by simp [hij]
        have DD : Hid (detE a2 (swpIf A i j) = dt a2 A) := Lib.hid (by rw [detE_dt, dt_swpIf hik hjk, if_pos hij])
        clear hij
        go_wp2_with (first
          | (go_at_call 16; (with_reducible refine (det_lin _ a2 (swpIf A i j) _ HD12.out hk1 hk24 fD.out wD.out xD.out).mono ?_); rw [DD.out]; rintro e14 w14 ⟨v14, rfl, hv14, hb14⟩
             obtain ⟨t14, x14', y14, rfl, ⟨a141, l141, k141, rfl, _⟩, ⟨a142, l142, k142, rfl, _⟩⟩ := hv14.isF
             have ba14 := below_alloc w14 (.cells #[.bool t14, .slice a141 l141 k141, .slice a142 l142 k142] 30)
             have bb14 := below_then hb14 ba14
             have HV14 := Lib.hid (hv14.below ba14)
             have HX14 := Lib.hid (HV12.out.below bb14)
             have HB14 := Lib.hid (below_then HB12.out bb14)
             obtain ⟨_, p0, p1, p2, _, _, _⟩ := HC12.out.belowS bb14
             obtain ⟨_, q0, q1, q2, _, _, _⟩ := (C3.new w14 30 (.bool t14) (.slice a141 l141 k141) (.slice a142 l142 k142))
             clear hv14 hb14 ba14 bb14)
          | (go_at_call 24; (with_reducible refine (r2same_can _ _ _ _ _ HV14.out HX14.out fDA.out fDA.out).mono ?_); rw [decide_eq_true (rfl : dt a2 A = dt a2 A)]; rintro e15 w15 ⟨rfl, hb15⟩
             have HB15 := Lib.hid (below_then HB14.out hb15)
             clear hb15)
          | (go_at_call 15; (with_reducible refine (awake_any _).mono ?_); rintro e16 w16 ⟨rfl, hb16⟩))
        go_ret
        exact ⟨rfl, below_then HB15.out hb16⟩
      · have hij2 : ((i : Int) != (j : Int)) = true := by simp; omega
        have DD : Hid (detE a2 (swpIf A i j) = -dt a2 A) := Lib.hid (by rw [detE_dt, dt_swpIf hik hjk, if_neg hij])
        have fN := Lib.hid (neg_fits fDA.out)
        clear hij
        go_wp2_with (first
          | (go_at_call 16; (with_reducible refine (det_lin _ a2 (swpIf A i j) _ HD12.out hk1 hk24 fD.out wD.out xD.out).mono ?_); rw [DD.out]; rintro e14 w14 ⟨v14, rfl, hv14, hb14⟩
             obtain ⟨t14, x14', y14, rfl, ⟨a141, l141, k141, rfl, _⟩, ⟨a142, l142, k142, rfl, _⟩⟩ := hv14.isF
             have ba14 := below_alloc w14 (.cells #[.bool t14, .slice a141 l141 k141, .slice a142 l142 k142] 30)
             have bb14 := below_then hb14 ba14
             have HV14 := Lib.hid (hv14.below ba14)
             have HX14 := Lib.hid (HV12.out.below bb14)
             have HB14 := Lib.hid (below_then HB12.out bb14)
             have HCX := Lib.hid (HC12.out.belowS bb14)
             have HCY := Lib.hid (C3.new w14 30 (.bool t14) (.slice a141 l141 k141) (.slice a142 l142 k142))
             have HNB : Hid (w14.heap.size ≠ w4.heap.size) := Lib.hid (by have h1 := HC12.out.lt; have h2 := hb14.size; omega)
             obtain ⟨_, p0, p1, p2, _, _, _⟩ := HCX.out
             clear hv14 hb14 ba14 bb14)
          | (go_at_call 23; (with_reducible refine (r2opp_can _ _ _ HX14.out).mono ?_); rintro e17 w17 ⟨v17, rfl, hv17, hb17⟩
             obtain ⟨t17, x17', y17, rfl, ⟨a171, l171, k171, rfl, _⟩, ⟨a172, l172, k172, rfl, _⟩⟩ := hv17.isF
             have HCX2 := Lib.hid (HCX.out.belowS hb17)
             have HCY2 := Lib.hid (HCY.out.belowS hb17)
             have HY17 := Lib.hid (HCX2.out.set (.bool t17) (.slice a171 l171 k171) (.slice a172 l172 k172))
             have HV17 := Lib.hid (hv17.set3 HCX2.out (fun z => by simp) (fun z => by simp) (.bool t17) (.slice a171 l171 k171) (.slice a172 l172 k172))
             have HV18 := Lib.hid ((HV14.out.below hb17).set3 HCX2.out (fun z => by simp) (fun z => by simp) (.bool t17) (.slice a171 l171 k171) (.slice a172 l172 k172))
             have HZ := Lib.hid (((HCY2.out.other ⟨w4.heap.size, 0, none⟩ (.bool t17) (fun e => HNB.out e.symm)).other ⟨w4.heap.size, 1, none⟩ (.slice a171 l171 k171) (fun e => HNB.out e.symm)).other ⟨w4.heap.size, 2, none⟩ (.slice a172 l172 k172) (fun e => HNB.out e.symm))
             have HB17 := Lib.hid (below_then HB14.out hb17)
             have HBS := Lib.hid (below_set3 HB17.out (show w.heap.size ≤ w4.heap.size from HB3sz.out) (.bool t17) (.slice a171 l171 k171) (.slice a172 l172 k172))
             obtain ⟨_, c0, c1, c2, f0, f1, f2⟩ := HCX2.out
             obtain ⟨_, q0, q1, q2, _, _, _⟩ := HY17.out
             obtain ⟨_, r0, r1, r2, _, _, _⟩ := HZ.out
             clear hv17 hb17)
          | (go_at_call 24; (with_reducible refine (r2same_can _ _ _ _ _ HV18.out HV17.out fN.out fN.out).mono ?_); rw [decide_eq_true (rfl : -dt a2 A = -dt a2 A)]; rintro e15 w15 ⟨rfl, hb15⟩
             have HB15 := Lib.hid (below_then HBS.out hb15)
             clear hb15)
          | (go_at_call 15; (with_reducible refine (awake_any _).mono ?_); rintro e16 w16 ⟨rfl, hb16⟩))
        go_ret
        exact ⟨rfl, below_then HB15.out hb16⟩
end Go.Proofs.Ytbhkibilnmoljaa
namespace Go.Proofs.Ytbhkibilnmoljaa
open Go.ChangeShapes Go.WideShapes Go.ChangeAt Go.RowKit
set_option linter.unusedVariables false
set_option linter.unusedSimpArgs false

set_option maxRecDepth 100000 in
theorem linearDet_lifted (os : Os) (started : os.Started) (H : Type) (enc : TypeId × Value → H) :
    ReturnsInHanded {} Try.checked os 5 .any (Rows.linearDetSpec.pre6 enc Try.prog Try.f5 Rows.linearDetRow.domain false) (Rows.linearDetSpec.post enc Try.prog Try.f5 false true false false) := by
  refine returnsInHanded_of_change (C := Try.checked) Try.ownK started (by kernel_rfl) Try.func5
    (ChangeSpec.witness6 (enc := enc) (C := Try.checked) false ⟨#[], #[.int .u8 0, .slice none 0 0, .slice none 0 0, .int .u8 0, .int .u8 0], []⟩ 8 (by kernel_rfl) (by kernel_rfl) (by kernel_rfl) (by kernel_rfl)) ?_
  intro W base args ds gs before hval0 hW hcnd _
  have hval : ∀ (j : Nat) t v, Try.f5.params[j]? = some t → args[j]? = some v → Value.okWide Try.prog W .any base t v := hval0
  have hW' := hW
  obtain ⟨p, q, hA0, hV, rfl, hfz, hnd⟩ := hW
  have hA : DataW.TrodAll enc Try.prog W 0 (fun _ => true) true Try.f5.params.toList args.toList ds p := hA0
  rw [Try.params5] at hA hval
  obtain ⟨rfl, rfl⟩ := trodVars_none hV
  simp only [List.append_nil] at hW'
  have hback := fun (W' : World) (hb : Below W.heap.size W W') => trodAll_stays (enc := enc) Try.laidOut hb (by kernel_rfl) hA hW'.lt
  obtain ⟨v0, vs0, d0, ds0, p0, q0, e0, rfl, _, h0, hA⟩ := trodAll_cons hA
  obtain ⟨v1, vs1, d1, ds1, p1, q1, rfl, rfl, _, h1, hA⟩ := trodAll_cons hA
  obtain ⟨v2, vs2, d2, ds2, p2, q2, rfl, rfl, _, h2, hA⟩ := trodAll_cons hA
  obtain ⟨v3, vs3, d3, ds3, p3, q3, rfl, rfl, _, h3, hA⟩ := trodAll_cons hA
  obtain ⟨v4, vs4, d4, ds4, p4, q4, rfl, rfl, _, h4, hA⟩ := trodAll_cons hA
  obtain ⟨rfl, rfl, _⟩ := trodAll_nil hA
  obtain rfl : args = #[v0, v1, v2, v3, v4] := by cases args; simp_all
  obtain ⟨x0, rfl, g0⟩ := u8_came (hval 0 5 v0 rfl rfl) h0
  obtain ⟨l1, g1⟩ := i8_came (hval 1 22 v1 rfl rfl) h1
  obtain ⟨l2, g2⟩ := i8_came (hval 2 22 v2 rfl rfl) h2
  obtain ⟨x3, rfl, g3⟩ := u8_came (hval 3 5 v3 rfl rfl) h3
  obtain ⟨x4, rfl, g4⟩ := u8_came (hval 4 5 v4 rfl rfl) h4
  refine (det_law x0 x3 x4 _ _ l1 l2 W g0 g3 g4 g1 g2).mono fun e W' ⟨he, hnx⟩ => ?_
  subst he
  refine ⟨_, rfl, _, _, _, [], p, [], hW', ?_, hback _ hnx, ?_, hnx.frame _, fun h => by cases h⟩
  · exact trodAll_mk1 (shut_bool Try.underlying4 _)
  · rfl
theorem linearDet_holds : Rows.LinearDetSaid :=
  OpenClaim.holds_of_wide 5 Try.f5 rfl rfl rfl rfl rfl rfl rfl ⟨rfl, rfl, rfl, rfl, rfl⟩ rfl rfl rfl rfl rfl (by kernel_rfl) Try.func5 (by kernel_rfl)
    (of_decide_eq_true (by kernel_rfl)) (by unfold Func.isWrapper; first | (rw [if_pos (by decide +kernel)]; kernel_rfl) | (rw [if_neg (by decide +kernel)]; exact ⟨rfl, rfl⟩))
    (fun os started H enc _ => linearDet_lifted os started H enc)
#print axioms linearDet_holds
end Go.Proofs.Ytbhkibilnmoljaa
