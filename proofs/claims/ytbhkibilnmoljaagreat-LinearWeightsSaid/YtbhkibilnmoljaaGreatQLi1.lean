/-
  package linear: number, zero, keep.
  Ahead of it: package fraction: Sub; Sub, Mul, Quo of canonical fractions whose result is not large. Rows of elements of any size that the call made: append, and the block that the new row lies in. No program is named here. What is kept while a variable is written or a row grows: own rows of fractions. No program is named here. A table under elimination in memory: rows of fractions that a call made, the slice of the rows, the table's own variable. No code is walked here.
-/
import Derived.Test.YtbhkibilnmoljaaGreatQEl1
import Derived.Test.YtbhkibilnmoljaaGreatQFr5
import Derived.Test.YtbhkibilnmoljaaGreatQGn
import Derived.Lib.OwnKind
namespace Go.Proofs.YtbhkibilnmoljaaGreat
set_option linter.unusedVariables false
set_option linter.unusedSimpArgs false
open Go.RowKit

set_option maxRecDepth 100000 in
set_option maxHeartbeats 1600000 in
theorem sub_frac (va vb : Value) (s t : Bool) (n d m e : Nat) (w : World) (ha : FracN w va s n d) (hb : FracN w vb t m e) (h1 : okN n d) (h2 : okN m e) :
    Calls Tryz.prog 76 #[va, vb] w (RFrac w (fq s n d - fq t m e)) := by
  have hA := ha
  have hB := hb
  obtain ⟨xn, xd, rfl, hxn, hxd⟩ := ha
  obtain ⟨yn, yd, rfl, hyn, hyd⟩ := hb
  obtain ⟨an, ln, kn, rfl, _⟩ := hxn.slen.1
  obtain ⟨ad, ld, kd, rfl, _⟩ := hxd.slen.1
  obtain ⟨am, lm, km, rfl, _⟩ := hyn.slen.1
  obtain ⟨ae, le, ke, rfl, _⟩ := hyd.slen.1
  have HQ := Lib.hid (fq_sub s t n d m e h2.1)
  have K1 := Lib.hid h1
  have K2 := Lib.hid h2
  clear h1 h2 hxn hxd hyn hyd
  go_enter Tryz.func76, Tryz.ntmps76
  go_wp2_with fail
  obtain ⟨W, hW⟩ : ∃ W, W = (((w.alloc (.cells #[.bool s, .slice an ln kn, .slice ad ld kd] 25)).alloc (.cells #[.bool t, .slice am lm km, .slice ae le ke] 25)).alloc (.cells #[.bool false, .slice none 0 0, .slice none 0 0] 25)) := ⟨_, rfl⟩
  obtain ⟨bx, byy, bz, hbw⟩ := three_boxes w 25 _ _ _ _ _ _ _ _ _ W hW
  rw [← hW]
  clear hW
  have hd2 := below_drew (B := W.heap.size) W
  have hD := hbw.trans (hd2.mono hbw.size)
  have hbx3 := bx.belowS hd2
  have hby3 := byy.belowS hd2
  have hbz3 := bz.belowS hd2
  have HX3 := Lib.hid hbx3
  have HY3 := Lib.hid hby3
  have HZ3 := Lib.hid hbz3
  have gA := hA.below hD
  have gB := hB.below hD
  clear bx byy bz hbw hA hB hd2
  obtain ⟨_, q1, q2, q3, q4, q5, q6⟩ := hbx3
  obtain ⟨_, r1, r2, r3, r4, r5, r6⟩ := hby3
  obtain ⟨_, z1, z2, z3, z4, z5, z6⟩ := hbz3
  go_region_held3 (fun w' => w'.cell? ⟨w.heap.size, 0, none⟩ = some (.bool s) ∧ w'.cell? ⟨w.heap.size, 1, none⟩ = some (.slice an ln kn) ∧ w'.cell? ⟨w.heap.size, 2, none⟩ = some (.slice ad ld kd) ∧ w'.cell? ⟨w.heap.size + 1, 0, none⟩ = some (.bool t) ∧ w'.cell? ⟨w.heap.size + 1, 1, none⟩ = some (.slice am lm km) ∧ w'.cell? ⟨w.heap.size + 1, 2, none⟩ = some (.slice ae le ke)) (first | with_reducible exact ⟨q1, q2, q3, r1, r2, r3⟩ | (refine ⟨?_, ?_, ?_, ?_, ?_, ?_⟩ <;> go_simp)) (first
    | (go_at_call 92; (with_reducible refine (fminus_any _ t m e _ gB).mono ?_); rintro e9 w3 ⟨v3, rfl, hv3, hb3⟩
       have gA3 := gA.below hb3
       have X4 := HX3.out.belowS hb3
       have Y4 := HY3.out.belowS hb3
       have HX4 := Lib.hid X4
       have HY4 := Lib.hid Y4
       obtain ⟨_, q1, q2, q3, q4, q5, q6⟩ := X4
       obtain ⟨_, r1, r2, r3, r4, r5, r6⟩ := Y4)
    | (go_at_call 78; (with_reducible refine (add_frac _ _ s (!t) n d m e _ gA3 hv3 K1.out K2.out).mono ?_); rintro e9 w5 ⟨v, er, rfl, hv1, hv2, hv4⟩
       obtain ⟨t9, x9, y9, rfl, ⟨a1, l91, k1, rfl, _⟩, ⟨a2, l92, k2, rfl, _⟩⟩ := rfrac_isF (w0 := w) hv2 hv4
       have hp26 := below_then hb3 hv1
       have X6 := HX4.out.belowS hv1
       have Y6 := HY4.out.belowS hv1
       have Z6 := HZ3.out.belowS hp26
       have HZ6 := Lib.hid Z6
       obtain ⟨_, q1, q2, q3, q4, q5, q6⟩ := X6
       obtain ⟨_, r1, r2, r3, r4, r5, r6⟩ := Y6
       obtain ⟨_, z1, z2, z3, z4, z5, z6⟩ := Z6))
  all_goals
    go_wp2_with fail
    refine bodyPost_c3 rfl rfl Tryz.aggF Tryz.sizeF (HZ6.out.set _ _ _) rfl ?_
    rw [HQ.out]
    exact ⟨_, _, rfl, below_set3 (hD.trans (hp26.mono hD.size)) (by omega) _ _ _, fun h => ⟨(hv2 h).1, (hv2 h).2.set3 HZ6.out (fun z => by simp) (fun z => by simp) _ _ _⟩, hv4⟩
theorem sub_can (va vb : Value) (p q : Rat) (w : World) (ha : FracC w va p) (hb : FracC w vb q) (hp : fits p) (hq : fits q) (hr : fits (p - q)) : Calls Tryz.prog 76 #[va, vb] w (RF0 w (p - q)) := by
  have := sub_frac va vb _ _ _ _ _ _ w ha.raw hb.raw (fits_okN hp) (fits_okN hq)
  rw [fq_self, fq_self] at this
  exact this.mono fun _ _ h => h.ok rfl hr
theorem mul_can (va vb : Value) (p q : Rat) (w : World) (ha : FracC w va p) (hb : FracC w vb q) (hp : fits p) (hq : fits q) (hr : fits (p * q)) : Calls Tryz.prog 56 #[va, vb] w (RF0 w (p * q)) := by
  have := mul_frac va vb _ _ _ _ _ _ w ha.raw hb.raw (fits_okN hp) (fits_okN hq)
  rw [fq_self, fq_self] at this
  exact this.mono fun _ _ h => h.ok rfl hr
theorem add_can (va vb : Value) (p q : Rat) (w : World) (ha : FracC w va p) (hb : FracC w vb q) (hp : fits p) (hq : fits q) (hr : fits (p + q)) : Calls Tryz.prog 78 #[va, vb] w (RF0 w (p + q)) := by
  have := add_frac va vb _ _ _ _ _ _ w ha.raw hb.raw (fits_okN hp) (fits_okN hq)
  rw [fq_self, fq_self] at this
  exact this.mono fun _ _ h => h.ok rfl hr
theorem quo_can (va vb : Value) (p q : Rat) (w : World) (ha : FracC w va p) (hb : FracC w vb q) (hp : fits p) (hq : fits q) (hq0 : q ≠ 0) (hr : fits (p / q)) : Calls Tryz.prog 45 #[va, vb] w (RF0 w (p / q)) := by
  have := quo_frac va vb _ _ _ _ _ _ w ha.raw hb.raw (fits_okN hp) (fits_okN hq) (fun h => hq0 (Rat.num_eq_zero.1 (by omega)))
  rw [fq_self, fq_self] at this
  exact this.mono fun _ _ h => h.ok rfl hr
end Go.Proofs.YtbhkibilnmoljaaGreat
namespace Go.Proofs.YtbhkibilnmoljaaGreat
set_option linter.unusedVariables false
set_option linter.unusedSimpArgs false
open Go.RowKit

/-- No cell of v's block is a limb. -/
def NoLimb (w : World) (v : Value) : Prop := ∀ g, v.ownBlock = some g → ∀ cur e fz, w.heap[g]? = some (.cells cur e fz) → ∀ c ∈ cur.toList, ∀ z, c ≠ .int .u32 z
theorem NoLimb.nil (w : World) : NoLimb w (.slice none 0 0) := fun g h => by cases h
theorem mem_zeroCells {z : Array Value} {n : Nat} {c : Value} (h : c ∈ (Builtin.zeroCells z n).toList) : c ∈ z.toList := by
  unfold Builtin.zeroCells at h
  simp at h
  obtain ⟨a, h1, h2⟩ := h
  have hz : 0 < z.size := Nat.pos_of_ne_zero (fun h => by rw [h] at h1; omega)
  rw [getElem!_pos z (a % z.size) (Nat.mod_lt _ hz)] at h2
  rw [← h2]
  simp
theorem run_append_R {P : Program} (w : World) (B : Nat) (t ty e : TypeId) (i : TypeInfo) (z : Value) (size bytes : Nat) (ht : P.underlying t = some (.slice e)) (hi : P.info? e = some i) (hz : i.zero = some z)
    (hsize : i.size = size) (hby : i.bytes = bytes) (hzs : z.cells.size = size) (hsz : 0 < size)
    (v : Value) (n : Nat) (xs : List Value) (hown : w.ownsRow B e size v n xs) (a : Addr) (m c : Nat) (news : List Value) (hl : news.length = m * size)
    (hnews : ∀ j u, news[j]? = some u → w.cell? (a.add j) = some u) (h1 : ∀ u ∈ news, u.oneCell' = true)
    (h63 : n + m ≤ maxLen) (hbytes : (n + m) * bytes ≤ 140737488355328) (hbase : B ≤ w.heap.size)
    (hnl : NoLimb w v) (hnn : ∀ c ∈ news, ∀ z, c ≠ .int .u32 z) (hnz : ∀ c ∈ z.cells.toList, ∀ z, c ≠ .int .u32 z) :
    ∃ v' w', (Builtin.append_ #[t, t] ty #[v, .slice (some a) m c]).run P w = .ok v' w' ∧ w'.ownsRow B e size v' (n + m) (xs ++ news) ∧ w.grownBy w' v.ownBlock ∧
      (v'.ownBlock = v.ownBlock ∨ v'.ownBlock = some w.heap.size) ∧ NoLimb w' v' := by
  obtain ⟨v', w', h2, h3, h4, _⟩ := run_append_own (P := P) w B t ty e i z size bytes ht hi hz hsize hby hzs hsz v n xs hown a m c news hl hnews h1 h63 hbytes hbase
  refine ⟨v', w', h2, h3, h4, ?_⟩
  have fresh : ∀ (cs : Array Value) (k kc : Nat), (∀ c ∈ cs.toList, ∀ z, c ≠ .int .u32 z) → NoLimb (w.drew.alloc (.cells cs e)) (.slice (some ⟨w.heap.size, 0, none⟩) k kc) := by
    intro cs k kc h g' hg' cur' e' fz' hc' c hc
    simp only [Value.ownBlock, Option.some.injEq] at hg'
    subst hg'
    rw [show (w.drew.alloc (.cells cs e)).heap[w.heap.size]? = some (.cells cs e (0, 0)) from heap_alloc_new w.drew _] at hc'
    injection hc' with hc'
    injection hc' with hc' _
    subst hc'
    exact h c hc
  have hsmall : n + m ≤ 9223372036854775807 := by simp only [maxLen] at h63; omega
  rcases hown.2 with ⟨rfl, rfl⟩ | ⟨g, cap, cur, rfl, hbg, hg, hnc, hcm, hcs, htake⟩
  · have hx : xs = [] := List.eq_nil_of_length_eq_zero (by simpa using hown.1)
    subst hx
    by_cases hm : m = 0
    · subst hm
      refine (fun h => ⟨Or.inl (by rw [h]), by rw [h]; exact NoLimb.nil _⟩ : v' = .slice none 0 0 → _) ?_
      rcases h3.2 with ⟨rfl, _⟩ | ⟨g, cap, cur, rfl, _, _, h5, _⟩
      · rfl
      · exfalso
        have hn : news = [] := List.eq_nil_of_length_eq_zero (by simpa using hl)
        subst hn
        have hr : (Builtin.append_ #[t, t] ty #[.slice none 0 0, .slice (some a) 0 c]).run P w = .ok (.slice none 0 0) w := by
          simp [Builtin.append_, run_underlying ht, sizeOf, typeInfo, hi, Builtin.lenOf, Builtin.firstCells, loadCells, loadCellsFrom]
        rw [hr] at h2
        injection h2 with h2 _
        cases h2
    · have hr := run_append_nil (P := P) w t ty e i z ht hi hz a m c news (by rw [hl, hsize]) hnews (by omega) (by omega) (by rw [hby]; have hb := hbytes; simp only [Nat.zero_add] at hb; omega)
      rw [hr] at h2
      injection h2 with h2 h2w
      refine ⟨Or.inr (by rw [← h2]; rfl), ?_⟩
      rw [← h2, ← h2w]
      exact fresh _ _ _ (fun c hc => by
        simp only [Array.toList_append, List.mem_append] at hc
        rcases hc with h | h
        · exact hnn c h
        · exact hnz c (mem_zeroCells h))
  · by_cases hroom : n + m ≤ cap
    · have hfit : n * i.size + news.length ≤ cur.size := by rw [hl, hcs, hsize, ← Nat.add_mul]; exact Nat.mul_le_mul_right _ hroom
      have hr := run_append_room (P := P) w t ty e i ht hi g n cap cur hg a m c news (by rw [hl, hsize]) hnews h1 hroom hfit
      rw [hr] at h2
      injection h2 with h2 h2w
      refine ⟨Or.inl (by rw [← h2]; rfl), ?_⟩
      rw [← h2, ← h2w]
      intro g' hg' cur' e' fz' hc' c hc
      simp only [Value.ownBlock, Option.some.injEq] at hg'
      subst hg'
      rw [setRow_heap w g cur _ e _ hg] at hc'
      injection hc' with hc'
      injection hc' with hc' _
      subst hc'
      have hcc := hnl g rfl cur e _ hg
      simp only [List.mem_append] at hc
      rcases hc with (h | h) | h
      · exact hcc c (List.mem_of_mem_take h)
      · exact hnn c h
      · exact hcc c (List.mem_of_mem_drop h)
    · have holds : ∀ j u, xs[j]? = some u → w.cell? ((⟨g, 0, none⟩ : Addr).add j) = some u := hown.cells (g := g) rfl
      have hr := run_append_grow (P := P) w t ty e i z ht hi hz ⟨g, 0, none⟩ n cap xs (by rw [hown.1, hsize]) holds a m c news (by rw [hl, hsize]) hnews (by omega) (by omega) (growslice_fits (by omega) (by rw [hby]; exact hbytes))
      rw [hr] at h2
      injection h2 with h2 h2w
      refine ⟨Or.inr (by rw [← h2]; rfl), ?_⟩
      rw [← h2, ← h2w]
      have hcc := hnl g rfl cur e _ hg
      rw [← htake]
      exact fresh _ _ _ (fun c hc => by
        simp only [Array.toList_append, List.mem_append] at hc
        rcases hc with (h | h) | h
        · exact hcc c (List.mem_of_mem_take h)
        · exact hnn c h
        · exact hnz c (mem_zeroCells h))
/-- v is a slice of n elements of type e, of size cells each, that the call made; its cells are xs; no limb lies in its block. -/
structure OwnR (w : World) (e : TypeId) (B size : Nat) (v : Value) (n : Nat) (xs : List Value) : Prop where
  own : w.ownsRow B e size v n xs
  nl : NoLimb w v
section
variable {w : World} {e : TypeId} {B size n : Nat} {v : Value} {xs : List Value}
theorem OwnR.nil (w : World) (e : TypeId) (B size : Nat) : OwnR w e B size (.slice none 0 0) 0 [] := ⟨World.ownsRow_nil w B e size, NoLimb.nil _⟩
theorem OwnR.sl (h : OwnR w e B size v n xs) : IsSl v := by
  rcases h.own.2 with ⟨rfl, h0⟩ | ⟨g, cap, cur, rfl, hb, hg, hn, hm, hs, ht⟩
  · exact IsSl.nil
  · exact ⟨_, _, _, rfl, hn, hm, fun e => by cases e⟩
theorem OwnR.len (h : OwnR w e B size v n xs) : slen v = n := by
  rcases h.own.2 with ⟨rfl, h0⟩ | ⟨g, cap, cur, rfl, hb, hg, hn, hm, hs, ht⟩
  · rw [h0]; rfl
  · rfl
theorem OwnR.clen (h : OwnR w e B size v n xs) : xs.length = n * size := h.own.1
theorem OwnR.cell (h : OwnR w e B size v n xs) (j : Nat) (hj : j < xs.length) : w.cell? (ptr v j) = some xs[j] := by
  have hl := h.own.1
  obtain ⟨ho, _⟩ := h
  rcases ho.2 with ⟨rfl, h0⟩ | ⟨g, cap, cur, rfl, hb, hg, hn, hm, hs, ht⟩
  · rw [h0] at hl; omega
  · have := World.ownsRow.cellAt ho j (by omega)
    simp only [ptr, base, Addr.add_lit, Nat.zero_add]
    rw [this, List.getElem?_eq_getElem hj]
/-- Another block grew. -/
theorem OwnR.grown {w' : World} {row : Option Nat} (h : OwnR w e B size v n xs) (hg : w.grownBy w' row) (hne : v.ownBlock = none ∨ v.ownBlock ≠ row) : OwnR w' e B size v n xs := by
  refine ⟨World.ownsRow.kept h.own hg hne, fun g hgv cur e' fz hc c hcc => ?_⟩
  have hlt := (World.ownsRow.lt h.own g hgv).2
  rw [hg.block g hlt (by rw [← hgv]; rcases hne with h1 | h1; · rw [h1] at hgv; cases hgv
                         · exact h1)] at hc
  exact h.nl g hgv cur e' fz hc c hcc
theorem OwnR.below {w' : World} (h : OwnR w e B size v n xs) (hb : Below w.heap.size w w') : OwnR w' e B size v n xs :=
  h.grown (grown_of_below hb) (by cases hv : v.ownBlock <;> simp)
theorem OwnR.block (h : OwnR w e B size v n xs) : ∀ k, v.ownBlock = some k → B ≤ k ∧ k < w.heap.size := World.ownsRow.lt h.own
theorem NatV.grownR {w' : World} {row : Option Nat} {x : Value} {l : List Nat} (h : NatV w x l) (hg : w.grownBy w' row) (hn : ∀ v, v.ownBlock = row → NoLimb w v) : NatV w' x l := by
  refine ⟨h.sl, h.len, fun j hj => ?_, h.lm⟩
  have hc := h.cell j hj
  refine hg.cell hc (fun e => ?_)
  have h2 := hn (.slice (some ⟨(ptr x j).block, 0, none⟩) 0 0) (by rw [← e]; rfl) (ptr x j).block rfl
  unfold World.cell? at hc
  split at hc
  · rename_i cur e' fz hh
    split at hc
    · cases hc
    · exact h2 cur e' fz hh _ (by have := Array.mem_of_getElem? hc; simpa using this) _ rfl
  · cases hc
theorem NoLimb.any {v u : Value} (h : NoLimb w v) (he : u.ownBlock = v.ownBlock) : NoLimb w u := fun g hg => h g (by rw [← he]; exact hg)
theorem NatC.grown {w' : World} {x : Value} {m : Nat} (h : NatC w x m) (hg : w.grownBy w' v.ownBlock) (hn : NoLimb w v) : NatC w' x m := ⟨h.1.grownR hg (fun u hu => hn.any hu), h.2⟩
theorem FracC.grown {w' : World} {x : Value} {q : Rat} (h : FracC w x q) (hg : w.grownBy w' v.ownBlock) (hn : NoLimb w v) : FracC w' x q := by
  obtain ⟨a, b, rfl, h1, h2⟩ := h; exact ⟨a, b, rfl, h1.grown hg hn, h2.grown hg hn⟩
end
theorem wpList_append1_R {P : Program} (w0 : World) {ops : Array Oper} {rest : List Oper} {o : Oper} {a : Act} {Q : Exit → Act → World → Prop} (hgd : o.guard = none) (s x : Operand) (t : TypeId)
    (ho : o.op = .call { callee := .builtin .append, args := #[s, x], argTypes := #[t, t] })
    (B : Nat) (e e' : TypeId) (i : TypeInfo) (z : Value) (size bytes : Nat) (ht : P.underlying t = some (.slice e)) (hi : P.info? e = some i) (hz : i.zero = some z)
    (hsize : i.size = size) (hby : i.bytes = bytes) (hzs : z.cells.size = size) (hsz : 0 < size) (hnz : ∀ c ∈ z.cells.toList, ∀ z, c ≠ .int .u32 z)
    (v : Value) (n : Nat) (xs : List Value) (hs : a.eval s = v) (hown : OwnR w0 e B size v n xs) (news : Array Value) (hns : news.size = size) (hxe : a.eval x = .slice (some ⟨w0.heap.size, 0, none⟩) 1 1)
    (h1 : ∀ u ∈ news.toList, u.oneCell' = true) (hnn : ∀ c ∈ news.toList, ∀ z, c ≠ .int .u32 z)
    (h63 : n + 1 ≤ maxLen) (hbytes : (n + 1) * bytes ≤ 140737488355328) (hbase : B ≤ w0.heap.size)
    (h : ∀ v' w', OwnR w' e B size v' (n + 1) (xs ++ news.toList) → w0.grownBy w' v.ownBlock → (v'.ownBlock = v.ownBlock ∨ v'.ownBlock = some (w0.heap.size + 1)) → wpList P ops Q rest (a.put o.dst v') w') :
    wpList P ops Q (o :: rest) a (w0.alloc (.cells news e')) := by
  refine wpList_plain hgd fun K hK => ?_
  have hg0 := World.grownBy_alloc w0 (.cells news e') (v.ownBlock)
  have hown1 := hown.below (below_alloc w0 (.cells news e'))
  obtain ⟨v', w', hr, h2, h3, h4, h5⟩ := run_append_R (P := P) (w0.alloc (.cells news e')) B t o.type e i z size bytes ht hi hz hsize hby hzs hsz v n xs hown1.own ⟨w0.heap.size, 0, none⟩ 1 1 news.toList (by simp [hns])
    (fun j u hu => by
      have hc := cell_of_row (w0.alloc (.cells news e')) w0.heap.size j news e' (0, 0) (heap_alloc_new w0 _)
      rw [Addr.add_lit, Nat.zero_add, hc]; simpa using hu) h1 h63 hbytes (by simp; omega) hown1.nl hnn hnz
  unfold Oper.wp execOp
  simp only [ho, resolve, invoke, builtin, Sem.run_bind, Sem.run_pure, Result.andThen_ok, List.map_toArray, List.map_cons, List.map_nil, hs, hxe, hr]
  exact hK _ _ (h v' w' ⟨h2, h5⟩ (grownBy_trans hg0 h3) (by simpa using h4))
end Go.Proofs.YtbhkibilnmoljaaGreat
namespace Go.Proofs.YtbhkibilnmoljaaGreat
set_option linter.unusedVariables false
set_option linter.unusedSimpArgs false
open Go.RowKit

/-- Blocks from B on are kept, and so are limbs. -/
structure Moves (B : Nat) (w w' : World) : Prop where
  size : w.heap.size ≤ w'.heap.size
  row : ∀ g, B ≤ g → g < w.heap.size → w'.heap[g]? = w.heap[g]?
  limb : ∀ p z, w.cell? p = some (.int .u32 z) → w'.cell? p = some (.int .u32 z)
theorem Moves.refl (B : Nat) (w : World) : Moves B w w := ⟨Nat.le_refl _, fun _ _ _ => rfl, fun _ _ h => h⟩
theorem Moves.trans {B : Nat} {a b c : World} (h : Moves B a b) (k : Moves B b c) : Moves B a c :=
  ⟨Nat.le_trans h.size k.size, fun g h1 h2 => (k.row g h1 (Nat.lt_of_lt_of_le h2 h.size)).trans (h.row g h1 h2), fun p z hp => k.limb p z (h.limb p z hp)⟩
theorem Moves.below {B : Nat} {w w' : World} (h : Below w.heap.size w w') : Moves B w w' := ⟨h.size, fun g _ h2 => h.block g h2, fun p z hp => cell_below h hp⟩
theorem Moves.set {B : Nat} {w : World} {p : Addr} {x : Value} (hp : p.block < B) (hc : w.cell? p = some x) (hx : ∀ z, x ≠ .int .u32 z) (u : Value) : Moves B w (w.setCell p u) := by
  refine ⟨by simp [World.setCell], fun g h1 h2 => Below.heap_setCell _ _ _ _ (by omega), fun q z hq => ?_⟩
  rw [World.cell?_setCell_other]
  · exact hq
  · intro e
    rw [← e, hc] at hq
    injection hq with hq
    exact hx _ hq
theorem NatV.moves {B : Nat} {w w' : World} {v : Value} {l : List Nat} (h : NatV w v l) (hm : Moves B w w') : NatV w' v l := ⟨h.sl, h.len, fun j hj => hm.limb _ _ (h.cell j hj), h.lm⟩
theorem NatC.moves {B : Nat} {w w' : World} {v : Value} {n : Nat} (h : NatC w v n) (hm : Moves B w w') : NatC w' v n := ⟨h.v.moves hm, h.2⟩
theorem FracC.moves {B : Nat} {w w' : World} {v : Value} {q : Rat} (h : FracC w v q) (hm : Moves B w w') : FracC w' v q := by
  obtain ⟨a, b, rfl, h1, h2⟩ := h; exact ⟨a, b, rfl, h1.moves hm, h2.moves hm⟩
theorem OwnR.moves {B B' : Nat} {w w' : World} {e : TypeId} {size n : Nat} {v : Value} {xs : List Value} (h : OwnR w e B' size v n xs) (hm : Moves B w w') (hB : B ≤ B') : OwnR w' e B' size v n xs := by
  have hlt := h.block
  refine ⟨⟨h.own.1, ?_⟩, fun g hg cur e' fz hc => ?_⟩
  · rcases h.own.2 with ⟨rfl, h0⟩ | ⟨g, cap, cur, rfl, hb, hg, rest⟩
    · exact .inl ⟨rfl, h0⟩
    · refine .inr ⟨g, cap, cur, rfl, hb, ?_, rest⟩
      rw [hm.row g (Nat.le_trans hB hb) (hlt g rfl).2]; exact hg
  · obtain ⟨h1, h2⟩ := hlt g hg
    rw [hm.row g (Nat.le_trans hB h1) h2] at hc
    exact h.nl g hg cur e' fz hc
/-- Rows of two types lie in two blocks. -/
theorem OwnR.kinds {w : World} {e e' : TypeId} {B B' size size' n n' : Nat} {v v' : Value} {xs xs' : List Value} (h : OwnR w e B size v n xs) (h' : OwnR w e' B' size' v' n' xs') (hne : e ≠ e') : v.ownBlock = none ∨ v.ownBlock ≠ v'.ownBlock := by
  cases hv : v.ownBlock with
  | none => exact Or.inl rfl
  | some g =>
    refine Or.inr (fun he => ?_)
    obtain ⟨c, fz, h1⟩ := Lib.ownsRow_kind h.own g hv
    obtain ⟨c', fz', h2⟩ := Lib.ownsRow_kind h'.own g he.symm
    rw [h1] at h2
    injection h2 with h2
    injection h2 with _ h2
    exact hne h2
/-- The cells xs are those of the fractions q, in canonical form. -/
def CellsQ (w : World) (xs : List Value) (q : List Rat) : Prop :=
  ∀ (j : Nat) (h : j < q.length), ∃ a b, xs[j * 3]? = some (.bool (decide (q[j] < 0))) ∧ xs[j * 3 + 1]? = some a ∧ xs[j * 3 + 2]? = some b ∧ NatC w a q[j].num.natAbs ∧ NatC w b q[j].den
/-- v is a row of fractions that the call made. -/
def FrRow (w : World) (e : TypeId) (B : Nat) (v : Value) (q : List Rat) : Prop := ∃ xs, OwnR w e B 3 v q.length xs ∧ CellsQ w xs q
section
variable {w : World} {e : TypeId} {B : Nat} {v : Value} {q : List Rat}
theorem FrRow.nil (w : World) (e : TypeId) (B : Nat) : FrRow w e B (.slice none 0 0) [] := ⟨[], OwnR.nil _ _ _ _, fun j h => by simp at h⟩
theorem FrRow.fracs (h : FrRow w e B v q) : FracsC w v q := by
  obtain ⟨xs, h1, h2⟩ := h
  refine ⟨h1.sl, h1.len, fun j hj => ?_⟩
  obtain ⟨a, b, e1, e2, e3, e4, e5⟩ := h2 j hj
  have hc : ∀ i u, xs[i]? = some u → w.cell? (ptr v i) = some u := fun i u hi => by
    obtain ⟨h6, h7⟩ := List.getElem?_eq_some_iff.1 hi
    rw [h1.cell i h6, h7]
  exact ⟨a, b, hc _ _ e1, hc _ _ e2, hc _ _ e3, e4, e5⟩
theorem FrRow.sl (h : FrRow w e B v q) : IsSl v := h.fracs.sl
theorem FrRow.block (h : FrRow w e B v q) : ∀ k, v.ownBlock = some k → B ≤ k ∧ k < w.heap.size := by obtain ⟨xs, h1, _⟩ := h; exact h1.block
theorem FrRow.moves {B' : Nat} {w' : World} (h : FrRow w e B v q) (hm : Moves B' w w') (hB : B' ≤ B) : FrRow w' e B v q := by
  obtain ⟨xs, h1, h2⟩ := h
  refine ⟨xs, h1.moves hm hB, fun j hj => ?_⟩
  obtain ⟨a, b, e1, e2, e3, e4, e5⟩ := h2 j hj
  exact ⟨a, b, e1, e2, e3, e4.moves hm, e5.moves hm⟩
theorem CellsQ.grown {w' : World} {u : Value} {xs : List Value} (h2 : CellsQ w xs q) (hg : w.grownBy w' u.ownBlock) (hn : NoLimb w u) : CellsQ w' xs q := fun j hj => by
  obtain ⟨a, b, e1, e2, e3, e4, e5⟩ := h2 j hj
  exact ⟨a, b, e1, e2, e3, e4.grown hg hn, e5.grown hg hn⟩
theorem FrRow.grown {w' : World} {u : Value} (h : FrRow w e B v q) (hg : w.grownBy w' u.ownBlock) (hn : NoLimb w u) (hne : v.ownBlock = none ∨ v.ownBlock ≠ u.ownBlock) : FrRow w' e B v q := by
  obtain ⟨xs, h1, h2⟩ := h
  exact ⟨xs, h1.grown hg hne, h2.grown hg hn⟩
theorem FrRow.mono {B' : Nat} (h : FrRow w e B v q) (hB : B' ≤ B) : FrRow w e B' v q := by
  obtain ⟨xs, h1, h2⟩ := h
  refine ⟨xs, ⟨⟨h1.own.1, ?_⟩, h1.nl⟩, h2⟩
  rcases h1.own.2 with h | ⟨g, cap, cur, rfl, hb, rest⟩
  · exact .inl h
  · exact .inr ⟨g, cap, cur, rfl, by omega, rest⟩
theorem CellsQ.snoc {xs : List Value} (h2 : CellsQ w xs q) (hl : xs.length = q.length * 3) {x y z : Value} {r : Rat} (hf : FracC w (.agg #[x, y, z]) r) : CellsQ w (xs ++ [x, y, z]) (q ++ [r]) := by
  intro j hj
  obtain ⟨a, b, ha, h4, h5⟩ := hf
  injection ha with ha
  injection ha with ha
  simp only [List.cons.injEq, and_true] at ha
  obtain ⟨rfl, rfl, rfl⟩ := ha
  rcases Nat.lt_or_ge j q.length with h | h
  · obtain ⟨a, b, e1, e2, e3, e4, e5⟩ := h2 j h
    rw [List.getElem_append_left h]
    exact ⟨a, b, by rw [List.getElem?_append_left (by omega)]; exact e1, by rw [List.getElem?_append_left (by omega)]; exact e2, by rw [List.getElem?_append_left (by omega)]; exact e3, e4, e5⟩
  · obtain rfl : j = q.length := by simp at hj; omega
    have e0 : (q ++ [r])[q.length]'hj = r := by simp
    rw [e0, ← hl]
    refine ⟨y, z, ?_, ?_, ?_, h4, h5⟩
    · rw [List.getElem?_append_right (Nat.le_refl _)]; simp
    · rw [List.getElem?_append_right (by omega)]; simp
    · rw [List.getElem?_append_right (by omega)]; simp
end
/-- append(s, x), s an own row of fractions, for a walk. -/
theorem append1_fr {P : Program} (t e : TypeId) (i : TypeInfo) (ht : P.underlying t = some (.slice e)) (hi : P.info? e = some i) (hz : i.zero = some (.agg #[.bool false, .slice none 0 0, .slice none 0 0])) (hsize : i.size = 3) (hby : i.bytes = 56)
    (w0 : World) {ops : Array Oper} {rest : List Oper} {o : Oper} {a : Act} {Q : Exit → Act → World → Prop} (hgd : o.guard = none) (s x : Operand)
    (ho : o.op = .call { callee := .builtin .append, args := #[s, x], argTypes := #[t, t] }) (B : Nat) (e' : TypeId)
    (v : Value) (q : List Rat) (hs : a.eval s = v) (hown : FrRow w0 e B v q) (c0 c1 c2 : Value) (r : Rat) (hf : FracC w0 (.agg #[c0, c1, c2]) r) (hxe : a.eval x = .slice (some ⟨w0.heap.size, 0, none⟩) 1 1) (hn : q.length ≤ 1000) (hbase : B ≤ w0.heap.size)
    (h : ∀ v' w', FrRow w' e B v' (q ++ [r]) → w0.grownBy w' v.ownBlock → NoLimb w0 v → (v'.ownBlock = v.ownBlock ∨ v'.ownBlock = some (w0.heap.size + 1)) → IsSl v' → wpList P ops Q rest (a.put o.dst v') w') :
    wpList P ops Q (o :: rest) a (w0.alloc (.cells #[c0, c1, c2] e')) := by
  obtain ⟨xs, h1, h2⟩ := hown
  have hl : xs.length = q.length * 3 := h1.clen
  have hf2 := hf
  obtain ⟨a1, b1, ha, h4, h5⟩ := hf2
  injection ha with ha
  injection ha with ha
  simp only [List.cons.injEq, and_true] at ha
  obtain ⟨rfl, rfl, rfl⟩ := ha
  obtain ⟨p1, p2, p3, rfl, _⟩ := h4.v.sl
  obtain ⟨s1, s2, s3, rfl, _⟩ := h5.v.sl
  refine wpList_append1_R w0 hgd s x t ho B e e' i _ 3 56 ht hi hz hsize hby rfl (by decide) (fun c hc z => by
      have hc2 : c ∈ [Value.bool false, .slice none 0 0, .slice none 0 0] := hc
      simp at hc2; rcases hc2 with rfl | rfl <;> simp) v q.length xs hs h1 #[.bool (decide (r < 0)), .slice p1 p2 p3, .slice s1 s2 s3] rfl hxe
    (fun u hu => by simp at hu; rcases hu with rfl | rfl | rfl <;> rfl) (fun u hu z => by simp at hu; rcases hu with rfl | rfl | rfl <;> simp) (by simp [maxLen]; omega) (by omega) hbase ?_
  intro v' w' k1 k2 k3
  refine h v' w' ⟨_, ?_, (CellsQ.snoc (r := r) h2 hl hf).grown k2 h1.nl⟩ k2 h1.nl k3 k1.sl
  rw [List.length_append]
  exact k1
/-- append(s, x), s an own row of one-cell values that are no limbs. -/
theorem append1_one {P : Program} (t e : TypeId) (i : TypeInfo) (z : Value) (bytes : Nat) (ht : P.underlying t = some (.slice e)) (hi : P.info? e = some i) (hz : i.zero = some z) (hsize : i.size = 1) (hby : i.bytes = bytes) (hby2 : bytes ≤ 64) (hzc : z.cells = #[z]) (hzn : ∀ k, z ≠ .int .u32 k)
    (w0 : World) {ops : Array Oper} {rest : List Oper} {o : Oper} {a : Act} {Q : Exit → Act → World → Prop} (hgd : o.guard = none) (s x : Operand)
    (ho : o.op = .call { callee := .builtin .append, args := #[s, x], argTypes := #[t, t] }) (B : Nat) (e' : TypeId)
    (v : Value) (xs : List Value) (hs : a.eval s = v) (hown : OwnR w0 e B 1 v xs.length xs) (c : Value) (hc1 : c.oneCell' = true) (hcn : ∀ k, c ≠ .int .u32 k) (hxe : a.eval x = .slice (some ⟨w0.heap.size, 0, none⟩) 1 1) (hn : xs.length ≤ 1000) (hbase : B ≤ w0.heap.size)
    (h : ∀ v' w', OwnR w' e B 1 v' (xs ++ [c]).length (xs ++ [c]) → w0.grownBy w' v.ownBlock → NoLimb w0 v → (v'.ownBlock = v.ownBlock ∨ v'.ownBlock = some (w0.heap.size + 1)) → IsSl v' → wpList P ops Q rest (a.put o.dst v') w') :
    wpList P ops Q (o :: rest) a (w0.alloc (.cells #[c] e')) := by
  refine wpList_append1_R w0 hgd s x t ho B e e' i _ 1 bytes ht hi hz hsize hby (by rw [hzc]; rfl) (by decide) (fun d hd => by rw [hzc] at hd; simp at hd; subst hd; exact hzn) v xs.length xs hs hown #[c] rfl hxe
    (fun u hu => by simp at hu; subst hu; exact hc1) (fun u hu z => by simp at hu; subst hu; exact hcn z) (by simp [maxLen]; omega) (by have : (xs.length + 1) * bytes ≤ 1001 * 64 := Nat.mul_le_mul (by omega) hby2; omega) hbase ?_
  intro v' w' k1 k2 k3
  refine h v' w' ?_ k2 hown.nl k3 k1.sl
  rw [List.length_append]
  exact k1
/-- A made row of fractions, as a row that may grow. -/
theorem OwnFr.frRow {w : World} {e : TypeId} {B n : Nat} {v : Value} {q : List Rat} (h : OwnFr w e B v n) (hl : q.length = n) (he : ∀ j (hj : j < q.length), ElemC w v j q[j]) : FrRow w e B v q := by
  obtain ⟨g, cs, rfl, h1, h2⟩ := id h
  have hcl : cs.length = n * 3 := h1.1
  refine ⟨cs, ⟨by rw [hl]; exact h1, ?_⟩, fun j hj => ?_⟩
  · intro g' hg' cur e' fz hc c hcc z
    rcases h1.2 with ⟨h', _⟩ | ⟨g2, cap, cur2, h', hb, hg, _, _, hs, ht⟩
    · cases h'
    · injection h' with h4 h5 h6
      injection h4 with h4
      injection h4 with h4
      subst h4
      simp only [Value.ownBlock, Option.some.injEq] at hg'
      subst hg'
      rw [hc] at hg
      injection hg with hg
      injection hg with hg _ _
      subst hg
      have e9 : cur.toList = cs := by
        rw [← ht]
        exact (List.take_of_length_le (by rw [Array.length_toList, hs, ← h6]; exact Nat.le_refl _)).symm
      exact h2 c (by rw [← e9]; exact hcc) z
  · obtain ⟨a, b, e1, e2, e3, e4, e5⟩ := he j hj
    have hc : ∀ i u, i < cs.length → w.cell? (Go.Proofs.YtbhkibilnmoljaaGreat.ptr (.slice (some ⟨g, 0, none⟩) n n) i) = some u → cs[i]? = some u := fun i u hi hu => by
      have := World.ownsRow.cellAt h1 i (by omega)
      simp only [Go.Proofs.YtbhkibilnmoljaaGreat.ptr, base, Addr.add_lit, Nat.zero_add] at hu
      rw [hu] at this
      exact this.symm
    exact ⟨a, b, hc _ _ (by omega) e1, hc _ _ (by omega) e2, hc _ _ (by omega) e3, e4, e5⟩
end Go.Proofs.YtbhkibilnmoljaaGreat
namespace Go.Proofs.YtbhkibilnmoljaaGreat
set_option linter.unusedVariables false
set_option linter.unusedSimpArgs false
open Go.RowKit

section
variable {w : World} {e : TypeId} {B size n : Nat} {v : Value} {xs : List Value}
theorem OwnR.set1 (h : OwnR w e B size v n xs) (j : Nat) (hj : j < xs.length) (u : Value) (hu : ∀ z, u ≠ .int .u32 z) :
    OwnR (w.setCell (ptr v j) u) e B size v n (xs.set j u) ∧ w.grownBy (w.setCell (ptr v j) u) v.ownBlock := by
  have hl := h.own.1
  rcases h.own.2 with ⟨rfl, h0⟩ | ⟨g, cap, cur, rfl, hb, hg, hn, hm, hs, ht⟩
  · rw [h0] at hl; omega
  · have hp : ptr (.slice (some ⟨g, 0, none⟩) n cap) j = ⟨g, j, none⟩ := by simp only [ptr, base, Addr.add_lit, Nat.zero_add]
    have hst := World.ownsRow.stored h.own j u
    rw [hp]
    refine ⟨⟨hst.1, ?_⟩, hst.2⟩
    intro g' hg' cur' e' fz hc c hcc
    simp only [Value.ownBlock, Option.some.injEq] at hg'
    subst hg'
    rw [heap_setCell_same w g j cur e u hg] at hc
    injection hc with hc
    injection hc with hc _ _
    subst hc
    rw [Array.toList_setIfInBounds] at hcc
    rcases List.mem_or_eq_of_mem_set hcc with h' | h'
    · exact h.nl g rfl cur e _ hg c h'
    · subst h'; exact hu
theorem OwnR.frozen (h : OwnR w e B size v n xs) (j : Nat) (hj : j < xs.length) : w.frozen? (ptr v j) = false := by
  have hl := h.own.1
  obtain ⟨ho, _⟩ := h
  rcases ho.2 with ⟨rfl, h0⟩ | ⟨g, cap, cur, rfl, hb, hg, hn, hm, hs, ht⟩
  · rw [h0] at hl; omega
  · have := World.ownsRow.frozenAt ho j
    simpa only [ptr, base, Addr.add_lit, Nat.zero_add] using this
theorem OwnR.blk (h : OwnR w e B size v n xs) (hx : 0 < xs.length) : ∃ g, v.ownBlock = some g ∧ (base v).block = g ∧ B ≤ g ∧ g < w.heap.size ∧ ∀ j, ptr v j = ⟨g, j, none⟩ := by
  have hl := h.own.1
  have hbl := h.block
  rcases h.own.2 with ⟨rfl, h0⟩ | ⟨g, cap, cur, rfl, hb, hg, hn, hm, hs, ht⟩
  · rw [h0] at hl; omega
  · exact ⟨g, rfl, rfl, (hbl g rfl).1, (hbl g rfl).2, fun j => by simp only [ptr, base, Addr.add_lit, Nat.zero_add]⟩
end
theorem grown_trans {a b c : World} {r : Option Nat} (h : a.grownBy b r) (k : b.grownBy c r) : a.grownBy c r := grownBy_trans h k
section
variable {w : World} {e : TypeId} {B : Nat} {v : Value} {q : List Rat}
theorem FrRow.frozen (h : FrRow w e B v q) (k : Nat) (hk : k < q.length * 3) : w.frozen? (ptr v k) = false := by
  obtain ⟨xs, h1, _⟩ := h
  exact h1.frozen k (by rw [h1.clen]; exact hk)
theorem FrRow.blk (h : FrRow w e B v q) (hq : 0 < q.length) : ∃ g, v.ownBlock = some g ∧ (base v).block = g ∧ B ≤ g ∧ g < w.heap.size ∧ ∀ j, ptr v j = ⟨g, j, none⟩ := by
  obtain ⟨xs, h1, _⟩ := h
  exact h1.blk (by rw [h1.clen]; omega)
theorem FrRow.inj (h : FrRow w e B v q) (hq : 0 < q.length) {i j : Nat} (hij : i ≠ j) : ptr v i ≠ ptr v j := by
  obtain ⟨g, _, _, _, _, hp⟩ := h.blk hq
  rw [hp, hp]
  intro h; injection h with h1 h2; exact hij h2
theorem FrRow.noLimb (h : FrRow w e B v q) : NoLimb w v := by obtain ⟨xs, h1, _⟩ := h; exact h1.nl
/-- A fraction is stored into an own row. -/
theorem FrRow.put (h : FrRow w e B v q) {i : Nat} (hi : i < q.length) {x y z : Value} {r : Rat} (hf : FracC w (.agg #[x, y, z]) r) :
    FrRow (((w.setCell (ptr v (i * 3)) x).setCell (ptr v (i * 3 + 1)) y).setCell (ptr v (i * 3 + 2)) z) e B v (q.set i r) ∧
      w.grownBy (((w.setCell (ptr v (i * 3)) x).setCell (ptr v (i * 3 + 1)) y).setCell (ptr v (i * 3 + 2)) z) v.ownBlock := by
  obtain ⟨xs, h1, h2⟩ := h
  obtain ⟨a, b, ha, h4, h5⟩ := id hf
  injection ha with ha
  injection ha with ha
  simp only [List.cons.injEq, and_true] at ha
  obtain ⟨rfl, rfl, rfl⟩ := ha
  have hl := h1.clen
  have ny : ∀ k, y ≠ .int .u32 k := fun k => by obtain ⟨a1, n1, c1, e1, _⟩ := h4.v.sl; subst e1; simp
  have nz : ∀ k, z ≠ .int .u32 k := fun k => by obtain ⟨a1, n1, c1, e1, _⟩ := h5.v.sl; subst e1; simp
  obtain ⟨s1, g1⟩ := h1.set1 (i * 3) (by omega) (.bool (decide (r < 0))) (fun k => by simp)
  obtain ⟨s2, g2⟩ := s1.set1 (i * 3 + 1) (by rw [List.length_set]; omega) y ny
  obtain ⟨s3, g3⟩ := s2.set1 (i * 3 + 2) (by rw [List.length_set, List.length_set]; omega) z nz
  have gg := grown_trans (grown_trans g1 g2) g3
  refine ⟨⟨_, by rw [List.length_set]; exact s3, fun j hj => ?_⟩, gg⟩
  rw [List.length_set] at hj
  by_cases hij : i = j
  · subst hij
    refine ⟨y, z, ?_, ?_, ?_, ?_, ?_⟩
    · rw [List.getElem?_set_ne (by omega), List.getElem?_set_ne (by omega), List.getElem?_set_self (by omega), List.getElem_set_self]
    · rw [List.getElem?_set_ne (by omega), List.getElem?_set_self (by rw [List.length_set]; omega)]
    · rw [List.getElem?_set_self (by rw [List.length_set, List.length_set]; omega)]
    · rw [List.getElem_set_self]; exact h4.grown gg h1.nl
    · rw [List.getElem_set_self]; exact h5.grown gg h1.nl
  · obtain ⟨a, b, e1, e2, e3, e4, e5⟩ := h2 j hj
    rw [List.getElem_set_ne hij]
    refine ⟨a, b, ?_, ?_, ?_, e4.grown gg h1.nl, e5.grown gg h1.nl⟩
    · rw [List.getElem?_set_ne (by omega), List.getElem?_set_ne (by omega), List.getElem?_set_ne (by omega)]; exact e1
    · rw [List.getElem?_set_ne (by omega), List.getElem?_set_ne (by omega), List.getElem?_set_ne (by omega)]; exact e2
    · rw [List.getElem?_set_ne (by omega), List.getElem?_set_ne (by omega), List.getElem?_set_ne (by omega)]; exact e3
end
/-- The block T is a variable with these cells. -/
def VarB (w : World) (T : Nat) (cs : Array Value) : Prop := ∃ ty, w.heap[T]? = some (.cells cs ty (0, 0))
section
variable {w w' : World} {T : Nat} {cs : Array Value}
theorem VarB.new (w : World) (cs : Array Value) (ty : TypeId) : VarB (w.alloc (.cells cs ty)) w.heap.size cs := ⟨ty, heap_alloc_new w _⟩
theorem VarB.lt (h : VarB w T cs) : T < w.heap.size := by obtain ⟨ty, h⟩ := h; exact (Array.getElem?_eq_some_iff.1 h).1
theorem VarB.cell (h : VarB w T cs) (j : Nat) {u : Value} (hu : cs[j]? = some u) : w.cell? ⟨T, j, none⟩ = some u := by
  obtain ⟨ty, h⟩ := h
  simp [World.cell?, h, hu]
theorem VarB.frozen (h : VarB w T cs) (j : Nat) : w.frozen? ⟨T, j, none⟩ = false := by
  obtain ⟨ty, h⟩ := h
  simp [World.frozen?, h]
theorem VarB.set (h : VarB w T cs) (j : Nat) (u : Value) : VarB (w.setCell ⟨T, j, none⟩ u) T (cs.setIfInBounds j u) := by
  obtain ⟨ty, h⟩ := h
  exact ⟨ty, heap_setCell_same w T j cs ty u h⟩
theorem VarB.other (h : VarB w T cs) (p : Addr) (hp : p.block ≠ T) (u : Value) : VarB (w.setCell p u) T cs := by
  obtain ⟨ty, h⟩ := h
  exact ⟨ty, by rw [Below.heap_setCell _ _ _ _ (fun e => hp e.symm)]; exact h⟩
theorem VarB.below (h : VarB w T cs) (hb : Below w.heap.size w w') : VarB w' T cs := by
  have hlt := h.lt
  obtain ⟨ty, h⟩ := h
  exact ⟨ty, by rw [hb.block T hlt]; exact h⟩
theorem VarB.belowB {B : Nat} (h : VarB w T cs) (hb : Below B w w') (hT : T < B) : VarB w' T cs := by
  obtain ⟨ty, h⟩ := h
  exact ⟨ty, by rw [hb.block T hT]; exact h⟩
theorem VarB.grown {r : Option Nat} (h : VarB w T cs) (hg : w.grownBy w' r) (hr : r ≠ some T) : VarB w' T cs := by
  have hlt := h.lt
  obtain ⟨ty, h⟩ := h
  exact ⟨ty, by rw [hg.block T hlt hr.symm]; exact h⟩
end
/-- A row of m elements, by index. -/
def rowL (m : Nat) (f : Nat → Rat) : List Rat := (List.range m).map f
theorem rowL_length (m : Nat) (f : Nat → Rat) : (rowL m f).length = m := by simp [rowL]
theorem rowL_get (m : Nat) (f : Nat → Rat) (j : Nat) (h : j < (rowL m f).length) : (rowL m f)[j] = f j := by simp [rowL]
theorem rowL_congr {m : Nat} {f g : Nat → Rat} (h : ∀ j, j < m → f j = g j) : rowL m f = rowL m g :=
  List.map_congr_left fun j hj => h j (List.mem_range.1 hj)
theorem rowL_of (q : List Rat) : rowL q.length (fun j => q.getD j 0) = q := by
  refine List.ext_getElem (by rw [rowL_length]) fun j h1 h2 => ?_
  rw [rowL_get, List.getD_eq_getElem?_getD, List.getElem?_eq_getElem h2]; rfl
theorem rowL_set (m : Nat) (f : Nat → Rat) (i : Nat) (r : Rat) : (rowL m f).set i r = rowL m (fun j => if j = i then r else f j) := by
  refine List.ext_getElem (by rw [List.length_set, rowL_length, rowL_length]) fun j h1 h2 => ?_
  rw [rowL_get]
  by_cases h : j = i
  · subst h; rw [List.getElem_set_self, if_pos rfl]
  · rw [List.getElem_set_ne (fun e => h e.symm), if_neg h, rowL_get]
/-- One element is changed. -/
def upd (A : Mx) (i j : Nat) (r : Rat) : Mx := fun a b => if a = i ∧ b = j then r else A a b
/-- The table: its variable T, the slice of its rows, its rows, its numbers. -/
structure TabW (w : World) (T : Nat) (vR : Value) (rs : List Value) (n m : Nat) (A : Mx) (wd rk : Nat) (d : Rat) : Prop where
  box : ∃ a b, VarB w T #[vR, .int .i64 wd, .int .i64 rk, .bool (decide (d < 0)), a, b, .int .i64 0] ∧ NatC w a d.num.natAbs ∧ NatC w b d.den
  own : OwnR w 27 (T + 1) 1 vR rs.length rs
  rl : rs.length = n
  mp : 0 < m
  row : ∀ (i : Nat) (h : i < rs.length), FrRow w 25 (T + 1) rs[i] (rowL m (A i))
  ap : ∀ (i j : Nat) (hi : i < rs.length) (hj : j < rs.length), i ≠ j → rs[i].ownBlock ≠ rs[j].ownBlock
section
variable {w w' : World} {T n m wd rk : Nat} {vR : Value} {rs : List Value} {A : Mx} {d : Rat}
theorem TabW.lt (h : TabW w T vR rs n m A wd rk d) : T < w.heap.size := by obtain ⟨a, b, hb, _⟩ := h.box; exact hb.lt
theorem TabW.below (h : TabW w T vR rs n m A wd rk d) (hb : Below w.heap.size w w') : TabW w' T vR rs n m A wd rk d := by
  obtain ⟨a, b, h1, h2, h3⟩ := h.box
  exact ⟨⟨a, b, h1.below hb, h2.below hb, h3.below hb⟩, h.own.below hb, h.rl, h.mp, fun i hi => (h.row i hi).moves (Moves.below (B := T + 1) hb) (Nat.le_refl _), h.ap⟩
theorem TabW.congr {A' : Mx} (h : TabW w T vR rs n m A wd rk d) (hA : ∀ i j, i < n → j < m → A i j = A' i j) : TabW w T vR rs n m A' wd rk d :=
  ⟨h.box, h.own, h.rl, h.mp, fun i hi => by rw [← rowL_congr (fun j hj => hA i j (by rw [← h.rl]; exact hi) hj)]; exact h.row i hi, h.ap⟩
/-- Row i's element j. -/
theorem TabW.elem (h : TabW w T vR rs n m A wd rk d) {i j : Nat} (hi : i < rs.length) (hj : j < m) :
    ∃ a b, w.cell? (ptr rs[i] (j * 3)) = some (.bool (decide (A i j < 0))) ∧ w.cell? (ptr rs[i] (j * 3 + 1)) = some a ∧ w.cell? (ptr rs[i] (j * 3 + 2)) = some b ∧ NatC w a (A i j).num.natAbs ∧ NatC w b (A i j).den := by
  obtain ⟨a, b, h1, h2, h3, h4, h5⟩ := (h.row i hi).fracs.at' j (by rw [rowL_length]; exact hj)
  rw [rowL_get] at h1 h4 h5
  exact ⟨a, b, h1, h2, h3, h4, h5⟩
theorem TabW.put (h : TabW w T vR rs n m A wd rk d) {i j : Nat} (hi : i < rs.length) (hj : j < m) {x y z : Value} {r : Rat} (hf : FracC w (.agg #[x, y, z]) r) :
    TabW (((w.setCell (ptr rs[i] (j * 3)) x).setCell (ptr rs[i] (j * 3 + 1)) y).setCell (ptr rs[i] (j * 3 + 2)) z) T vR rs n m (upd A i j r) wd rk d ∧
      Below T w (((w.setCell (ptr rs[i] (j * 3)) x).setCell (ptr rs[i] (j * 3 + 1)) y).setCell (ptr rs[i] (j * 3 + 2)) z) := by
  have hT := h.lt
  obtain ⟨⟨a, b, h1, h2, h3⟩, own, rl, mp, row, ap⟩ := h
  have hr := row i hi
  obtain ⟨hp, gg⟩ := hr.put (i := j) (by rw [rowL_length]; exact hj) hf
  have hnl := hr.noLimb
  obtain ⟨g, hg, _, hgT, hgw, _⟩ := hr.blk (by rw [rowL_length]; exact mp)
  have hgT' : rs[i].ownBlock ≠ some T := by rw [hg]; intro e; injection e with e; omega
  obtain ⟨ys, y1, y2⟩ := id hr
  refine ⟨⟨⟨a, b, h1.grown gg hgT', h2.grown gg hnl, h3.grown gg hnl⟩, own.grown gg (own.kinds y1 (by decide)), rl, mp, fun k hk => ?_, ap⟩, below_of_grown gg (by omega) (fun k hk => by rw [hg] at hk; injection hk with hk; omega)⟩
  by_cases hki : k = i
  · subst hki
    rw [rowL_set] at hp
    have e : rowL m (upd A k j r k) = rowL m (fun b => if b = j then r else A k b) := rowL_congr fun b _ => by
      unfold upd
      by_cases hb : b = j
      · rw [if_pos ⟨rfl, hb⟩, if_pos hb]
      · rw [if_neg (fun h => hb h.2), if_neg hb]
    rw [e]; exact hp
  · have e : rowL m (upd A i j r k) = rowL m (A k) := rowL_congr fun b _ => by unfold upd; rw [if_neg (fun h => hki h.1)]
    rw [e]
    exact (row k hk).grown gg hnl (Or.inr (ap k i hk hi hki))
theorem TabW.setDet (h : TabW w T vR rs n m A wd rk d) {x y z : Value} {r : Rat} (hf : FracC w (.agg #[x, y, z]) r) :
    TabW (((w.setCell ⟨T, 3, none⟩ x).setCell ⟨T, 4, none⟩ y).setCell ⟨T, 5, none⟩ z) T vR rs n m A wd rk r ∧ Below T w (((w.setCell ⟨T, 3, none⟩ x).setCell ⟨T, 4, none⟩ y).setCell ⟨T, 5, none⟩ z) := by
  obtain ⟨⟨a, b, h1, h2, h3⟩, own, rl, mp, row, ap⟩ := h
  obtain ⟨p, q, ha, h4, h5⟩ := id hf
  injection ha with ha
  injection ha with ha
  simp only [List.cons.injEq, and_true] at ha
  obtain ⟨rfl, rfl, rfl⟩ := ha
  obtain ⟨a1, a2, a3, rfl, _⟩ := h2.v.sl
  obtain ⟨b1, b2, b3, rfl, _⟩ := h3.v.sl
  have s1 := h1.set 3 (.bool (decide (r < 0)))
  have s2 := s1.set 4 y
  have s3 := s2.set 5 z
  have m1 := Moves.set (B := T + 1) (p := ⟨T, 3, none⟩) (Nat.lt_succ_self T) (h1.cell 3 rfl) (fun z => by simp) (.bool (decide (r < 0)))
  have m2 := Moves.set (B := T + 1) (p := ⟨T, 4, none⟩) (Nat.lt_succ_self T) (s1.cell 4 rfl) (fun z => by simp) y
  have m3 := Moves.set (B := T + 1) (p := ⟨T, 5, none⟩) (Nat.lt_succ_self T) (s2.cell 5 rfl) (fun z => by simp) z
  have mm := (m1.trans m2).trans m3
  exact ⟨⟨⟨y, z, s3, h4.moves mm, h5.moves mm⟩, own.moves mm (Nat.le_refl _), rl, mp, fun i hi => (row i hi).moves mm (Nat.le_refl _), ap⟩,
    (((Below.refl T w).setCell (p := ⟨T, 3, none⟩) (Nat.le_refl _) _).setCell (p := ⟨T, 4, none⟩) (Nat.le_refl _) _).setCell (p := ⟨T, 5, none⟩) (Nat.le_refl _) _⟩
theorem TabW.setRank (h : TabW w T vR rs n m A wd rk d) (k : Nat) :
    TabW (w.setCell ⟨T, 2, none⟩ (.int .i64 k)) T vR rs n m A wd k d ∧ Below T w (w.setCell ⟨T, 2, none⟩ (.int .i64 k)) := by
  obtain ⟨⟨a, b, h1, h2, h3⟩, own, rl, mp, row, ap⟩ := h
  have mm := Moves.set (B := T + 1) (p := ⟨T, 2, none⟩) (Nat.lt_succ_self T) (h1.cell 2 rfl) (fun z => by simp) (.int .i64 k)
  exact ⟨⟨⟨a, b, h1.set 2 (.int .i64 k), h2.moves mm, h3.moves mm⟩, own.moves mm (Nat.le_refl _), rl, mp, fun i hi => (row i hi).moves mm (Nat.le_refl _), ap⟩,
    (Below.refl T w).setCell (p := ⟨T, 2, none⟩) (Nat.le_refl _) _⟩
/-- Two rows change places. -/
theorem TabW.swap (h : TabW w T vR rs n m A wd rk d) {i j : Nat} (hi : i < rs.length) (hj : j < rs.length) (hij : i ≠ j) :
    TabW ((w.setCell (ptr vR i) rs[j]).setCell (ptr vR j) rs[i]) T vR ((rs.set i rs[j]).set j rs[i]) n m (swp A i j) wd rk d ∧ Below T w ((w.setCell (ptr vR i) rs[j]).setCell (ptr vR j) rs[i]) := by
  have hT := h.lt
  obtain ⟨⟨a, b, h1, h2, h3⟩, own, rl, mp, row, ap⟩ := h
  have hn : ∀ k (hk : k < rs.length) z, rs[k] ≠ .int .u32 z := fun k hk z => by
    obtain ⟨a1, a2, a3, e1, _⟩ := (row k hk).sl
    rw [e1]; simp
  obtain ⟨s1, g1⟩ := own.set1 i hi rs[j] (hn j hj)
  obtain ⟨s2, g2⟩ := s1.set1 j (by rw [List.length_set]; exact hj) rs[i] (hn i hi)
  have gg := grown_trans g1 g2
  obtain ⟨g, hg, _, hgT, hgw, _⟩ := own.blk (by omega)
  have hgT' : vR.ownBlock ≠ some T := by rw [hg]; intro e; injection e with e; omega
  have ge : ∀ k (hk : k < ((rs.set i rs[j]).set j rs[i]).length), ∃ k', ∃ hk' : k' < rs.length, ((rs.set i rs[j]).set j rs[i])[k] = rs[k'] ∧ swp A i j k = A k' ∧ (k' = if k = j then i else if k = i then j else k) := fun k hk => by
    have hk0 : k < rs.length := by simpa using hk
    unfold swp
    by_cases e1 : k = j
    · subst e1
      exact ⟨i, hi, by rw [List.getElem_set_self], by rw [if_neg (fun e => hij e.symm), if_pos rfl], by rw [if_pos rfl]⟩
    · by_cases e2 : k = i
      · subst e2
        exact ⟨j, hj, by rw [List.getElem_set_ne (fun e => e1 e.symm), List.getElem_set_self], by rw [if_pos rfl], by rw [if_neg e1, if_pos rfl]⟩
      · exact ⟨k, hk0, by rw [List.getElem_set_ne (fun e => e1 e.symm), List.getElem_set_ne (fun e => e2 e.symm)], by rw [if_neg e2, if_neg e1], by rw [if_neg e1, if_neg e2]⟩
  refine ⟨⟨⟨a, b, h1.grown gg hgT', h2.grown gg own.nl, h3.grown gg own.nl⟩, ?_, by simp [rl], mp, fun k hk => ?_, fun k l hk hl hkl => ?_⟩, below_of_grown gg (by omega) (fun k hk => by rw [hg] at hk; injection hk with hk; omega)⟩
  · rw [List.length_set, List.length_set]; exact s2
  · obtain ⟨k', hk', e1, e2, _⟩ := ge k hk
    obtain ⟨ys, y1, y2⟩ := id (row k' hk')
    rw [e1, e2]
    exact (row k' hk').grown gg own.nl (y1.kinds own (by decide))
  · obtain ⟨k', hk', e1, _, f1⟩ := ge k hk
    obtain ⟨l', hl', e2, _, f2⟩ := ge l hl
    rw [e1, e2]
    refine ap k' l' hk' hl' ?_
    rw [f1, f2]
    split <;> split <;> (try split) <;> (try split) <;> omega
end
end Go.Proofs.YtbhkibilnmoljaaGreat
namespace Go.Proofs.YtbhkibilnmoljaaGreat
set_option linter.unusedVariables false
set_option linter.unusedSimpArgs false
open Go.RowKit

set_option maxHeartbeats 800000 in
theorem lnumber_zero (w : World) : Calls Tryz.prog 52 #[.int .i64 0] w (RF1 w 0) := by
  go_enter Tryz.func52, Tryz.ntmps52
  go_wp2_with (go_at_call 75; (with_reducible refine (make_01 _).mono ?_); rintro e w1 ⟨v, rfl, hv, hb1⟩
               obtain ⟨t9, x9, y9, rfl, ⟨a1, l91, k1, rfl, _⟩, ⟨a2, l92, k2, rfl, _⟩⟩ := hv.isF
               have hr := ((C3.new w 25 (.bool false) (.slice none 0 0) (.slice none 0 0)).belowS hb1).allocS (.cells #[.bool t9, .slice a1 l91 k1, .slice a2 l92 k2] 25)
               have hv2 := hv.below (below_alloc w1 (.cells #[.bool t9, .slice a1 l91 k1, .slice a2 l92 k2] 25))
               have hb2 := below_then (below_then (below_alloc w (.cells #[.bool false, .slice none 0 0, .slice none 0 0] 25)) hb1) (below_alloc w1 (.cells #[.bool t9, .slice a1 l91 k1, .slice a2 l92 k2] 25))
               have HR := Lib.hid hr
               obtain ⟨_, d1, d2, d3, d4, d5, d6⟩ := hr)
  refine bodyPost_c1 rfl rfl Tryz.aggF Tryz.sizeF (HR.out.set _ _ _) rfl ?_
  exact ⟨_, rfl, hv2.set3 HR.out (fun z => by simp) (fun z => by simp) _ _ _, below_set3 hb2 (Nat.le_refl _) _ _ _⟩
set_option maxHeartbeats 800000 in
theorem lnumber_one (w : World) : Calls Tryz.prog 52 #[.int .i64 1] w (RF1 w 1) := by
  go_enter Tryz.func52, Tryz.ntmps52
  go_wp2_with (go_at_call 75; (with_reducible refine (make_11 _).mono ?_); rintro e w1 ⟨v, rfl, hv, hb1⟩
               obtain ⟨t9, x9, y9, rfl, ⟨a1, l91, k1, rfl, _⟩, ⟨a2, l92, k2, rfl, _⟩⟩ := hv.isF
               have hr := ((C3.new w 25 (.bool false) (.slice none 0 0) (.slice none 0 0)).belowS hb1).allocS (.cells #[.bool t9, .slice a1 l91 k1, .slice a2 l92 k2] 25)
               have hv2 := hv.below (below_alloc w1 (.cells #[.bool t9, .slice a1 l91 k1, .slice a2 l92 k2] 25))
               have hb2 := below_then (below_then (below_alloc w (.cells #[.bool false, .slice none 0 0, .slice none 0 0] 25)) hb1) (below_alloc w1 (.cells #[.bool t9, .slice a1 l91 k1, .slice a2 l92 k2] 25))
               have HR := Lib.hid hr
               obtain ⟨_, d1, d2, d3, d4, d5, d6⟩ := hr)
  refine bodyPost_c1 rfl rfl Tryz.aggF Tryz.sizeF (HR.out.set _ _ _) rfl ?_
  exact ⟨_, rfl, hv2.set3 HR.out (fun z => by simp) (fun z => by simp) _ _ _, below_set3 hb2 (Nat.le_refl _) _ _ _⟩
set_option maxHeartbeats 400000 in
theorem lzero_any (v : Value) (s : Bool) (n d : Nat) (w : World) (h : FracN w v s n d) :
    Calls Tryz.prog 54 #[v] w fun e w' => e = .returned (.bool (decide (n = 0))) ∧ Below w.heap.size w w' := by
  obtain ⟨a, b, rfl, ha, hb⟩ := h
  go_enter Tryz.func54, Tryz.ntmps54
  go_wp2_with (go_at_call 43; refine (bits_any _ n _ (ha.below (below_alloc _ _))).mono ?_; rintro e w' ⟨rfl, rfl⟩)
  go_ret
  exact ⟨by rw [← beq_bits]; rfl, below_alloc _ _⟩
theorem lzero_can (v : Value) (q : Rat) (w : World) (h : FracC w v q) :
    Calls Tryz.prog 54 #[v] w fun e w' => e = .returned (.bool (decide (q = 0))) ∧ Below w.heap.size w w' := by
  refine (lzero_any v _ _ _ w h.raw).mono ?_
  rintro e w' ⟨rfl, hb⟩
  refine ⟨?_, hb⟩
  have : (q.num.natAbs = 0) ↔ q = 0 := ⟨fun h => Rat.num_eq_zero.1 (by omega), fun h => by rw [h]; rfl⟩
  by_cases hq : q = 0
  · rw [decide_eq_true hq, decide_eq_true (this.2 hq)]
  · rw [decide_eq_false hq, decide_eq_false (fun h => hq (this.1 h))]
set_option maxHeartbeats 400000 in
theorem keep_ok (p v : Value) (q : Rat) (w : World) (h : FracC w v q) :
    Calls Tryz.prog 44 #[p, v, .int .i64 0] w (RF1 w q) := by
  obtain ⟨s, x, y, rfl, ⟨a1, l1, k1, rfl, _⟩, ⟨a2, l2, k2, rfl, _⟩⟩ := id h.isF
  obtain ⟨bx, bz, hbw⟩ := two_boxes w 25 (.bool s) (.slice a1 l1 k1) (.slice a2 l2 k2) (.bool false) (.slice none 0 0) (.slice none 0 0) _ rfl
  have HF := Lib.hid (h.below hbw)
  have HZ := Lib.hid bz
  have HB := Lib.hid hbw
  obtain ⟨_, x0, x1, x2, f0, f1, f2⟩ := bx
  obtain ⟨_, z0, z1, z2, g0, g1, g2⟩ := bz
  clear h hbw
  go_enter Tryz.func44, Tryz.ntmps44
  go_upto_region 1 with fail
  generalize (w.alloc (.cells #[.bool s, .slice a1 l1 k1, .slice a2 l2 k2] 25)).alloc (.cells #[.bool false, .slice none 0 0, .slice none 0 0] 25) = W at *
  go_wp2_with fail
  refine bodyPost_c1 rfl rfl Tryz.aggF Tryz.sizeF (HZ.out.set _ _ _) rfl ?_
  exact ⟨_, rfl, HF.out.set3 HZ.out (fun z => by simp) (fun z => by simp) _ _ _, below_set3 HB.out (by omega) _ _ _⟩
end Go.Proofs.YtbhkibilnmoljaaGreat
