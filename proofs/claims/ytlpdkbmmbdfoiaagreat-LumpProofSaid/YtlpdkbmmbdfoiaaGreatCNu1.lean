/-
  package drydocklaw22: numbered.
  Ahead of it: package lump: split. package lump: split, the walk. package lump: Coarsest.
-/
import Derived.Test.YtlpdkbmmbdfoiaaGreatCMath14
import Derived.Test.YtlpdkbmmbdfoiaaGreatCTa6
import Derived.Test.YtlpdkbmmbdfoiaaGreatCMath19
import Derived.Test.YtlpdkbmmbdfoiaaGreatCTa3
import Derived.Deep.LoopGhost
namespace Go.Proofs.YtlpdkbmmbdfoiaaGreat
set_option linter.unusedVariables false
set_option linter.unusedSimpArgs false
open Go.RowKit

theorem Tryz.infoCls : (Tryz.prog.info? 166).map (fun i => (i.zero, i.size, i.bytes)) = some (some (.agg #[.int .i64 0, .slice none 0 0]), 2, 32) := by kernel_rfl
theorem FracsC.grown {w w' : World} {v r : Value} {q : List Rat} (h : FracsC w r q) (hg : w.grownBy w' v.ownBlock) (hn : NoLimb w v) (hne : v.ownBlock ≠ some (base r).block) : FracsC w' r q :=
  ⟨h.sl, h.len, fun j hj => by
    obtain ⟨a, b, e1, e2, e3, e4, e5⟩ := h.at' j hj
    have hc : ∀ k u, w.cell? (ptr r k) = some u → w'.cell? (ptr r k) = some u := fun k u hu => hg.cell hu (by rw [ptr_block]; exact fun e => hne e.symm)
    exact ⟨a, b, hc _ _ e1, hc _ _ e2, hc _ _ e3, e4.grown hg hn, e5.grown hg hn⟩⟩
/-- v is a row of classes that the call made. -/
def ClsRow (w : World) (eF eC : TypeId) (B : Nat) (v : Value) (cl : List (Int × List Rat)) : Prop :=
  ∃ xs, OwnR w eC B 2 v cl.length xs ∧ ∀ (j : Nat) (h : j < cl.length), ∃ (g n : Nat), xs[j * 2]? = some (.int .i64 cl[j].1) ∧ xs[j * 2 + 1]? = some (.slice (some ⟨g, 0, none⟩) n n) ∧ OwnFr w eF B (.slice (some ⟨g, 0, none⟩) n n) n ∧ FracsC w (.slice (some ⟨g, 0, none⟩) n n) cl[j].2
section
variable {w w' : World} {eF eC : TypeId} {B : Nat} {v : Value} {cl : List (Int × List Rat)}
theorem ClsRow.nil (w : World) (eF eC : TypeId) (B : Nat) : ClsRow w eF eC B (.slice none 0 0) [] := ⟨[], OwnR.nil _ _ _ _, fun j h => by simp at h⟩
theorem ClsRow.below (h : ClsRow w eF eC B v cl) (hb : Below w.heap.size w w') : ClsRow w' eF eC B v cl := by
  obtain ⟨xs, h1, h2⟩ := h
  exact ⟨xs, h1.below hb, fun j hj => by obtain ⟨g, n, e1, e2, e3, e4⟩ := h2 j hj; exact ⟨g, n, e1, e2, e3.below hb, e4.below hb⟩⟩
theorem ClsRow.reads (h : ClsRow w eF eC B v cl) : ClsV w v cl := by
  obtain ⟨xs, h1, h2⟩ := h
  refine ⟨h1.sl, h1.len, fun j hj => ?_⟩
  obtain ⟨g, n, e1, e2, e3, e4⟩ := h2 j hj
  have hc : ∀ i u, xs[i]? = some u → w.cell? (ptr v i) = some u := fun i u hi => by
    obtain ⟨h6, h7⟩ := List.getElem?_eq_some_iff.1 hi
    rw [h1.cell i h6, h7]
  exact ⟨_, hc _ _ e1, hc _ _ e2, e4⟩
/-- A store into another row. -/
theorem ClsRow.over (h : ClsRow w eF eC B v cl) {p : Addr} {x : Value} (hp : ∀ e cur fz, w.heap[p.block]? = some (.cells cur e fz) → e ≠ eF ∧ e ≠ eC) (hc : w.cell? p = some x) (hx : ∀ z, x ≠ .int .u32 z) (u : Value) : ClsRow (w.setCell p u) eF eC B v cl := by
  obtain ⟨xs, h1, h2⟩ := h
  refine ⟨xs, h1.over ?_ u, fun j hj => ?_⟩
  · cases ho : v.ownBlock with
    | none => exact Or.inl rfl
    | some g =>
      refine Or.inr (fun e => ?_)
      injection e with e
      subst e
      obtain ⟨cc, fz, hh⟩ := Lib.ownsRow_kind h1.own _ ho
      exact (hp _ _ _ hh).2 rfl
  · obtain ⟨g, n, e1, e2, e3, e4⟩ := h2 j hj
    have hne : p.block ≠ g := fun e => by
      obtain ⟨g', cs, e5, e6, _⟩ := e3
      obtain ⟨cc, fz, hh⟩ := Lib.ownsRow_kind e6 g rfl
      rw [← e] at hh
      exact (hp _ _ _ hh).1 rfl
    exact ⟨g, n, e1, e2, e3.over hne u, e4.over hne hc hx⟩
theorem ClsRow.snoc {k : Nat} {b : Int} {s : List Rat} {g n : Nat} {v' : Value} {xs : List Value} (h : ClsRow w eF eC B v cl) (hxs : OwnR w eC B 2 v cl.length xs ∧ ∀ (j : Nat) (h : j < cl.length), ∃ (g n : Nat), xs[j * 2]? = some (.int .i64 cl[j].1) ∧ xs[j * 2 + 1]? = some (.slice (some ⟨g, 0, none⟩) n n) ∧ OwnFr w eF B (.slice (some ⟨g, 0, none⟩) n n) n ∧ FracsC w (.slice (some ⟨g, 0, none⟩) n n) cl[j].2)
    (hfr : OwnFr w eF B (.slice (some ⟨g, 0, none⟩) n n) n) (hs : FracsC w (.slice (some ⟨g, 0, none⟩) n n) s) (hv : OwnR w' eC B 2 v' (cl.length + 1) (xs ++ [.int .i64 b, .slice (some ⟨g, 0, none⟩) n n])) (hg : w.grownBy w' v.ownBlock) (hF : eF ≠ eC) : ClsRow w' eF eC B v' (cl ++ [(b, s)]) := by
  obtain ⟨h1, h2⟩ := hxs
  have hl : xs.length = cl.length * 2 := h1.clen
  have key : ∀ (g' n' : Nat) (q : List Rat), OwnFr w eF B (.slice (some ⟨g', 0, none⟩) n' n') n' → FracsC w (.slice (some ⟨g', 0, none⟩) n' n') q → OwnFr w' eF B (.slice (some ⟨g', 0, none⟩) n' n') n' ∧ FracsC w' (.slice (some ⟨g', 0, none⟩) n' n') q := fun g' n' q f1 f2 => by
    have hne : v.ownBlock ≠ some g' := fun e => by
      obtain ⟨gg, cs, e5, e6, _⟩ := f1
      obtain ⟨cc, fz, hh⟩ := Lib.ownsRow_kind e6 g' rfl
      obtain ⟨cc2, fz2, hh2⟩ := Lib.ownsRow_kind h1.own g' e
      rw [hh] at hh2
      injection hh2 with hh2
      injection hh2 with _ hh2
      exact hF hh2
    refine ⟨?_, f2.grown hg h1.nl hne⟩
    obtain ⟨gg, cs, e5, e6, e7⟩ := f1
    exact ⟨gg, cs, e5, World.ownsRow.kept e6 hg (Or.inr (fun e => hne e.symm)), e7⟩
  refine ⟨_, by rw [List.length_append]; exact hv, fun j hj => ?_⟩
  rcases Nat.lt_or_ge j cl.length with h3 | h3
  · obtain ⟨g', n', e1, e2, e3, e4⟩ := h2 j h3
    rw [List.getElem_append_left h3]
    exact ⟨g', n', by rw [List.getElem?_append_left (by omega)]; exact e1, by rw [List.getElem?_append_left (by omega)]; exact e2, key _ _ _ e3 e4⟩
  · obtain rfl : j = cl.length := by simp at hj; omega
    have e0 : (cl ++ [(b, s)])[cl.length]'hj = (b, s) := by simp
    rw [e0, ← hl]
    exact ⟨g, n, by rw [List.getElem?_append_right (Nat.le_refl _)]; simp, by rw [List.getElem?_append_right (by omega)]; simp, key _ _ _ hfr hs⟩
end
/-- append(classes, class{b, s}), for a walk. -/
theorem append1_cls {P : Program} (t e eF : TypeId) (i : TypeInfo) (ht : P.underlying t = some (.slice e)) (hi : P.info? e = some i) (hz : i.zero = some (.agg #[.int .i64 0, .slice none 0 0])) (hsize : i.size = 2) (hby : i.bytes = 32) (hF : eF ≠ e)
    (w0 : World) {ops : Array Oper} {rest : List Oper} {o : Oper} {a : Act} {Q : Exit → Act → World → Prop} (hgd : o.guard = none) (s x : Operand)
    (ho : o.op = .call { callee := .builtin .append, args := #[s, x], argTypes := #[t, t] }) (B : Nat) (e' : TypeId)
    (v : Value) (cl : List (Int × List Rat)) (hs : a.eval s = v) (hown : ClsRow w0 eF e B v cl) (b : Int) (q : List Rat) (g n : Nat) (hfr : OwnFr w0 eF B (.slice (some ⟨g, 0, none⟩) n n) n) (hq : FracsC w0 (.slice (some ⟨g, 0, none⟩) n n) q)
    (hxe : a.eval x = .slice (some ⟨w0.heap.size, 0, none⟩) 1 1) (hn : cl.length ≤ 1000) (hbase : B ≤ w0.heap.size)
    (h : ∀ v' w', ClsRow w' eF e B v' (cl ++ [(b, q)]) → w0.grownBy w' v.ownBlock → (∀ k, v.ownBlock = some k → B ≤ k) → (∀ k, v.ownBlock = some k → ∃ c fz, w0.heap[k]? = some (.cells c e fz)) → IsSl v' → wpList P ops Q rest (a.put o.dst v') w') :
    wpList P ops Q (o :: rest) a (w0.alloc (.cells #[.int .i64 b, .slice (some ⟨g, 0, none⟩) n n] e')) := by
  obtain ⟨xs, h1, h2⟩ := id hown
  refine wpList_append1_R w0 hgd s x t ho B e e' i _ 2 32 ht hi hz hsize hby rfl (by decide) (fun c hc z => by
      have hc2 : c ∈ [Value.int .i64 0, .slice none 0 0] := hc
      simp at hc2; rcases hc2 with rfl | rfl <;> simp) v cl.length xs hs h1 #[.int .i64 b, .slice (some ⟨g, 0, none⟩) n n] rfl hxe
    (fun u hu => by simp at hu; rcases hu with rfl | rfl <;> rfl) (fun u hu z => by simp at hu; rcases hu with rfl | rfl <;> simp) (by simp [maxLen]; omega) (by omega) hbase ?_
  intro v' w' k1 k2 k3
  exact h v' w' (hown.snoc (k := 0) ⟨h1, h2⟩ hfr hq k1 k2 hF) k2 (fun k hk => (h1.block k hk).1) (Lib.ownsRow_kind h1.own) k1.sl
end Go.Proofs.YtlpdkbmmbdfoiaaGreat
namespace Go.Proofs.YtlpdkbmmbdfoiaaGreat
set_option linter.unusedVariables false
set_option linter.unusedSimpArgs false
open Go.RowKit

theorem OwnE.keptK {w w' : World} {e e' : TypeId} {B : Nat} {v9 v : Value} {es : List Value} (h : OwnE w e' B v9 es) (hg : w.grownBy w' v.ownBlock) (hk : ∀ k, v.ownBlock = some k → ∃ c fz, w.heap[k]? = some (.cells c e fz)) (hne : e' ≠ e) : OwnE w' e' B v9 es := by
  refine World.ownsRow.kept h hg ?_
  cases ho : v9.ownBlock with
  | none => exact Or.inl rfl
  | some g =>
    refine Or.inr (fun e2 => ?_)
    obtain ⟨c, fz, h1⟩ := hk g e2.symm
    obtain ⟨c', fz', h2⟩ := Lib.ownsRow_kind h g ho
    rw [h1] at h2
    injection h2 with h2
    injection h2 with _ h2
    exact hne h2.symm
theorem OwnE.kindAt {w : World} {e : TypeId} {B : Nat} {v : Value} {es : List Value} (h : OwnE w e B v es) (hl : 0 < es.length) (j : Nat) : ∀ e' cur fz, w.heap[(ptr v j).block]? = some (.cells cur e' fz) → e' = e := by
  intro e' cur fz hh
  rw [ptr_block] at hh
  rcases h.2 with ⟨rfl, h0⟩ | ⟨g, cap, cur', rfl, hb, hg, rest⟩
  · omega
  · simp only [base] at hh
    rw [hg] at hh
    injection hh with hh
    injection hh with _ hh
    exact hh.symm
theorem set_next (nx : List Int) (k n : Nat) (c : Int) (hl : nx.length = k) (hk : k < n) : ((nx ++ List.replicate (n - k) 0).map (Value.int .i64)).set k (.int .i64 c) = ((nx ++ [c]) ++ List.replicate (n - (k + 1)) 0).map (Value.int .i64) := by
  rw [← List.map_set, List.set_append_right _ _ (by omega), hl, Nat.sub_self, show n - k = (n - (k + 1)) + 1 from by omega, List.replicate_succ, List.set_cons_zero, List.append_assoc]
  rfl
def RSplit (w0 : World) (bl : List Int) (f : Nat → List Rat) (e : Ending) (w : World) : Prop :=
  ∃ v nx, e = .returned (.tuple #[v, .int .i64 (cnt nx : Nat)]) ∧ SplitP bl f nx ∧ OwnE w 3 w0.heap.size v (nx.map (Value.int .i64)) ∧ Below w0.heap.size w0 w
theorem ClsI.lens {bl : List Int} {f : Nat → List Rat} {k : Nat} {nx : List Int} {cl : List (Int × List Rat)} (h : ClsI bl f k nx cl) : ∀ x ∈ cl, ∃ i, i < k ∧ x.2 = f i := fun x hx => by
  obtain ⟨j, hj, rfl⟩ := List.getElem_of_mem hx
  obtain ⟨i, h1, _, _, h2⟩ := h.rep j _ (List.getElem?_eq_getElem hj)
  exact ⟨i, h1, h2⟩
theorem ClsI.le {bl : List Int} {f : Nat → List Rat} {k : Nat} {nx : List Int} {cl : List (Int × List Rat)} (h : ClsI bl f k nx cl) : cl.length ≤ k := by
  have := cnt_le nx nx.length
  rw [List.take_length] at this
  have h1 := h.num
  have h2 := h.len
  omega
set_option maxRecDepth 100000 in
set_option maxHeartbeats 3200000 in
theorem split_any (va vb : Value) (c : RC) (bl : List Int) (n : Nat) (w : World) (ha : ChainN w va c) (hb : IntsV w vb bl) (hok : okB bl) (hlen : bl.length = c.start.length) (hv : validP c) (hn : n = cnt bl) :
    Calls Tryz.prog 139 #[va, vb, .int .i64 n] w (RSplit w bl (fun i => bsums bl (rowsQ c i) (cnt bl))) := by
  subst hn
  have hmf : ∀ (fn : Fn) (first cap : Array Value) (w : World), (Instr.makeFunc fn first cap).run Tryz.prog w = .ok (.func fn first cap) w := fun _ _ _ _ => rfl
  obtain ⟨i1, hi1, hz1, hs1, hy1⟩ := info_parts Tryz.infoInt
  have hM1 := make_E (P := Tryz.prog) 29 3 i1 _ 8 Tryz.underlying29 hi1 hz1 hs1 hy1 (by decide) rfl
  obtain ⟨i2, hi2, hz2, hs2, hy2⟩ := info_parts Tryz.infoCls
  have hAC := append1_cls (P := Tryz.prog) 163 166 38 i2 Tryz.underlying163 hi2 hz2 hs2 hy2 (by decide)
  clear hi1 hz1 hs1 hy1 hi2 hz2 hs2 hy2
  obtain ⟨rv, sv, lv, rfl, hr, hs, hl⟩ := id ha
  obtain ⟨ra, rn, rk, rfl, r1, r2, r3⟩ := id hr.sl
  obtain ⟨sa, sn, sk, rfl, s1, s2, s3⟩ := id hs.sl
  obtain ⟨la, ln, lk, rfl, l1, l2, l3⟩ := id (CellsV.sl hl)
  have sb := CellsV.sl hb
  have lb := hb.len
  have hbl3 : bl.length ≤ 128 := by have := hv; unfold validP at this; omega
  have hcl : cnt bl ≤ bl.length := by have := cnt_le bl bl.length; rwa [List.take_length] at this
  have hbx := below_alloc w (.cells #[.slice ra rn rk, .slice sa sn sk, .slice la ln lk] 28)
  have hC := C3.new w 28 (.slice ra rn rk) (.slice sa sn sk) (.slice la ln lk)
  have hb2 := hb.below hbx
  have HOK := Lib.hid hok
  have HC := Lib.hid hC
  have HV4 : Hid (c.rates.length = bl.length) := Lib.hid (by rw [hlen]; exact hv.2.2.2.1)
  have HVR : Hid (∀ i r, c.rates[i]? = some r → rowP r bl.length) := Lib.hid (fun i r h => by rw [hlen]; exact (hv.2.2.2.2.2.1 i r h).1)
  have hFit : ∀ i, i < bl.length → ∀ x ∈ bsums bl (rowsQ c i) (cnt bl), fits x := fun i hi x hx => by
    obtain ⟨j, hj, rfl⟩ := List.mem_map.1 hx
    have hir : i < c.rates.length := by rw [HV4.out]; exact hi
    have hrp := HVR.out i _ (List.getElem?_eq_getElem hir)
    have e : rowsQ c i = qs (c.rates[i]'hir) := by simp [rowsQ, List.getD, List.getElem?_eq_getElem hir]
    rw [e]
    have h1 := bsum_fits (bl := bl) (row := qs (c.rates[i]'hir)) bl.length (j : Int) (fun q hq => by
      obtain ⟨x, hx, rfl⟩ := List.mem_map.1 hq
      exact Rat.not_lt.1 (hrp.1 x hx).2.1) hrp.2.2
    rwa [List.take_length, List.take_of_length_le (by rw [qs_length, hrp.2.1]; exact Nat.le_refl _)] at h1
  have HFIT := Lib.hid hFit
  have HRN : Hid (rn = bl.length) := Lib.hid (by have h1 : rn = c.rates.length := hr.len; rw [h1]; exact HV4.out)
  obtain ⟨_, c0, c1, c2, _, _, _⟩ := id hC
  clear hFit hC hs ha hok hv hlen hl
  have h0 : rn = bl.length := HRN.out
  subst h0
  go_enter Tryz.func139, Tryz.ntmps139
  go_wp2_with (refine hM1 _ rfl _ _ rfl bl.length rfl rfl (by omega) ?_; intro v9 w9 hown9 hbel9)
  go_loopw [8, 19] (fun u8 u19 wr => ∃ (k : Nat) (nx : List Int) (cl : List (Int × List Rat)), k ≤ bl.length ∧ u19 = .int .i64 k ∧ ClsRow wr 38 166 (w.heap.size + 1) u8 cl ∧ ClsI bl (fun i => bsums bl (rowsQ c i) (cnt bl)) k nx cl ∧
    OwnE wr 3 (w.heap.size + 1) v9 ((nx ++ List.replicate (bl.length - k) 0).map (Value.int .i64)) ∧ Below (w.heap.size + 1) (w.alloc (.cells #[.slice ra bl.length rk, .slice sa sn sk, .slice la ln lk] 28)) wr ∧ w.heap.size + 1 ≤ wr.heap.size) (fun _ u19 _ => bl.length - (intOf u19).toNat)
  case atStart =>
    have hz : (w.alloc (.cells #[.slice ra bl.length rk, .slice sa sn sk, .slice la ln lk] 28)).heap.size = w.heap.size + 1 := by simp
    rw [hz] at hown9 hbel9
    refine ⟨0, [], [], Nat.zero_le _, rfl, ClsRow.nil _ _ _ _, ClsI.zero _ _, ?_, hbel9, by have := hbel9.size; omega⟩
    rw [List.nil_append, List.map_replicate]
    exact hown9
  case round =>
    obtain ⟨k, nx, cl, hk, rfl, hCl, hI, h9, hbr, hwr⟩ := hrel
    have HI := Lib.hid hI
    have HCl := Lib.hid hCl
    have H9 := Lib.hid h9
    have hbr2 : Below (w.alloc (.cells #[.slice ra bl.length rk, .slice sa sn sk, .slice la ln lk] 28)).heap.size (w.alloc (.cells #[.slice ra bl.length rk, .slice sa sn sk, .slice la ln lk] 28)) wr := by
      have hz : (w.alloc (.cells #[.slice ra bl.length rk, .slice sa sn sk, .slice la ln lk] 28)).heap.size = w.heap.size + 1 := by simp
      rw [hz]; exact hbr
    have HBR := Lib.hid hbr
    clear hI hCl h9 hbr
    by_cases hkl : k < bl.length
    · have hnl := HI.out.len
      have hclk := HI.out.le
      have hbk := (hb2.below hbr2).at' k hkl
      have HG : Hid (bl[k]? = some (bl[k]'hkl)) := Lib.hid (List.getElem?_eq_getElem hkl)
      have hkr : k < c.rates.length := by rw [HV4.out]; exact hkl
      obtain ⟨r, hr1, hr2⟩ := ((hr.below hbx).below hbr2).at' k hkr
      have HROW := Lib.hid (HVR.out k _ (List.getElem?_eq_getElem hkr))
      have HRQ : Hid (rowsQ c k = qs (c.rates[k]'hkr)) := Lib.hid (by simp [rowsQ, List.getD, List.getElem?_eq_getElem hkr])
      generalize c.rates[k]'hkr = row at *
      generalize bl[k]'hkl = b at *
      have sra : IsSl (.slice ra bl.length rk) := hr.sl
      have hrl : row.length = bl.length := HROW.out.2.1
      have HROW2 : Hid (rowP row row.length) := Lib.hid (by rw [hrl]; exact HROW.out)
      have HRL := Lib.hid hrl
      have HNL := Lib.hid hnl
      obtain ⟨_, c0, c1, c2, _, _, _⟩ := HC.out.belowS hbr2
      have ba := below_alloc wr (.cells #[.int .i64 b] 3)
      have hbw := below_then hbr2 ba
      have hr2a := hr2.below ba
      have hb2a := hb2.below hbw
      have c0a := cell_below ba c0
      have hr1a := cell_below ba hr1
      have cb : (wr.alloc (.cells #[.int .i64 b] 3)).cell? ⟨wr.heap.size, 0, none⟩ = some (.int .i64 b) := by simp
      have i1 : (0 : Int) ≤ (k : Int) := by omega
      have i2 : (k : Int) < (bl.length : Nat) := by omega
      clear hnl hrl hr1 hr2 c0 c1 c2
      go_upto_if 36 with (first
        | (go_at_call 66; (with_reducible refine (sums_any _ _ row bl _ _ hr2a hb2a HRL.out HOK.out rfl (by omega) HROW2.out).mono ?_); rintro e5 w5 ⟨v5, rfl, how5, hel5, hbel5⟩; obtain ⟨g5, cs5, rfl, _⟩ := id how5
           have bb := below_alloc w5 (.cells #[.slice (some ⟨g5, 0, none⟩) (cnt bl) (cnt bl)] 25)
           have b56 := below_then hbel5 bb
           have hS5 := (how5.fracs (bsums_length bl (qs row) (cnt bl)) (fun j hj => by rw [bsums_length] at hj; rw [bsums_get _ _ _ _ hj]; exact hel5 j hj)).below bb
           have cb6 := cell_below b56 cb
           have cv6 : (w5.alloc (.cells #[.slice (some ⟨g5, 0, none⟩) (cnt bl) (cnt bl)] 25)).cell? ⟨w5.heap.size, 0, none⟩ = some (.slice (some ⟨g5, 0, none⟩) (cnt bl) (cnt bl)) := by simp
           have HCl6 := Lib.hid (HCl.out.below (below_then ba b56))
           have hrd := HCl6.out.reads)
        | (go_at_call 190; (with_reducible refine (index_any _ _ cl b (bsums bl (qs row) (cnt bl)) _ _ _ hrd hS5 (fun x hx => (by obtain ⟨i, _, h⟩ := HI.out.lens x hx; rw [h, bsums_length, bsums_length])) (fun x hx => (by obtain ⟨i, hi, h⟩ := HI.out.lens x hx; rw [h]; exact HFIT.out i (by omega))) (by rw [← HRQ.out]; exact HFIT.out k hkl) cb6 cv6 (by omega)).mono ?_); rintro e7 w7 ⟨⟨z, rfl, hz⟩, hbel7⟩))
      have hb07 := below_then (below_then ba b56) hbel7
      have HCl7 := Lib.hid (HCl6.out.below hbel7)
      have H97 := Lib.hid (H9.out.below hb07)
      have HBR7 := Lib.hid (HBR.out.trans (hb07.mono hwr))
      have hwr7 : w.heap.size + 1 ≤ w7.heap.size := Nat.le_trans hwr hb07.size
      have hfr7 := ((how5.below bb).below hbel7).mono (show w.heap.size + 1 ≤ _ from Nat.le_trans hwr ba.size)
      have hS7 := hS5.below hbel7
      have cb7 := cell_below hbel7 cb6
      have cv7 := cell_below hbel7 cv6
      have hl9 : ((nx ++ List.replicate (bl.length - k) 0).map (Value.int .i64)).length = bl.length := by rw [List.length_map, List.length_append, List.length_replicate, HNL.out]; omega
      have HL9 := Lib.hid hl9
      have hk9 : k < ((nx ++ List.replicate (bl.length - k) 0).map (Value.int .i64)).length := by rw [hl9]; exact hkl
      have s9 := H97.out.sl
      have l9 : slen v9 = bl.length := by rw [H97.out.len, hl9]
      have hu8 := HCl7.out.reads
      have su8 := hu8.sl
      have lu8 := hu8.len
      clear hl9 hrd hu8 cb cb6 cv6 hS5 hr2a hb2a c0a hr1a hel5 ba b56 bb hbw
      rcases hz with ⟨rfl, hz⟩ | ⟨j, hj, rfl, hz⟩
      · have HZ := Lib.hid hz
        clear hz
        have hcl7 := HCl7.out
        go_wp2_with (first
          | (at_builtin; refine hAC _ rfl _ _ rfl (w.heap.size + 1) _ u8 cl rfl hcl7 b (bsums bl (qs row) (cnt bl)) g5 (cnt bl) hfr7 hS7 rfl (by omega) hwr7 ?_; intro v8 w8 ho8 hg8 hB8 hk8 sv8
             have h98 := H97.out.keptK hg8 hk8 (by decide)
             have H98 := Lib.hid h98
             have hc9 := h98.cell k hk9
             have hf9 := h98.frozen k hk9
             clear h98))
        have hbg : Below (w.heap.size + 1) w7 w8 := below_of_grown hg8 hwr7 hB8
        have hset := H98.out.set k hk9 (.int .i64 (cl.length : Nat))
        rw [set_next nx k bl.length _ HNL.out hkl] at hset
        have HSET := Lib.hid hset
        have hkd := H98.out.kindAt (by rw [HL9.out]; omega) k
        have hov : ClsRow (w8.setCell (ptr v9 k) (.int .i64 (cl.length : Nat))) 38 166 (w.heap.size + 1) v8 (cl ++ [(b, bsums bl (qs row) (cnt bl))]) :=
          ho8.over (fun e cur fz hh => by have := hkd e cur fz hh; subst this; decide) hc9 (fun z h => by have h6 := List.getElem_mem hk9; rw [h] at h6; obtain ⟨y, _, h7⟩ := List.mem_map.1 h6; cases h7) _
        have HOV := Lib.hid hov
        have HIN : Hid (ClsI bl (fun i => bsums bl (rowsQ c i) (cnt bl)) (k + 1) (nx ++ [((cl.length : Nat) : Int)]) (cl ++ [(b, bsums bl (qs row) (cnt bl))])) := Lib.hid (by
          have := HI.out.fresh HG.out (by show ∀ x ∈ cl, ¬ hits b (bsums bl (rowsQ c k) (cnt bl)) x; rw [HRQ.out]; exact HZ.out)
          simp only [HRQ.out] at this
          exact this)
        clear hset hov hkd
        go_roundw
        case rel => exact ⟨k + 1, _, _, by omega, by go_num, HOV.out, HIN.out, HSET.out.1, (HBR7.out.trans hbg).trans HSET.out.2, by have h1 := hbg.size; have h2 := HSET.out.2.size; omega⟩
        case measure => simp [intOf]; omega
      · have HZ := Lib.hid hz
        clear hz
        have hd : decide (((j : Nat) : Int) < 0) = false := decide_eq_false (by omega)
        have hc9 := H97.out.cell k hk9
        have hf9 := H97.out.frozen k hk9
        go_wp2_with fail
        have hset := H97.out.set k hk9 (.int .i64 (j : Nat))
        rw [set_next nx k bl.length _ HNL.out hkl] at hset
        have HSET := Lib.hid hset
        have hkd := H97.out.kindAt (by rw [HL9.out]; omega) k
        have hov : ClsRow (w7.setCell (ptr v9 k) (.int .i64 (j : Nat))) 38 166 (w.heap.size + 1) u8 cl :=
          HCl7.out.over (fun e cur fz hh => by have := hkd e cur fz hh; subst this; decide) hc9 (fun z h => by have h6 := List.getElem_mem hk9; rw [h] at h6; obtain ⟨y, _, h7⟩ := List.mem_map.1 h6; cases h7) _
        have HOV := Lib.hid hov
        have HIN : Hid (ClsI bl (fun i => bsums bl (rowsQ c i) (cnt bl)) (k + 1) (nx ++ [((j : Nat) : Int)]) cl) := Lib.hid (HI.out.old HG.out hj (by show hits b (bsums bl (rowsQ c k) (cnt bl)) _; rw [HRQ.out]; exact HZ.out))
        clear hset hov hkd
        go_roundw
        case rel => exact ⟨k + 1, _, _, by omega, by go_num, HOV.out, HIN.out, HSET.out.1, HBR7.out.trans HSET.out.2, by have h2 := HSET.out.2.size; omega⟩
        case measure => simp [intOf]; omega
    · obtain rfl : k = bl.length := by omega
      have hu8 := HCl.out.reads
      have su8 := hu8.sl
      have lu8 := hu8.len
      have HNU := Lib.hid HI.out.num
      have HD := Lib.hid (HI.out.done (n := cnt bl) (fun i => bsums_length _ _ _))
      have h9' := H9.out
      rw [Nat.sub_self, List.replicate_zero, List.append_nil] at h9'
      have H99 := Lib.hid h9'
      clear hu8 h9'
      go_wp2_with fail
      go_ret2
      exact ⟨v9, nx, by rw [HNU.out]; rfl, HD.out, H99.out.mono (Nat.le_succ _), (hbx.trans (HBR.out.mono (Nat.le_succ _)))⟩
end Go.Proofs.YtlpdkbmmbdfoiaaGreat
namespace Go.Proofs.YtlpdkbmmbdfoiaaGreat
set_option linter.unusedVariables false
set_option linter.unusedSimpArgs false
open Go.RowKit

def RCoarse (w0 : World) (c : RC) (e : Ending) (w : World) : Prop :=
  (¬ validP c → e = .returned (.tuple #[.slice none 0 0, .int .i64 1])) ∧ (validP c → ∃ v nx, e = .returned (.tuple #[v, .int .i64 0]) ∧ IntsV w v nx ∧ CoarseP c nx) ∧ Below w0.heap.size w0 w
set_option maxRecDepth 100000 in
set_option maxHeartbeats 3200000 in
theorem coarse_bad (va : Value) (c : RC) (w : World) (ha : ChainN w va c) (hv : ¬ validP c) : Calls Tryz.prog 60 #[va] w (RCoarse w c) := by
  obtain ⟨rv, sv, lv, rfl, hr, hs, hl⟩ := id ha
  obtain ⟨ra, rn, rk, rfl, r1, r2, r3⟩ := id hr.sl
  obtain ⟨sa, sn, sk, rfl, s1, s2, s3⟩ := id hs.sl
  obtain ⟨la, ln, lk, rfl, l1, l2, l3⟩ := id (CellsV.sl hl)
  have hbx := below_alloc w (.cells #[.slice ra rn rk, .slice sa sn sk, .slice la ln lk] 28)
  have hC := C3.new w 28 (.slice ra rn rk) (.slice sa sn sk) (.slice la ln lk)
  have HA := Lib.hid (ha.below hbx)
  have HV := Lib.hid hv
  obtain ⟨_, c0, c1, c2, _, _, _⟩ := id hC
  clear hC hr hs hl ha hv
  go_enter Tryz.func60, Tryz.ntmps60
  go_wp2_with (go_at_call 68; (with_reducible refine (valid_chain _ c _ HA.out).mono ?_); rintro e2 w2 ⟨⟨b2, rfl, hv2⟩, hbel2⟩; obtain rfl : b2 = false := Bool.eq_false_iff.2 (fun h => HV.out (hv2.1 h)); clear hv2)
  go_ret2
  exact ⟨fun _ => rfl, fun h => absurd h HV.out, below_then hbx hbel2⟩
theorem lostB_take (c : RC) (k : Nat) (h : k < c.lost.length) : (lostB c).take (k + 1) = (lostB c).take k ++ [if c.lost[k] = c.lost.getD 0 false then 0 else 1] := by
  have hk : k < (lostB c).length := by simp [lostB]; exact h
  rw [take_snoc _ k hk]
  simp [lostB]
theorem lost_same (c : RC) (k : Nat) (h : k < c.lost.length) (he : c.lost[k] = c.lost.getD 0 false) :
    ((lostB c).take k ++ List.replicate (c.lost.length - k) 0).map (Value.int .i64) = ((lostB c).take (k + 1) ++ List.replicate (c.lost.length - (k + 1)) 0).map (Value.int .i64) := by
  rw [lostB_take c k h, if_pos he, show c.lost.length - k = (c.lost.length - (k + 1)) + 1 from by omega, List.replicate_succ, List.append_assoc]
  rfl
theorem lost_diff (c : RC) (k : Nat) (h : k < c.lost.length) (he : c.lost[k] ≠ c.lost.getD 0 false) :
    (((lostB c).take k ++ List.replicate (c.lost.length - k) 0).map (Value.int .i64)).set k (.int .i64 1) = ((lostB c).take (k + 1) ++ List.replicate (c.lost.length - (k + 1)) 0).map (Value.int .i64) := by
  rw [lostB_take c k h, if_neg he]
  exact set_next _ k c.lost.length 1 (by rw [List.length_take]; simp [lostB]; omega) h
set_option maxRecDepth 100000 in
set_option maxHeartbeats 3200000 in
theorem coarse_good (va : Value) (c : RC) (w : World) (ha : ChainN w va c) (hv : validP c) : Calls Tryz.prog 60 #[va] w (RCoarse w c) := by
  obtain ⟨i1, hi1, hz1, hs1, hy1⟩ := info_parts Tryz.infoInt
  have hM1 := make_E (P := Tryz.prog) 29 3 i1 _ 8 Tryz.underlying29 hi1 hz1 hs1 hy1 (by decide) rfl
  clear hi1 hz1 hs1 hy1
  obtain ⟨rv, sv, lv, rfl, hr, hs, hl⟩ := id ha
  obtain ⟨ra, rn, rk, rfl, r1, r2, r3⟩ := id hr.sl
  obtain ⟨sa, sn, sk, rfl, s1, s2, s3⟩ := id hs.sl
  obtain ⟨la, ln, lk, rfl, l1, l2, l3⟩ := id (CellsV.sl hl)
  have hsn : sn = c.lost.length := by have h1 : sn = c.start.length := hs.len; rw [h1]; exact hv.2.2.1.symm
  subst hsn
  have hln : ln = c.lost.length := hl.len
  subst hln
  have hn1 : 0 < c.lost.length := by have h1 := hv.1; have h2 := hv.2.2.1; omega
  have hn2 : c.lost.length ≤ 128 := by have h1 := hv.2.1; have h2 := hv.2.2.1; omega
  have hbx := below_alloc w (.cells #[.slice ra rn rk, .slice sa c.lost.length sk, .slice la c.lost.length lk] 28)
  have hC := C3.new w 28 (.slice ra rn rk) (.slice sa c.lost.length sk) (.slice la c.lost.length lk)
  have HA := Lib.hid (ha.below hbx)
  have hl2 := hl.below hbx
  have HV := Lib.hid hv
  have HLS : Hid (c.lost.length = c.start.length) := Lib.hid hv.2.2.1
  have HC := Lib.hid hC
  obtain ⟨_, c0, c1, c2, _, _, _⟩ := id hC
  have sl3 : IsSl (.slice la c.lost.length lk) := CellsV.sl hl
  clear hC hr hs hl ha hv
  go_enter Tryz.func60, Tryz.ntmps60
  go_wp2_with (first
    | (go_at_call 68; (with_reducible refine (valid_chain _ c _ HA.out).mono ?_); rintro e2 w2 ⟨⟨b2, rfl, hv2⟩, hbel2⟩; obtain rfl : b2 = true := hv2.2 HV.out; clear hv2
       obtain ⟨_, c0, c1, c2, _, _, _⟩ := HC.out.belowS hbel2)
    | (refine hM1 _ rfl _ _ rfl c.lost.length rfl rfl (by omega) ?_; intro v4 w4 hown4 hbel4; have s4 := hown4.sl; have l4 : slen v4 = c.lost.length := by rw [hown4.len, List.length_replicate]))
  have hB4 := below_then hbel2 hbel4
  go_loopw [19] (fun u19 wr => ∃ (k : Nat), k ≤ c.lost.length ∧ u19 = .int .i64 k ∧ OwnE wr 3 w2.heap.size v4 (((lostB c).take k ++ List.replicate (c.lost.length - k) 0).map (Value.int .i64)) ∧ Below w2.heap.size w2 wr) (fun u19 _ => c.lost.length - (intOf u19).toNat)
  case atStart => exact ⟨0, Nat.zero_le _, rfl, by rw [List.take_zero, List.nil_append, List.map_replicate]; exact hown4, hbel4⟩
  case round =>
    obtain ⟨k, hk, rfl, ho, hbr⟩ := hrel
    have hbr2 := below_then hbel2 hbr
    have HO := Lib.hid ho
    obtain ⟨_, c0, c1, c2, _, _, _⟩ := HC.out.belowS hbr2
    by_cases hkl : k < c.lost.length
    · have hlk := (hl2.below hbr2).at' k hkl
      have hl0 := (hl2.below hbr2).at' 0 hn1
      have HE := Lib.hid (lost_same c k hkl)
      have HD := Lib.hid (lost_diff c k hkl)
      have HG0 : Hid (c.lost.getD 0 false = c.lost[0]'hn1) := Lib.hid (by simp [List.getD, List.getElem?_eq_getElem hn1])
      have hk9 : k < (((lostB c).take k ++ List.replicate (c.lost.length - k) 0).map (Value.int .i64)).length := by rw [List.length_map, List.length_append, List.length_replicate, List.length_take]; simp [lostB]; omega
      have hc9 := ho.cell k hk9
      have hf9 := ho.frozen k hk9
      have HK9 := Lib.hid hk9
      generalize hm1 : c.lost[k]'hkl = m1 at *
      generalize hm2 : c.lost[0]'hn1 = m2 at *
      have HM1 := Lib.hid hm1
      have HM2 := Lib.hid hm2
      have i1 : (0 : Int) ≤ (k : Int) := by omega
      have i2 : (k : Int) < (c.lost.length : Nat) := by omega
      have i3 : (0 : Int) < (c.lost.length : Nat) := by omega
      clear hm1 hm2 ho
      by_cases hmm : m1 = m2
      · have hb : (m1 != m2) = false := by simp [hmm]
        have hbq : (m1 == m2) = true := by simp [hmm]
        have HMM := Lib.hid hmm
        clear hmm
        go_wp2_with fail
        go_quiet (fail)
        have hbd := below_then hbr (below_drewN (B := wr.heap.size) wr nq)
        have HO2 : Hid (OwnE (wr.drewN nq) 3 w2.heap.size v4 (((lostB c).take (k + 1) ++ List.replicate (c.lost.length - (k + 1)) 0).map (Value.int .i64))) := Lib.hid (by
          rw [← HE.out (by rw [HMM.out, HG0.out])]; exact HO.out.below (below_drewN wr nq))
        clear hc9 hf9
        go_wp2_with fail
        go_roundw
        case rel => exact ⟨k + 1, by omega, by go_num, HO2.out, hbd⟩
        case measure => simp [intOf]; omega
      · have hb : (m1 != m2) = true := by simpa using hmm
        have hbq : (m1 == m2) = false := by simpa using hmm
        have HMM := Lib.hid hmm
        clear hmm
        go_wp2_with fail
        go_quiet (fail)
        have hbd := below_then hbr (below_drewN (B := wr.heap.size) wr nq)
        have hcD := cell_below (below_drewN (B := wr.heap.size) wr nq) hc9
        have hfD : (wr.drewN nq).frozen? (ptr v4 k) = false := ((HO.out.below (below_drewN wr nq)).frozen k HK9.out)
        clear hc9 hf9
        go_wp2_with fail
        have hset := (HO.out.below (below_drewN wr nq)).set k HK9.out (.int .i64 1)
        rw [HD.out (by rw [HG0.out]; exact HMM.out)] at hset
        have HSET := Lib.hid hset
        clear hset
        go_roundw
        case rel => exact ⟨k + 1, by omega, by go_num, HSET.out.1, hbd.trans HSET.out.2⟩
        case measure => simp [intOf]; omega
    · obtain rfl : k = c.lost.length := by omega
      have ho2 := ho
      rw [Nat.sub_self, List.replicate_zero, List.append_nil, List.take_of_length_le (by simp [lostB])] at ho2
      have HI0 : Hid (IntsV wr v4 (lostB c)) := Lib.hid ⟨ho2.sl, ho2.len, fun j hj => ho2.cell j hj⟩
      have HA2 := Lib.hid (HA.out.below hbr2)
      have hb3 := below_then hbx hbr2
      clear ho ho2 hown4 HO c0 c1 c2
      go_wp2_with fail
      go_loopg [4] (c.lost.length - cnt (lostB c)) (fun g u4 wi => ∃ bl, Refs c bl ∧ IntsV wi u4 bl ∧ g = c.lost.length - cnt bl ∧ Below wr.heap.size wr wi)
      case atStart => exact ⟨lostB c, Refs.zero, HI0.out, rfl, Below.refl _ _⟩
      case round =>
        obtain ⟨bl, hRf, hIn, hg, hbi⟩ := hrel
        obtain ⟨hok, hbl⟩ := hRf.ok hn1
        have HRF := Lib.hid hRf
        have HOK := Lib.hid hok
        have HIN := Lib.hid hIn
        have HBL := Lib.hid hbl
        have hcb : cnt bl ≤ c.lost.length := by have := cnt_le bl bl.length; rw [List.take_length] at this; omega
        have hp0 : 0 < bl.length := by omega
        have hbi2 := below_then hbr2 hbi
        obtain ⟨_, c0, c1, c2, _, _, _⟩ := HC.out.belowS hbi2
        clear hRf hok hIn hbl
        go_wp2_with (first
          | (go_at_call 65; (with_reducible refine (count_any _ bl _ HIN.out).mono ?_); rintro e5 w5 ⟨n5, b5, rfl, rfl, hc5, _⟩; obtain ⟨hn5, hb5⟩ := hc5 HOK.out; subst hn5; clear hc5 hb5)
          | (go_at_call 139; (with_reducible refine (split_any _ _ c bl _ _ (HA2.out.below hbi) HIN.out HOK.out (by rw [HBL.out]; exact HLS.out) HV.out rfl).mono ?_); rintro e6 w6 ⟨v6, nx, rfl, hsp, ho6, hbel6⟩
             have hle := hsp.cnt_le HOK.out
             have HSP := Lib.hid hsp
             have HIX : Hid (IntsV w6 v6 nx) := Lib.hid ⟨ho6.sl, ho6.len, fun j hj => ho6.cell j hj⟩
             clear hsp ho6))
        · rename_i heq
          have heq2 : cnt nx = cnt bl := by have := eq_of_beq heq; omega
          have HEQ := Lib.hid heq2
          clear heq heq2
          go_ret2
          exact ⟨fun h => absurd HV.out h, fun _ => ⟨v6, nx, rfl, HIX.out, bl, HRF.out, HSP.out, HEQ.out⟩, below_then (below_then hb3 hbi) hbel6⟩
        · rename_i heq
          have heq2 : cnt nx ≠ cnt bl := fun h => by rw [h] at heq; simp at heq
          have hcn : cnt nx ≤ c.lost.length := by
            have h1 := cnt_le nx nx.length
            rw [List.take_length] at h1
            have h2 := HSP.out.2.1
            have h3 := HBL.out
            omega
          have HNE := Lib.hid heq2
          clear heq
          go_roundg (c.lost.length - cnt nx)
          case measure => omega
          case rel => exact ⟨nx, Refs.step HRF.out HSP.out, HIX.out, rfl, below_then hbi hbel6⟩
theorem coarse_any (va : Value) (c : RC) (w : World) (ha : ChainN w va c) : Calls Tryz.prog 60 #[va] w (RCoarse w c) := by
  by_cases h : validP c
  · exact coarse_good va c w ha h
  · exact coarse_bad va c w ha h
end Go.Proofs.YtlpdkbmmbdfoiaaGreat
namespace Go.Proofs.YtlpdkbmmbdfoiaaGreat
set_option linter.unusedVariables false
set_option linter.unusedSimpArgs false
open Go.RowKit

/-- The result of numbered is the caller's own. -/
def RNum (w0 : World) (l : List Int) (e : Ending) (w : World) : Prop :=
  ∃ v L, e = .returned v ∧ OwnE w 3 w0.heap.size v (List.map (Value.int .i64) L) ∧ L.length = l.length ∧ (okB l → L = l) ∧ Below w0.heap.size w0 w
set_option maxRecDepth 100000 in
set_option maxHeartbeats 3200000 in
theorem num_any (va : Value) (l : List Int) (w : World) (ha : IntsV w va l) (hl : l.length ≤ 128) : Calls Tryz.prog 63 #[va] w (RNum w l) := by
  obtain ⟨i1, hi1, hz1, hs1, hy1⟩ := info_parts Tryz.infoInt
  have hM1 := make_E (P := Tryz.prog) 29 3 i1 _ 8 Tryz.underlying29 hi1 hz1 hs1 hy1 (by decide) rfl
  clear hi1 hz1 hs1 hy1
  obtain ⟨aa, an, ak, rfl, _⟩ := id (CellsV.sl ha)
  have han : an = l.length := ha.len
  subst han
  have sa : IsSl (.slice aa l.length ak) := CellsV.sl ha
  go_enter Tryz.func63, Tryz.ntmps63
  go_wp2_with (refine hM1 _ rfl _ _ rfl l.length rfl rfl (by omega) ?_; intro v3 w3 hown3 hbel3; have s3 := hown3.sl; have l3 : slen v3 = l.length := by rw [hown3.len, List.length_replicate])
  go_loopw [4, 5] (fun u4 u5 wr => ∃ (k m : Nat) (es : List Int), k ≤ l.length ∧ u4 = .int .i64 m ∧ u5 = .int .i64 k ∧ OwnE wr 3 w.heap.size v3 (es.map (Value.int .i64)) ∧ NumI l k m es ∧ Below w.heap.size w wr) (fun _ u5 _ => l.length - (intOf u5).toNat)
  case atStart => exact ⟨0, 0, _, Nat.zero_le _, rfl, rfl, by rw [List.map_replicate]; exact hown3, NumI.zero l, hbel3⟩
  case round =>
    obtain ⟨k, m, es, hk, rfl, rfl, ho, hN, hbr⟩ := hrel
    have HO := Lib.hid ho
    have HN := Lib.hid hN
    by_cases hkl : k < l.length
    · have hk9 : k < (es.map (Value.int .i64)).length := by rw [List.length_map, hN.len]; exact hkl
      obtain ⟨e0, hc9⟩ : ∃ e0, wr.cell? (ptr v3 k) = some e0 := ⟨_, ho.cell k hk9⟩
      have hf9 := ho.frozen k hk9
      have hset := ho.set k hk9 (.int .i64 (-1))
      rw [← List.map_set] at hset
      have hJ := hN.mark hkl
      have i1 : (0 : Int) ≤ (k : Int) := by omega
      have i2 : (k : Int) < (l.length : Nat) := by omega
      have HSET := Lib.hid hset
      have HJ := Lib.hid hJ
      have hm1 := hN.le
      clear ho hN hset hJ hk9 HO HN
      go_wp2_with fail
      go_loopw [6] (fun u6 wi => ∃ (t : Nat) (es2 : List Int), t ≤ k ∧ u6 = .int .i64 t ∧ OwnE wi 3 w.heap.size v3 (es2.map (Value.int .i64)) ∧ NumJ l k m t es2 ∧ Below w.heap.size w wi) (fun u6 _ => k - (intOf u6).toNat)
      case atStart => exact ⟨0, _, Nat.zero_le _, rfl, HSET.out.1, HJ.out, hbr.trans HSET.out.2⟩
      case round =>
        obtain ⟨t, es2, ht, rfl, ho, hJ2, hbi⟩ := hrel
        have HO := Lib.hid ho
        have HJ2 := Lib.hid hJ2
        by_cases htk : t < k
        · have hat := (ha.below hbi).at' t (by omega)
          have hak := (ha.below hbi).at' k hkl
          have HQ : Hid (l[t]? = l[k]? ↔ l[t]'(by omega) = l[k]'hkl) := Lib.hid (by rw [List.getElem?_eq_getElem hkl, List.getElem?_eq_getElem (show t < l.length by omega)]; simp)
          generalize hxt : l[t]'(by omega) = xt at *
          generalize hxk : l[k]'hkl = xk at *
          have i3 : (0 : Int) ≤ (t : Int) := by omega
          have i4 : (t : Int) < (l.length : Nat) := by omega
          have i5 : (t : Int) < (k : Nat) := by omega
          clear hxt hxk
          have ht9 : t < (es2.map (Value.int .i64)).length := by rw [List.length_map, hJ2.i.len]; omega
          have hk9 : k < (es2.map (Value.int .i64)).length := by rw [List.length_map, hJ2.i.len]; omega
          have HK9 := Lib.hid hk9
          have hct := ho.cell t ht9
          obtain ⟨e1, hck⟩ : ∃ e1, wr.cell? (ptr v3 k) = some e1 := ⟨_, ho.cell k hk9⟩
          have hfk := ho.frozen k hk9
          have htl : t < es2.length := by simpa using ht9
          have HG := Lib.hid (List.getElem?_eq_getElem htl)
          simp only [List.getElem_map] at hct
          generalize es2[t]'htl = y at *
          by_cases hxx : xt = xk
          · have hbq : (xt == xk) = true := by simp [hxx]
            have HJ3 := Lib.hid (hJ2.hit htk (HQ.out.2 hxx) HG.out)
            clear hxx ho hJ2 ht9 hk9
            go_wp2_with fail
            go_quiet (fail)
            have hbN := below_drewN (B := wr.heap.size) wr nq
            have HOD := Lib.hid (HO.out.below hbN)
            have HBD := Lib.hid (below_then hbi hbN)
            have hctD := cell_below hbN hct
            have hfkD := HOD.out.frozen k HK9.out
            have hckD := cell_below hbN hck
            clear hct hck hfk
            go_wp2_with fail
            have hset := HOD.out.set k HK9.out (.int .i64 y)
            rw [← List.map_set] at hset
            have HSET := Lib.hid hset
            clear hset
            go_roundw
            case rel => exact ⟨t + 1, _, by omega, by go_num, HSET.out.1, HJ3.out, HBD.out.trans HSET.out.2⟩
            case measure => simp [intOf]; omega
          · have hbq : (xt == xk) = false := by simpa using hxx
            have HJ3 := Lib.hid (hJ2.miss (fun h => hxx (HQ.out.1 h)))
            clear hxx ho hJ2 ht9 hk9
            go_wp2_with fail
            go_quiet (fail)
            have hbN := below_drewN (B := wr.heap.size) wr nq
            have HOD := Lib.hid (HO.out.below hbN)
            have HBD := Lib.hid (below_then hbi hbN)
            clear hct hck hfk
            go_wp2_with fail
            go_roundw
            case rel => exact ⟨t + 1, _, by omega, by go_num, HOD.out, HJ3.out, HBD.out⟩
            case measure => simp [intOf]; omega
        · obtain rfl : t = k := by omega
          have hk9 : t < (es2.map (Value.int .i64)).length := by rw [List.length_map, hJ2.i.len]; omega
          have HK9 := Lib.hid hk9
          have hck := ho.cell t hk9
          have hfk := ho.frozen t hk9
          have htl : t < es2.length := by simpa using hk9
          have HG := Lib.hid (List.getElem?_eq_getElem htl)
          simp only [List.getElem_map] at hck
          generalize es2[t]'htl = z at *
          have hbw := hbi
          by_cases hz : z < 0
          · have HNI := Lib.hid (hJ2.neg HG.out hz)
            clear ho hJ2 hk9
            go_wp2_with fail
            have hset := HO.out.set t HK9.out (.int .i64 m)
            rw [← List.map_set] at hset
            have HSET := Lib.hid hset
            clear hset
            go_roundw
            case rel => exact ⟨t + 1, m + 1, _, by omega, by go_num, by go_num, HSET.out.1, HNI.out, hbi.trans HSET.out.2⟩
            case measure => simp [intOf]; omega
          · have HNI := Lib.hid (hJ2.pos HG.out hz)
            clear ho hJ2 hk9
            go_wp2_with fail
            go_roundw
            case rel => exact ⟨t + 1, m, _, by omega, rfl, by go_num, HO.out, HNI.out, hbi⟩
            case measure => simp [intOf]; omega
    · obtain rfl : k = l.length := by omega
      go_wp2_with fail
      go_ret
      exact ⟨v3, es, rfl, HO.out, HN.out.len, fun h => HN.out.done h, hbr⟩
end Go.Proofs.YtlpdkbmmbdfoiaaGreat
