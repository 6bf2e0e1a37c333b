/-
  LinearInverse: for every input the law returns true, and the input reads as it did. No condition.
  Ahead of it: package linear: Identity. package linear: Invert. Lifting a law: what came in reads as it did in every later world that only adds to the first; small integers that came in. No law is named here. LinearInverse: the law function returns true.
-/
import Derived.Test.YtbhkibilnmoljaaQLi16
import Derived.Test.YtbhkibilnmoljaaQBx
import Derived.Test.YtbhkibilnmoljaaRows
import Derived.WalkKit
import Derived.ProofKit
import Derived.OpenShut
import Derived.ChangeSlices
namespace Go.Proofs.Ytbhkibilnmoljaa
set_option linter.unusedVariables false
set_option linter.unusedSimpArgs false
open Go.RowKit

theorem kc2 {X Y : World} {a1 a2 : Addr} {x1 x2 : Value} (h : X.cell? a1 = some x1 ∧ X.cell? a2 = some x2) (hb : Below X.heap.size X Y) : Y.cell? a1 = some x1 ∧ Y.cell? a2 = some x2 := ⟨cell_below hb h.1, cell_below hb h.2⟩
set_option maxRecDepth 100000 in
set_option maxHeartbeats 3200000 in
theorem ident_lin (n : Nat) (w : World) (hn1 : 1 ≤ n) (hn : n ≤ 24) :
    Calls Try.prog 29 #[.int .i64 n] w fun e w' => ∃ v, e = .returned (.tuple #[v, .int .i64 0]) ∧ MatF w' v n n oneM ∧ Below w.heap.size w w' := by
  obtain ⟨i0, hi, hz0, hz1, hz2⟩ := info_parts Try.infoF
  have hM := make_fr (P := Try.prog) 26 30 i0 Try.underlying26 hi hz0 hz1 (by rw [hz2]; decide)
  clear hi hz0 hz1 hz2
  obtain ⟨i4, hi4, hz4, hs4, hy4⟩ := info_parts Try.infoRow
  have hMR := make_rows (P := Try.prog) 24 26 i4 Try.underlying24 hi4 hz4 hs4 hy4
  clear hi4 hz4 hs4 hy4
  go_enter Try.func29, Try.ntmps29
  go_wp2_with (refine hMR w rfl _ _ rfl w.heap.size _ n rfl rfl rfl (by omega) (Nat.le_refl _) ?_; intro vO w6 hO6 hb6
               have HO6 := Lib.hid hO6
               have HB6 := Lib.hid hb6
               have slO := hO6.sl
               have lnO := hO6.len
               clear hO6 hb6)
  clear hMR
  go_loopg [17] (n) (fun g u17 wr => ∃ (i : Nat) (rs : List Value), i ≤ n ∧ g = n - i ∧ u17 = .int .i64 i ∧ RowsM wr w.heap.size vO rs n i (fun i => rowL n (oneM i)) ∧ Below w.heap.size w wr)
  case atStart => exact ⟨0, _, Nat.zero_le _, rfl, rfl, RowsM.start HO6.out, HB6.out⟩
  case round =>
    obtain ⟨i, rs, hin, hg, rfl, hR, hbr⟩ := hrel
    obtain ⟨w2, hw2⟩ : ∃ w2, w2 = wr := ⟨_, rfl⟩
    subst hw2
    have HG := Lib.hid hg
    have HR := Lib.hid hR
    have HBR := Lib.hid hbr
    have hBsz : w.heap.size ≤ w2.heap.size := hbr.size
    clear hg HO6 HB6 hbr
    by_cases hil : i < n
    · have hir : i < rs.length := by rw [hR.rl]; exact hil
      have i1 : (0 : Int) ≤ (i : Int) := by omega
      have i2 : (i : Int) < (n : Nat) := by omega
      clear hR
      go_wp2_with (refine hM w2 rfl _ _ rfl w2.heap.size _ n rfl rfl rfl (by omega) (Nat.le_refl _) ?_; intro vI w6 hO6 hb6 hv6
                   obtain ⟨gI, _, rfl, _⟩ := id hO6
                   have slI := hO6.sl
                   have lnI := hO6.len
                   have hR6 := HR.out.below hb6
                   have c6 := hR6.own.cell i hir
                   have f6 := hR6.own.frozen i hir)
      have hPut := hR6.put i hil (Nat.le_refl _) (u := .slice (some ⟨gI, 0, none⟩) n n) (fun z => by simp)
      have hlt2 := HR.out.vblock (by omega)
      have hpO : (ptr vO i).block = (base vO).block := ptr_block _ _
      have hgI : w2.heap.size ≤ gI := hO6.block.1
      have hOS := hO6.overM (p := ptr vO i) (by rw [hpO]; have : (base (.slice (some ⟨gI, 0, none⟩) n n)).block = gI := rfl; omega) (.slice (some ⟨gI, 0, none⟩) n n)
      have HPUT := Lib.hid hPut
      have HOS := Lib.hid hOS
      have hBS := HBR.out.trans ((hb6.mono hBsz).trans hPut.2)
      have HBS := Lib.hid hBS
      have HLOW := Lib.hid (HR.out.low hn1 hgI (.slice (some ⟨gI, 0, none⟩) n n))
      clear hPut hOS hBS hR6 c6 f6 hO6 hb6 hv6
      go_loopg [30] (n) (fun g u30 wr => ∃ (k : Nat), k ≤ n ∧ g = n - k ∧ u30 = .int .i64 k ∧ OwnFr wr 30 w2.heap.size (.slice (some ⟨gI, 0, none⟩) n n) n ∧ (∀ j, j < k → ElemC wr (.slice (some ⟨gI, 0, none⟩) n n) j 0) ∧ RowsM wr w.heap.size vO (rs.set i (.slice (some ⟨gI, 0, none⟩) n n)) n i (fun i => rowL n (oneM i)) ∧ Below w.heap.size w wr)
      case atStart => exact ⟨0, Nat.zero_le _, rfl, rfl, HOS.out, fun j h => by omega, HPUT.out.1, HBS.out⟩
      case round =>
        obtain ⟨k, hkc, hg, rfl, ho, he, hR, hbr⟩ := hrel
        obtain ⟨w3, hw3⟩ : ∃ w3, w3 = wr := ⟨_, rfl⟩
        subst hw3
        have HG2 := Lib.hid hg
        have HE := Lib.hid he
        have HO := Lib.hid ho
        have HR2 := Lib.hid hR
        have HBR2 := Lib.hid hbr
        have hsz3 : gI < w3.heap.size := ho.block.2
        have hirs : i < (rs.set i (.slice (some ⟨gI, 0, none⟩) n n)).length := by rw [List.length_set]; exact hir
        have cO := hR.own.cell i hirs
        rw [List.getElem_set_self] at cO
        have hbI : (base (.slice (some ⟨gI, 0, none⟩) n n)).block = gI := rfl
        have hbO : (base (.slice (some ⟨gI, 0, none⟩) n n)).block ≠ (base vO).block := by rw [hbI]; omega
        have hbO2 : (ptr vO i).block ≠ (base (.slice (some ⟨gI, 0, none⟩) n n)).block := by rw [hpO, hbI]; omega
        clear hg he HOS HPUT HBS ho hR hbr
        by_cases hkl : k < n
        · have hatn := hkl
          have j1 : (0 : Int) ≤ (k : Int) := by omega
          have j2 : (k : Int) < (n : Nat) := by omega
          go_wp2_with fail
          go_region_held3 (fun w' => w'.cell? (ptr vO i) = some (.slice (some ⟨gI, 0, none⟩) n n) ∧ w'.cell? (ptr vO i) = some (.slice (some ⟨gI, 0, none⟩) n n)) (first
            | exact ⟨cO, cO⟩
            | with_reducible exact kc2 (by assumption) (by assumption)
            | with_reducible exact HK18.out
            | exact HK18.out) (first
            | (go_at_call 45; (with_reducible refine (lnumber_zero _).mono ?_); rintro e31 w31 ⟨v31, rfl, hv31, hb31⟩
               obtain ⟨t6, x31, y31, rfl, ⟨a61, l61, k61, rfl, _⟩, ⟨a62, l62, k62, rfl, _⟩⟩ := hv31.isF
               have hb6 : Below w3.heap.size w3 w31 := (by first | exact below_then (below_drew _) hb31 | exact hb31)
               have ho3 := HO.out.below hb6
               have hR3 := HR2.out.below hb6
               have cO1 := hR3.own.cell i hirs
               rw [List.getElem_set_self] at cO1
               obtain ⟨c0, d0, _⟩ := ho3.cell (k * 3) (by omega)
               obtain ⟨c1, d1, _⟩ := ho3.cell (k * 3 + 1) (by omega)
               obtain ⟨c2, d2, _⟩ := ho3.cell (k * 3 + 2) (by omega)
               have f0 := ho3.frozen (k * 3)
               have f1 := ho3.frozen (k * 3 + 1)
               have f2 := ho3.frozen (k * 3 + 2)
               have n01 := ho3.inj (show k * 3 ≠ k * 3 + 1 by omega)
               have n02 := ho3.inj (show k * 3 ≠ k * 3 + 2 by omega)
               have n12 := ho3.inj (show k * 3 + 1 ≠ k * 3 + 2 by omega)
               have HS3 := Lib.hid (ho3.set3 k (.bool t6) (.slice a61 l61 k61) (.slice a62 l62 k62) (fun z => by simp) (fun z => by simp) (fun z => by simp))
               have HR4 := Lib.hid (hR3.set3 ho3 hbO HLOW.out k hatn (.bool t6) (.slice a61 l61 k61) (.slice a62 l62 k62) (fun z => by simp) (fun z => by simp))
               have HE3 := Lib.hid (fun j hj => (HE.out j hj).below hb6)
               have HO3 := Lib.hid ho3
               have HV6 := Lib.hid hv31
               have HB3 := Lib.hid (below_then2 HBR2.out hb6 HBR2.out.size)
               have HK18 := Lib.hid (And.intro (set3_cell (w := w31) (k := k * 3) hbO2 (.bool t6) (.slice a61 l61 k61) (.slice a62 l62 k62) cO1) (set3_cell (w := w31) (k := k * 3) hbO2 (.bool t6) (.slice a61 l61 k61) (.slice a62 l62 k62) cO1))
               clear ho3 hR3)
            )
          go_wp2_with fail
          go_roundg (n - (k + 1))
          case measure => (have := HG2.out; omega)
          case rel =>
            refine ⟨k + 1, by omega, rfl, by go_num, HS3.out.1, fun j hj => ?_, HR4.out, HB3.out.trans (HS3.out.2.mono hBsz)⟩
            rcases Nat.lt_or_ge j k with h6 | h6
            · exact ElemC.set3_other HO3.out hkl (by omega) (HE3.out j h6) _ _ _ (fun z => by simp) (fun z => by simp)
            · obtain rfl : j = k := by omega
              exact ElemC.set3 HO3.out hkl HV6.out
        · obtain rfl : k = n := by omega
          have hatn := hil
          go_wp2_with fail
          go_region_held3 (fun w' => w'.cell? (ptr vO i) = some (.slice (some ⟨gI, 0, none⟩) k k) ∧ w'.cell? (ptr vO i) = some (.slice (some ⟨gI, 0, none⟩) k k)) (first
            | exact ⟨cO, cO⟩
            | with_reducible exact kc2 (by assumption) (by assumption)
            | with_reducible exact HK18.out
            | exact HK18.out) (first
            | (go_at_call 45; (with_reducible refine (lnumber_one _).mono ?_); rintro e31 w31 ⟨v31, rfl, hv31, hb31⟩
               obtain ⟨t6, x31, y31, rfl, ⟨a61, l61, k61, rfl, _⟩, ⟨a62, l62, k62, rfl, _⟩⟩ := hv31.isF
               have hb6 : Below w3.heap.size w3 w31 := (by first | exact below_then (below_drew _) hb31 | exact hb31)
               have ho3 := HO.out.below hb6
               have hR3 := HR2.out.below hb6
               have cO1 := hR3.own.cell i hirs
               rw [List.getElem_set_self] at cO1
               obtain ⟨c0, d0, _⟩ := ho3.cell (i * 3) (by omega)
               obtain ⟨c1, d1, _⟩ := ho3.cell (i * 3 + 1) (by omega)
               obtain ⟨c2, d2, _⟩ := ho3.cell (i * 3 + 2) (by omega)
               have f0 := ho3.frozen (i * 3)
               have f1 := ho3.frozen (i * 3 + 1)
               have f2 := ho3.frozen (i * 3 + 2)
               have n01 := ho3.inj (show i * 3 ≠ i * 3 + 1 by omega)
               have n02 := ho3.inj (show i * 3 ≠ i * 3 + 2 by omega)
               have n12 := ho3.inj (show i * 3 + 1 ≠ i * 3 + 2 by omega)
               have HS3 := Lib.hid (ho3.set3 i (.bool t6) (.slice a61 l61 k61) (.slice a62 l62 k62) (fun z => by simp) (fun z => by simp) (fun z => by simp))
               have HR4 := Lib.hid (hR3.set3 ho3 hbO HLOW.out i hatn (.bool t6) (.slice a61 l61 k61) (.slice a62 l62 k62) (fun z => by simp) (fun z => by simp))
               have HE3 := Lib.hid (fun j hj => (HE.out j hj).below hb6)
               have HO3 := Lib.hid ho3
               have HV6 := Lib.hid hv31
               have HB3 := Lib.hid (below_then2 HBR2.out hb6 HBR2.out.size)
               have HK18 := Lib.hid (And.intro (set3_cell (w := w31) (k := i * 3) hbO2 (.bool t6) (.slice a61 l61 k61) (.slice a62 l62 k62) cO1) (set3_cell (w := w31) (k := i * 3) hbO2 (.bool t6) (.slice a61 l61 k61) (.slice a62 l62 k62) cO1))
               clear ho3 hR3)
            )
          go_wp2_with fail
          go_roundg (k - (i + 1))
          case measure => (have := HG.out; omega)
          case rel =>
            refine ⟨i + 1, _, by omega, rfl, by go_num, HR4.out.done hirs ?_ (by rw [List.getElem_set_self]; exact hbO), HB3.out.trans (HS3.out.2.mono hBsz)⟩
            rw [List.getElem_set_self]
            refine HS3.out.1.fracs (rowL_length _ _) (fun j hj => ?_)
            rw [rowL_length] at hj
            rw [rowL_get]
            unfold oneM
            by_cases h6 : i = j
            · subst h6
              rw [if_pos rfl]
              exact ElemC.set3 HO3.out hil HV6.out
            · rw [if_neg h6]
              exact ElemC.set3_other HO3.out hil h6 (HE3.out j hj) _ _ _ (fun z => by simp) (fun z => by simp)
    · obtain rfl : i = n := by omega
      go_wp2_with fail
      go_ret2
      exact ⟨_, rfl, hR.mat, HBR.out⟩
end Go.Proofs.Ytbhkibilnmoljaa
namespace Go.Proofs.Ytbhkibilnmoljaa
set_option linter.unusedVariables false
set_option linter.unusedSimpArgs false
open Go.RowKit

set_option maxRecDepth 100000 in
set_option maxHeartbeats 3200000 in
theorem invert_lin (va : Value) (n : Nat) (A : Mx) (w : World) (ha : MatF w va n n A) (hn1 : 1 ≤ n) (hn : n ≤ 24) (hf : fitM n n A) (hw : wtF n n A ≤ 1900)
    (hX : slimE false n (n + n) n (besideM n A oneM)) (hq : ∀ i, i < n → (elim false n (besideM n A oneM) n).r = n → (elim false n (besideM n A oneM) n).A i i ≠ 0 ∧ ∀ j, j < n → fits (invM n A i j)) :
    Calls Try.prog 31 #[va] w (RRight w n n (elim false n (besideM n A oneM) n)) := by
  have HF := Lib.hid hf
  have HX := Lib.hid hX
  have HQ : Hid (∀ i, i < n → (elim false n (besideM n A oneM) n).r = n → (elim false n (besideM n A oneM) n).A i i ≠ 0 ∧ ∀ j, j < n → fits ((elim false n (besideM n A oneM) n).A i (n + j) / (elim false n (besideM n A oneM) n).A i i)) := Lib.hid hq
  have hwi : (wtF n n A : Int) ≤ 1900 := by omega
  obtain ⟨W1, hW1⟩ : ∃ W, wtF n n A = W := ⟨_, rfl⟩
  rw [hW1] at hwi
  have HW1 := Lib.hid hW1
  have sa := ha.sl
  have la := ha.len
  have HA := Lib.hid ha
  clear hW1 ha hf hX hq hw
  go_enter Try.func31, Try.ntmps31
  go_wp2_with (first
    | (go_at_call 44; (with_reducible refine (square_lin va n n A _ HA.out hn1 hn hn1 hn HF.out rfl).mono ?_); rintro e1 w1 ⟨rfl, hb1⟩)
    | (go_at_call 34; (with_reducible refine (weight_lin va n n A _ (HA.out.below hb1) hn hn HF.out).mono ?_); rw [HW1.out]; rintro e3 w3 ⟨rfl, hb3⟩
       have hB3 := below_then hb1 hb3)
    | (go_at_call 29; (with_reducible refine (ident_lin n _ hn1 hn).mono ?_); rintro e4 w4 ⟨v4, rfl, hm4, hb4⟩
       have hB4 := below_then hB3 hb4
       have hA4 := HA.out.below hB4
       obtain ⟨l1, l2, l3, rfl, hl3⟩ := id hm4.sl
       have hl1 : ∃ bd, l1 = some bd := (by
         cases l1 with
         | none => exfalso; have h1 := hm4.len; have h2 := hl3.2.2 rfl; have h3 : l2 = n := h1; omega
         | some bd => exact ⟨bd, rfl⟩)
       obtain ⟨bd, rfl⟩ := hl1)
    | (go_at_call 48; (with_reducible refine (right_lin va bd l2 l3 n n A oneM _ hA4 hm4 hn1 hn hn1 hn HX.out HQ.out).mono ?_); rintro e7 w7 ⟨v7, er7, rfl, hb7, hs7, ht7⟩))
  go_ret2
  exact ⟨_, _, rfl, below_then hB4 hb7, hs7, ht7⟩
end Go.Proofs.Ytbhkibilnmoljaa
namespace Go.Proofs.Ytbhkibilnmoljaa
open Go.ChangeShapes Go.WideShapes Go.ChangeAt Go.RowKit
set_option linter.unusedVariables false
set_option linter.unusedSimpArgs false

theorem Try.cellsI8 : Try.prog.cellsOf 37 = 1 := by kernel_rfl
section
variable {H : Type} {enc : TypeId × Value → H} {P : Program}
theorem trodAll_stays (hl : laidOutB P = true) {W W' : World} (hb : Below W.heap.size W W') : ∀ {ts : List TypeId} {vs : List Value} {ds : List (DataW H)} {ps : List MemPlace}, (ts.all fun t => P.readableRec t && decide (t < P.types.size)) = true →
    DataW.TrodAll enc P W 0 (fun _ => true) true ts vs ds ps → (∀ x ∈ ps, x.block < W.heap.size) → DataW.TrodAll enc P W' 0 (fun b => decide (b < W.heap.size)) true ts vs ds ps
  | [], vs, ds, ps, _, h, _ => by
    obtain ⟨rfl, rfl, rfl⟩ := trodAll_nil h
    exact trodAll_mk0
  | t :: ts, vs, ds, ps, hr, h, hlt => by
    obtain ⟨v, vs', d, ds', p, q, rfl, rfl, rfl, h1, h2⟩ := trodAll_cons h
    simp only [List.all_cons, Bool.and_eq_true, decide_eq_true_eq] at hr
    obtain ⟨⟨r1, r2⟩, r3⟩ := hr
    exact trodAll_cons_mk (Below.trod hl r1 r2 h1 hb fun x hx => hlt x (List.mem_append_left _ hx)) (trodAll_stays hl hb (ts := ts) r3 h2 fun x hx => hlt x (List.mem_append_right _ hx))
/-- A slice of small integers that came in. -/
theorem i8_in {W : World} {a : Addr} {len cap : Nat} {zs : List Int} (hl : len ≤ cap) (hm : cap ≤ maxLen) (hz : zs.length = cap) (hcell : ∀ i, i < zs.length → W.cell? (a.add i) = some (.int .i8 (zs.getD i 0))) (hwz : ∀ n ∈ zs, (Lit.int .i8 n).wf = true) :
    I8V W (.slice (some a) len cap) (zs.take len) := by
  have hb : ∀ n ∈ zs, -128 ≤ n ∧ n ≤ 127 := fun n hn => by
    have := hwz n hn
    simp [Lit.wf, IntKind.min, IntKind.max, IntKind.signed, IntKind.bits] at this
    omega
  refine ⟨⟨⟨a, len, cap, rfl, hl, hm, fun e => by cases e⟩, by simp [slen]; omega, fun j hj => ?_⟩, fun x hx => hb x (List.mem_of_mem_take hx)⟩
  have hj2 : j < len := by simp at hj; omega
  have hj3 : j < zs.length := by omega
  have h1 := hcell j hj3
  have e1 : zs.getD j 0 = zs[j] := by simp [List.getD, List.getElem?_eq_getElem hj3]
  rw [e1] at h1
  simp only [ptr, base, List.getElem_map, List.getElem_take]
  exact h1
end
section
variable {H : Type} {enc : TypeId × Value → H}
set_option maxRecDepth 100000 in
theorem u8_came {W : World} {base : Nat} {v : Value} {d : DataW H} {p : List MemPlace} (hv : Value.okWide Try.prog W .any base 5 v) (h : DataW.Trod enc Try.prog W 0 (fun _ => true) true 5 v d p) : ∃ x : Nat, v = .int .u8 x ∧ x < 256 := by
  obtain ⟨n, rfl, rfl, rfl, hwn⟩ := open_int Try.underlying5 hv h
  have hn : 0 ≤ n ∧ n < 256 := by
    simp [Lit.wf, IntKind.min, IntKind.max, IntKind.signed, IntKind.bits] at hwn
    omega
  exact ⟨n.toNat, by congr 1; omega, by omega⟩
set_option maxRecDepth 100000 in
theorem i8_came {W : World} {base : Nat} {v : Value} {d : DataW H} {p : List MemPlace} (hv : Value.okWide Try.prog W .any base 22 v) (h : DataW.Trod enc Try.prog W 0 (fun _ => true) true 22 v d p) : ∃ l, I8V W v l := by
  obtain ⟨a, len, cap, rfl⟩ := okWide_slice Try.underlying22 hv
  obtain ⟨fuel, hf⟩ := h
  rcases open_ints Try.underlying22 Try.underlying37 Try.cellsI8 hf with ⟨hcs, hx⟩ | ⟨a, len', cap', zs, hcs, _, hl, hm, hz, hx, hcell, hwz⟩
  · simp [Value.cells] at hcs
    obtain ⟨rfl, rfl, rfl⟩ := hcs
    exact ⟨[], ⟨IsSl.nil, rfl, fun j h => by simp at h⟩, fun x h => by simp at h⟩
  · simp [Value.cells] at hcs
    obtain ⟨rfl, rfl, rfl⟩ := hcs
    simp only [if_true] at hz
    exact ⟨_, i8_in hl hm hz hcell hwz⟩
end
end Go.Proofs.Ytbhkibilnmoljaa
namespace Go.Proofs.Ytbhkibilnmoljaa
set_option linter.unusedVariables false
set_option linter.unusedSimpArgs false
open Go.RowKit

theorem MatF.congr {w : World} {v : Value} {n m : Nat} {A B : Mx} (h : MatF w v n m A) (e : ∀ i j, i < n → j < m → A i j = B i j) : MatF w v n m B :=
  ⟨h.sl, h.len, fun i hi => by
    obtain ⟨r, h1, h2⟩ := h.row i hi
    exact ⟨r, h1, by rw [← rowL_congr (fun j hj => e i j hi hj)]; exact h2⟩⟩
theorem rank_dt' {n : Nat} {A B : Mx} (h : (elim false n (besideM n A B) n).r = n) : dt n A ≠ 0 := by
  intro h0
  have := rank_less (B := B) h0
  omega
theorem one_small (i j : Nat) : smallQ (oneM i j) := by
  unfold oneM; split
  · exact small_one
  · exact small_zero
theorem inv_slim {n : Nat} {A : Mx} (hn : n ≤ 5) (hA : ∀ i j, i < n → j < n → smallQ (A i j)) : slimE false n (n + n) n (besideM n A oneM) :=
  slimE_small (by omega) hn fun i j hi hj => by
    unfold besideM; split
    · exact hA i j hi (by assumption)
    · exact one_small _ _
theorem inv_hq {n : Nat} {A : Mx} (hn : n ≤ 4) (hA : ∀ i j, i < n → j < n → smallQ (A i j)) : ∀ i, i < n → (elim false n (besideM n A oneM) n).r = n → (elim false n (besideM n A oneM) n).A i i ≠ 0 ∧ ∀ j, j < n → fits (invM n A i j) :=
  fun i hi hr => ⟨(elim_unit hr n (Nat.le_refl _)).2.1 i hi, fun j hj => (inv_wt hn hA (rank_dt' hr) hi hj).1⟩
/-- What Mul and Apply need of a small matrix and its inverse. -/
structure InvOk (n : Nat) (A : Mx) (b : Nat → Rat) : Prop where
  r : MulOk n n n A (invM n A)
  l : MulOk n n n (invM n A) A
  v : MulOk n n 1 (invM n A) (fun i _ => b i)
  f : fitM n n (invM n A)
  w : wtF n n (invM n A) ≤ 1920
theorem inv_ok {n : Nat} {A : Mx} {b : Nat → Rat} (hn : n ≤ 4) (hA : ∀ i j, i < n → j < n → smallQ (A i j)) (hb : ∀ i, i < n → smallQ (b i)) (h : dt n A ≠ 0) : InvOk n A b := by
  obtain ⟨E, hE, hEb, hI⟩ := inv_small hA h
  have hB := dtB_le4 hn
  have e1 : 5 * (12600 * dtB n 12600) < 2 ^ 80 := by
    have : 5 * (12600 * dtB n 12600) ≤ 5 * (12600 * 2 ^ 60) := Nat.mul_le_mul_left _ (Nat.mul_le_mul_left _ (Nat.le_of_lt hB))
    exact Nat.lt_of_le_of_lt this (by decide +kernel)
  have e2 : 840 * E < 2 ^ 80 := by
    have : 840 * E ≤ 840 * 2 ^ 60 := Nat.mul_le_mul_left _ (Nat.le_trans hEb (Nat.le_of_lt hB))
    exact Nat.lt_of_le_of_lt this (by decide +kernel)
  have e3 : 5 * (dtB n 12600 * 12600) < 2 ^ 80 := by rw [Nat.mul_comm (dtB n 12600)]; exact e1
  have e4 : E * 840 < 2 ^ 80 := by rw [Nat.mul_comm E]; exact e2
  refine ⟨(mul_ok (by decide) hE (by omega) hA hI e1 e2 (by decide) (by decide)).1, (mul_ok hE (by decide) (by omega) hI hA e3 e4 (by decide) (by decide)).1,
    (mul_ok (E := 840) (b := 12600) hE (by decide) (by omega) hI (fun i j hi _ => hb i hi) e3 e4 (by decide) (by decide)).1, fun i j hi hj => (inv_wt hn hA h hi hj).1, ?_⟩
  have h1 := wtF_le (n := n) (m := n) (A := invM n A) (K := 120) fun i j hi hj => (inv_wt hn hA h hi hj).2
  have h2 : n * (n * 120) ≤ 4 * (4 * 120) := Nat.mul_le_mul hn (Nat.mul_le_mul_right _ hn)
  omega
set_option maxRecDepth 100000 in
set_option maxHeartbeats 3200000 in
theorem inverse_law (x : Nat) (vl vb : Value) (l b : List Int) (w : World) (hx : x < 256) (hl : I8V w vl l) (hb : I8V w vb b) :
    Calls Try.prog 8 #[.int .u8 x, vl, vb] w (fun e w' => e = .returned (.bool true) ∧ Below w.heap.size w w') := by
  obtain ⟨k0, hk0⟩ : ∃ k, 1 + x % 5 = k := ⟨_, rfl⟩
  have q1 : 1 ≤ k0 := by omega
  have q5 : k0 ≤ 5 := by omega
  obtain ⟨k, hk⟩ : ∃ k : Nat, (k0 = 1 → k = 1) ∧ (k0 ≠ 1 → k0 = k + 1) ∧ 1 ≤ k ∧ k ≤ 4 := by
    by_cases h : k0 = 1
    · exact ⟨1, fun _ => rfl, fun h2 => absurd h h2, by decide, by decide⟩
    · exact ⟨k0 - 1, fun h2 => absurd h2 h, fun _ => by omega, by omega, by omega⟩
  obtain ⟨hkA, hkB, hk1, hk4⟩ := hk
  have hk5 : k ≤ 5 := by omega
  have hk24 : k ≤ 24 := by omega
  have HK := Lib.hid hk0
  have HL := Lib.hid hl
  have HB := Lib.hid hb
  have sl := hl.1.sl
  have sb := hb.1.sl
  have hsm : ∀ i j, i < k → j < k → smallQ (smallM k l i j) := fun i j _ _ => (smallM_small k l i j).1
  have hsb : ∀ i, i < k → smallQ (smallM k b 0 i) := fun i _ => (smallM_small k b 0 i).1
  have hfb : ∀ i, i < k → fits (smallM k b 0 i) := fun i hi => small_fits (hsb i hi)
  have hw1 : wtF k k (smallM k l) ≤ 200 := smallM_wt l hk5 hk5
  have hwb : wts (qs (rawV k (smallM k b 0))) ≤ k * 8 := wts_rawV fun j _ => (smallM_small k b 0 j).2
  have hwS : wtF k k (smallM k l) + wts (qs (rawV k (smallM k b 0))) ≤ 1900 := by omega
  have hwD : wtF k k (smallM k l) ≤ 1900 := by omega
  have HSM := Lib.hid hsm
  have HSB := Lib.hid hsb
  have HFB := Lib.hid hfb
  have HW1 := Lib.hid hw1
  have HWB := Lib.hid hwb
  have HWS := Lib.hid hwS
  have HWD := Lib.hid hwD
  have HX := Lib.hid (solve_slim hk5 hsm hsb)
  have HQ := Lib.hid (solve_hq hk5 hsm hsb)
  have HXI := Lib.hid (inv_slim hk5 hsm)
  have HQI := Lib.hid (inv_hq hk4 hsm)
  have HX2 : Hid (slimE true k k k (smallM k l)) := Lib.hid (slimE_small (Nat.le_refl _) hk5 hsm)
  clear hk0 hl hb hsm hsb hfb hw1 hwb hwS hwD
  go_enter Try.func8, Try.ntmps8
  go_upto_if 28 with (first
    | (go_at_call 9; (with_reducible refine (order_any x _ hx).mono ?_); rw [HK.out]; rintro e0 w0 ⟨rfl, rfl⟩))
  go_cut [7] (fun u7 wy => u7 = .int .i64 k ∧ wy = w)
  case first =>
    go_wp2_with fail
    all_goals go_meet
    case rel =>
      rename_i h0
      have h1 : (k0 : Int) - 1 = 0 := by simpa using h0
      exact ⟨by rw [hkA (by omega)]; rfl, rfl⟩
    case rel =>
      rename_i h0
      have h1 : ¬ (k0 : Int) - 1 = 0 := by simpa using h0
      exact ⟨by congr 1; have := hkB (by omega); omega, rfl⟩
  case rest =>
    obtain ⟨rfl, rfl⟩ := hcut
    by_cases hd : dt k (smallM k l) = 0
    · have HRK := Lib.hid (rank_less (B := oneM) hd)
      have HD : Hid (detE k (smallM k l) = 0) := Lib.hid (by rw [detE_dt]; exact hd)
      clear hd
      go_wp2_with (first
        | (go_at_call 10; first
           | ((with_reducible refine (matrix_row _ b k _ (HB.out.below hb1) hk1 hk5).mono ?_); rintro e2 w2 ⟨v2, rfl, hm2, hb2⟩
              have sl2 := hm2.sl
              have ln2 := hm2.len
              obtain ⟨r2, hc2, hf2⟩ := hm2.row 0 (by decide)
              have HM2 := Lib.hid (HM1.out.below hb2)
              have HB2 := Lib.hid (below_then hb1 hb2)
              have HF2 := Lib.hid hf2
              clear hm2 hb2 hf2 hb1)
           | ((with_reducible refine (matrix_any _ l k k _ HL.out hk1 hk5 hk1 hk5).mono ?_); rintro e1 w1 ⟨v1, rfl, hm1, hb1⟩
              have HM1 := Lib.hid hm1
              clear hm1))
        | (go_at_call 31; (with_reducible refine (invert_lin _ k (smallM k l) _ HM2.out hk1 hk24 (smallM_fit k k l) HWD.out HXI.out HQI.out).mono ?_); rintro e3 w3 ⟨v3, er3, rfl, hb3, hs3, _⟩; obtain ⟨rfl, rfl⟩ := hs3 HRK.out; clear hs3
           have HM3 := Lib.hid (HM2.out.below hb3)
           have HB3 := Lib.hid (below_then HB2.out hb3)
           clear hb3)
        | (go_at_call 16; (with_reducible refine (det_lin _ k (smallM k l) _ HM3.out hk1 hk24 (smallM_fit k k l) HWD.out HX2.out).mono ?_); rw [HD.out]; rintro e4 w4 ⟨v4, rfl, hv4, hb4⟩
           obtain ⟨t4, x4, y4, rfl, ⟨a41, l41, k41, rfl, _⟩, ⟨a42, l42, k42, rfl, _⟩⟩ := hv4.isF
           have ba4 := below_alloc w4 (.cells #[.bool t4, .slice a41 l41 k41, .slice a42 l42 k42] 30)
           have HV4 := Lib.hid (hv4.below ba4)
           have HB4 := Lib.hid (below_then HB3.out (below_then hb4 ba4))
           clear hv4 hb4 ba4)
        | (go_at_call 17; (with_reducible refine (sign_zero HV4.out).mono ?_); rintro e5 w5 ⟨rfl, hb5⟩
           have HB5 := Lib.hid (below_then HB4.out hb5)
           clear hb5)
        | (go_at_call 15; (with_reducible refine (awake_any _).mono ?_); rintro e6 w6 ⟨rfl, hb6⟩))
      go_ret
      exact ⟨rfl, below_then HB5.out hb6⟩
    · have HRK : Hid (¬ (elim false k (besideM k (smallM k l) oneM) k).r < k) := Lib.hid (by rw [rank_full (B := oneM) hd]; omega)
      have HRS : Hid (¬ (elim false k (besideM k (smallM k l) (fun i _ => smallM k b 0 i)) k).r < k) := Lib.hid (by rw [rank_full (B := fun i _ => smallM k b 0 i) hd]; omega)
      have hse := sol_eq (rank_full (B := fun i _ => smallM k b 0 i) hd)
      have HI := Lib.hid (inv_ok (b := smallM k b 0) hk4 HSM.out HSB.out hd)
      have EQS : Hid (rowL k (fun i => sg k fun j => invM k (smallM k l) i j * smallM k b 0 j) = rowL k (solE k (smallM k l) (smallM k b 0))) := Lib.hid (by
        unfold rowL
        exact List.map_congr_left fun i hi => (sol_unique hd hse (List.mem_range.1 hi)).symm)
      have HWR : Hid (wtF k k (smallM k l) + wtF k k (invM k (smallM k l)) ≤ 3800) := Lib.hid (by have h1 := HW1.out; have h2 := HI.out.w; omega)
      have HWL : Hid (wtF k k (invM k (smallM k l)) + wtF k k (smallM k l) ≤ 3800) := Lib.hid (by have h1 := HW1.out; have h2 := HI.out.w; omega)
      have HWA : Hid (wtF k k (invM k (smallM k l)) + wts (qs (rawV k (smallM k b 0))) ≤ 3800) := Lib.hid (by have h1 := HWB.out; have h2 := HI.out.w; omega)
      have HVP : Hid (∀ i j, i < k → j < k → fits (invM k (smallM k l) i j * smallM k b 0 j)) := Lib.hid (fun i j hi hj => HI.out.v.p i 0 hi (by decide) j hj)
      have HVS : Hid (∀ i j, i < k → j ≤ k → fits (sg j fun m => invM k (smallM k l) i m * smallM k b 0 m)) := Lib.hid (fun i j hi hj => HI.out.v.s i 0 hi (by decide) j hj)
      have HER : Hid (∀ i j, i < k → j < k → mulM k (smallM k l) (invM k (smallM k l)) i j = oneM i j) := Lib.hid (fun i j hi hj => inv_right hd hi hj)
      have HEL : Hid (∀ i j, i < k → j < k → mulM k (invM k (smallM k l)) (smallM k l) i j = oneM i j) := Lib.hid (fun i j hi hj => inv_left hd hi hj)
      clear hd hse
      go_wp2_with (first
        | (go_at_call 10; first
           | ((with_reducible refine (matrix_row _ b k _ (HB.out.below hb1) hk1 hk5).mono ?_); rintro e2 w2 ⟨v2, rfl, hm2, hb2⟩
              have sl2 := hm2.sl
              have ln2 := hm2.len
              obtain ⟨r2, hc2, hf2⟩ := hm2.row 0 (by decide)
              have HM2 := Lib.hid (HM1.out.below hb2)
              have HB2 := Lib.hid (below_then hb1 hb2)
              have HF2 := Lib.hid hf2
              clear hm2 hb2 hf2 hb1)
           | ((with_reducible refine (matrix_any _ l k k _ HL.out hk1 hk5 hk1 hk5).mono ?_); rintro e1 w1 ⟨v1, rfl, hm1, hb1⟩
              have sl1 := hm1.sl
              have HM1 := Lib.hid hm1
              clear hm1))
        | (go_at_call 31; (with_reducible refine (invert_lin _ k (smallM k l) _ HM2.out hk1 hk24 (smallM_fit k k l) HWD.out HXI.out HQI.out).mono ?_); rintro e3 w3 ⟨v3, er3, rfl, hb3, _, hs3⟩; obtain ⟨rfl, hm3⟩ := hs3 HRK.out; clear hs3
           have hm3' : MatF w3 v3 k k (invM k (smallM k l)) := hm3
           have sl3 := hm3'.sl
           have HI3 := Lib.hid hm3'
           have HM3 := Lib.hid (HM2.out.below hb3)
           have HF3 := Lib.hid (HF2.out.below hb3)
           have HB3 := Lib.hid (below_then HB2.out hb3)
           clear hb3 hm3 hm3')
        | (go_at_call 29; (with_reducible refine (ident_lin k _ hk1 hk24).mono ?_); rintro e4 w4 ⟨v4, rfl, hm4, hb4⟩
           have sl4 := hm4.sl
           have HO4 := Lib.hid hm4
           have HI4 := Lib.hid (HI3.out.below hb4)
           have HM4 := Lib.hid (HM3.out.below hb4)
           have HF4 := Lib.hid (HF3.out.below hb4)
           have HB4 := Lib.hid (below_then HB3.out hb4)
           clear hb4 hm4)
        | (go_at_call 21; first
           | ((with_reducible refine (mul_lin _ _ k k k (smallM k l) (invM k (smallM k l)) _ HM4.out HI4.out hk1 hk24 hk1 hk24 hk1 hk24 (smallM_fit k k l) HI.out.f HWR.out HI.out.r.p HI.out.r.s).mono ?_); rintro e5 w5 ⟨v5, rfl, hm5, hb5⟩
              have sl5 := hm5.sl
              have HP5 := Lib.hid (hm5.congr HER.out)
              have HO5 := Lib.hid (HO4.out.below hb5)
              have HI5 := Lib.hid (HI4.out.below hb5)
              have HM5 := Lib.hid (HM4.out.below hb5)
              have HF5 := Lib.hid (HF4.out.below hb5)
              have HB5 := Lib.hid (below_then HB4.out hb5)
              clear hb5 hm5)
           | ((with_reducible refine (mul_lin _ _ k k k (invM k (smallM k l)) (smallM k l) _ HI5.out HM5.out hk1 hk24 hk1 hk24 hk1 hk24 HI.out.f (smallM_fit k k l) HWL.out HI.out.l.p HI.out.l.s).mono ?_); rintro e6 w6 ⟨v6, rfl, hm6, hb6⟩
              have sl6 := hm6.sl
              have HQ6 := Lib.hid (hm6.congr HEL.out)
              have HP6 := Lib.hid (HP5.out.below hb6)
              have HO6 := Lib.hid (HO5.out.below hb6)
              have HI6 := Lib.hid (HI5.out.below hb6)
              have HM6 := Lib.hid (HM5.out.below hb6)
              have HF6 := Lib.hid (HF5.out.below hb6)
              have HB6 := Lib.hid (below_then HB5.out hb6)
              clear hb6 hm6))
        | (go_at_call 18; (with_reducible refine (solve_lin _ _ k (smallM k l) (smallM k b 0) _ HM6.out HF6.out hk1 hk24 (smallM_fit k k l) HFB.out HWS.out HX.out HQ.out).mono ?_); rintro e7 w7 ⟨v7, er7, rfl, hb7, _, hs7⟩; obtain ⟨rfl, hf7⟩ := hs7 HRS.out; clear hs7
           have hf7' : FracsC w7 v7 (rowL k (solE k (smallM k l) (smallM k b 0))) := hf7
           obtain ⟨v71, v72, v73, rfl, _⟩ := id hf7'.sl
           have HX7 := Lib.hid hf7'
           have HQ7 := Lib.hid (HQ6.out.below hb7)
           have HP7 := Lib.hid (HP6.out.below hb7)
           have HO7 := Lib.hid (HO6.out.below hb7)
           have HI7 := Lib.hid (HI6.out.below hb7)
           have HF7 := Lib.hid (HF6.out.below hb7)
           have HB7 := Lib.hid (below_then HB6.out hb7)
           clear hb7 hf7 hf7')
        | (go_at_call 19; (with_reducible refine (apply_lin _ _ k k (invM k (smallM k l)) (smallM k b 0) _ HI7.out HF7.out hk1 hk24 hk1 hk24 HI.out.f HFB.out HWA.out HVP.out HVS.out).mono ?_); rw [EQS.out]; rintro e8 w8 ⟨v8, rfl, hf8, hb8⟩
           have sl8 := hf8.sl
           have HY8 := Lib.hid hf8
           have HX8 := Lib.hid (HX7.out.below hb8)
           have HQ8 := Lib.hid (HQ7.out.below hb8)
           have HP8 := Lib.hid (HP7.out.below hb8)
           have HO8 := Lib.hid (HO7.out.below hb8)
           have HB8 := Lib.hid (below_then HB7.out hb8)
           clear hb8 hf8)
        | (go_at_call 25; first
           | ((with_reducible refine (same_mat _ _ _ _ _ HP8.out.matC HO8.out.matC).mono ?_); rintro e9 w9 ⟨⟨b9, rfl, hb9⟩, hbel9⟩; obtain rfl : b9 = true := hb9.2 rfl; clear hb9
              have HY9 := Lib.hid (HY8.out.below hbel9)
              have HX9 := Lib.hid (HX8.out.below hbel9)
              have HQ9 := Lib.hid (HQ8.out.below hbel9)
              have HO9 := Lib.hid (HO8.out.below hbel9)
              have HB9 := Lib.hid (below_then HB8.out hbel9)
              clear hbel9)
           | ((with_reducible refine (same_mat _ _ _ _ _ HQ9.out.matC HO9.out.matC).mono ?_); rintro e10 w10 ⟨⟨b10, rfl, hb10⟩, hbel10⟩; obtain rfl : b10 = true := hb10.2 rfl; clear hb10
              have HY10 := Lib.hid (HY9.out.below hbel10)
              have HX10 := Lib.hid (HX9.out.below hbel10)
              have HB10 := Lib.hid (below_then HB9.out hbel10)
              clear hbel10))
        | (go_at_call 20; (with_reducible refine (same_fracs _ _ _ _ _ HX10.out HY10.out).mono ?_); rintro e11 w11 ⟨⟨b11, rfl, hb11⟩, hbel11⟩; obtain rfl : b11 = true := hb11.2 rfl; clear hb11
           have HB11 := Lib.hid (below_then HB10.out hbel11)
           clear hbel11)
        | (go_at_call 15; (with_reducible refine (awake_any _).mono ?_); rintro e12 w12 ⟨rfl, hb12⟩))
      go_ret
      exact ⟨rfl, below_then HB11.out hb12⟩
end Go.Proofs.Ytbhkibilnmoljaa
namespace Go.Proofs.Ytbhkibilnmoljaa
open Go.ChangeShapes Go.WideShapes Go.ChangeAt Go.RowKit
set_option linter.unusedVariables false
set_option linter.unusedSimpArgs false

set_option maxRecDepth 100000 in
theorem linearInverse_lifted (os : Os) (started : os.Started) (H : Type) (enc : TypeId × Value → H) :
    ReturnsInHanded {} Try.checked os 8 .any (Rows.linearInverseSpec.pre6 enc Try.prog Try.f8 Rows.linearInverseRow.domain false) (Rows.linearInverseSpec.post enc Try.prog Try.f8 false true false false) := by
  refine returnsInHanded_of_change (C := Try.checked) Try.ownK started (by kernel_rfl) Try.func8
    (ChangeSpec.witness6 (enc := enc) (C := Try.checked) false ⟨#[], #[.int .u8 0, .slice none 0 0, .slice none 0 0], []⟩ 8 (by kernel_rfl) (by kernel_rfl) (by kernel_rfl) (by kernel_rfl)) ?_
  intro W base args ds gs before hval0 hW hcnd _
  have hval : ∀ (j : Nat) t v, Try.f8.params[j]? = some t → args[j]? = some v → Value.okWide Try.prog W .any base t v := hval0
  have hW' := hW
  obtain ⟨p, q, hA0, hV, rfl, hfz, hnd⟩ := hW
  have hA : DataW.TrodAll enc Try.prog W 0 (fun _ => true) true Try.f8.params.toList args.toList ds p := hA0
  rw [Try.params8] at hA hval
  obtain ⟨rfl, rfl⟩ := trodVars_none hV
  simp only [List.append_nil] at hW'
  have hback := fun (W' : World) (hb : Below W.heap.size W W') => trodAll_stays (enc := enc) Try.laidOut hb (by kernel_rfl) hA hW'.lt
  obtain ⟨v0, vs0, d0, ds0, p0, q0, e0, rfl, _, h0, hA⟩ := trodAll_cons hA
  obtain ⟨v1, vs1, d1, ds1, p1, q1, rfl, rfl, _, h1, hA⟩ := trodAll_cons hA
  obtain ⟨v2, vs2, d2, ds2, p2, q2, rfl, rfl, _, h2, hA⟩ := trodAll_cons hA
  obtain ⟨rfl, rfl, _⟩ := trodAll_nil hA
  obtain rfl : args = #[v0, v1, v2] := by cases args; simp_all
  obtain ⟨x0, rfl, g0⟩ := u8_came (hval 0 5 v0 rfl rfl) h0
  obtain ⟨l1, g1⟩ := i8_came (hval 1 22 v1 rfl rfl) h1
  obtain ⟨l2, g2⟩ := i8_came (hval 2 22 v2 rfl rfl) h2
  refine (inverse_law x0 _ _ l1 l2 W g0 g1 g2).mono fun e W' ⟨he, hnx⟩ => ?_
  subst he
  refine ⟨_, rfl, _, _, _, [], p, [], hW', ?_, hback _ hnx, ?_, hnx.frame _, fun h => by cases h⟩
  · exact trodAll_mk1 (shut_bool Try.underlying4 _)
  · rfl
theorem linearInverse_holds : Rows.LinearInverseSaid :=
  OpenClaim.holds_of_wide 8 Try.f8 rfl rfl rfl rfl rfl rfl rfl ⟨rfl, rfl, rfl, rfl, rfl⟩ rfl rfl rfl rfl rfl (by kernel_rfl) Try.func8 (by kernel_rfl)
    (of_decide_eq_true (by kernel_rfl)) (by unfold Func.isWrapper; first | (rw [if_pos (by decide +kernel)]; kernel_rfl) | (rw [if_neg (by decide +kernel)]; exact ⟨rfl, rfl⟩))
    (fun os started H enc _ => linearInverse_lifted os started H enc)
#print axioms linearInverse_holds
end Go.Proofs.Ytbhkibilnmoljaa
