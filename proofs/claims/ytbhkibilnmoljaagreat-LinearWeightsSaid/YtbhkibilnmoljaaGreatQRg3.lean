/-
  package drydockref05: Identity.
  Ahead of it: package drydocklaw05: order, matrix. package linear: Identity. package linear, of raw fractions: Apply; Identity of any number. package drydockref05: Shape, Identity.
-/
import Derived.Test.YtbhkibilnmoljaaGreatQLi16
import Derived.Test.YtbhkibilnmoljaaGreatQLp3
import Derived.Test.YtbhkibilnmoljaaGreatQRg1
import Derived.Test.YtbhkibilnmoljaaGreatQRwM
namespace Go.Proofs.YtbhkibilnmoljaaGreat
set_option linter.unusedVariables false
set_option linter.unusedSimpArgs false
open Go.RowKit

/-- v reads as a list of small integers. -/
def I8V (w : World) (v : Value) (l : List Int) : Prop := CellsV w v (l.map (Value.int .i8)) ∧ ∀ x ∈ l, -128 ≤ x ∧ x ≤ 127
theorem I8V.below {w w' : World} {v : Value} {l : List Int} (h : I8V w v l) (hb : Below w.heap.size w w') : I8V w' v l := ⟨h.1.below hb, h.2⟩
/-- The fraction of a small integer. -/
def elQ (x : Int) : Rat := fq (decide (x.tmod 16 < 0)) (x.tmod 16).natAbs (1 + ((x % 256).toNat / 32))
/-- The element of a list of small integers, 0 behind its end. -/
def elL (l : List Int) (k : Nat) : Rat := if h : k < l.length then elQ (l[k]) else 0
/-- The matrix of small numbers. -/
def smallM (c : Nat) (l : List Int) : Mx := fun i j => elL l (i * c + j)
theorem wrap_i8 : ∀ k : Fin 256, IntKind.i64.wrap (((k.val : Int) - 128).tmod 16) = ((k.val : Int) - 128).tmod 16 ∧ IntKind.i64.wrap (1 + IntKind.i64.wrap (IntKind.u8.wrap ((k.val : Int) - 128) / 32)) = ((1 + (((k.val : Int) - 128) % 256).toNat / 32 : Nat) : Int) ∧
    -16 ≤ ((k.val : Int) - 128).tmod 16 ∧ ((k.val : Int) - 128).tmod 16 ≤ 16 ∧ (((k.val : Int) - 128) % 256).toNat / 32 ≤ 8 := by decide +kernel
theorem i8_facts (x : Int) (h1 : -128 ≤ x) (h2 : x ≤ 127) : IntKind.i64.wrap (x.tmod 16) = x.tmod 16 ∧ IntKind.i64.wrap (1 + IntKind.i64.wrap (IntKind.u8.wrap x / 32)) = ((1 + (x % 256).toNat / 32 : Nat) : Int) ∧ -16 ≤ x.tmod 16 ∧ x.tmod 16 ≤ 16 ∧ (x % 256).toNat / 32 ≤ 8 := by
  obtain ⟨n, hn⟩ : ∃ n : Nat, x + 128 = n := ⟨(x + 128).toNat, by omega⟩
  have h := wrap_i8 ⟨n, by omega⟩
  have hx : (n : Int) - 128 = x := by omega
  simp only [hx] at h
  exact h
theorem r2make_i8 (x : Int) (h1 : -128 ≤ x) (h2 : x ≤ 127) (w : World) : Calls Tryz.prog 58 #[.int .i64 (IntKind.i64.wrap (x.tmod 16)), .int .i64 (IntKind.i64.wrap (1 + IntKind.i64.wrap (IntKind.u8.wrap x / 32)))] w (RF0 w (elQ x)) := by
  obtain ⟨e1, e2, e3, e4, e5⟩ := i8_facts x h1 h2
  rw [e1, e2]
  refine (r2make_any _ _ w (by omega) (by omega) (by omega) (by omega) (by omega)).mono fun _ _ h => h.eq ?_
  rw [decide_eq_false (show ¬ ((1 + (x % 256).toNat / 32 : Nat) : Int) < 0 by omega)]
  unfold elQ
  cases decide (x.tmod 16 < 0) <;> rfl
/-- A matrix in the making: its rows. -/
structure MkM (w : World) (B : Nat) (v : Value) (rs : List Value) (c : Nat) (A : Mx) : Prop where
  ra : OwnR w 27 B 1 v rs.length rs
  rows : ∀ (j : Nat) (h : j < rs.length), FrRow w 25 B rs[j] (rowL c (A j))
  sz : B ≤ w.heap.size
section
variable {w w' : World} {B c : Nat} {v v' r : Value} {rs : List Value} {A : Mx}
theorem MkM.below (h : MkM w B v rs c A) (hb : Below w.heap.size w w') : MkM w' B v rs c A :=
  ⟨h.ra.moves (Moves.below (B := B) hb) (Nat.le_refl _), fun j hj => (h.rows j hj).moves (Moves.below (B := B) hb) (Nat.le_refl _), Nat.le_trans h.sz hb.size⟩
theorem MkM.push (h : MkM w B v rs c A) (hr : FrRow w 25 B r (rowL c (A rs.length))) (hv : OwnR w' 27 B 1 v' (rs ++ [r]).length (rs ++ [r])) (hg : w.grownBy w' v.ownBlock) (hn : NoLimb w v) :
    MkM w' B v' (rs ++ [r]) c A ∧ Below B w w' := by
  obtain ⟨ra, rows, sz⟩ := h
  have hb : Below B w w' := below_of_grown hg sz (fun k hk => (ra.block k hk).1)
  refine ⟨⟨hv, fun j h1 => ?_, Nat.le_trans sz hb.size⟩, hb⟩
  rcases Nat.lt_or_ge j rs.length with hj | hj
  · rw [List.getElem_append_left hj]
    obtain ⟨ys, y1, y2⟩ := id (rows j hj)
    exact (rows j hj).grown hg hn (y1.kinds ra (by decide))
  · obtain rfl : j = rs.length := by simp at h1; omega
    have e1 : (rs ++ [r])[rs.length]'h1 = r := by simp
    obtain ⟨zs, z1, z2⟩ := id hr
    rw [e1]
    exact hr.grown hg hn (z1.kinds ra (by decide))
theorem MkM.mat (h : MkM w B v rs c A) : MatF w v rs.length c A :=
  ⟨h.ra.sl, h.ra.len, fun i hi => ⟨rs[i], h.ra.cell i hi, (h.rows i hi).fracs⟩⟩
end
end Go.Proofs.YtbhkibilnmoljaaGreat
namespace Go.Proofs.YtbhkibilnmoljaaGreat
set_option linter.unusedVariables false
set_option linter.unusedSimpArgs false
open Go.RowKit

theorem kc2 {X Y : World} {a1 a2 : Addr} {x1 x2 : Value} (h : X.cell? a1 = some x1 ∧ X.cell? a2 = some x2) (hb : Below X.heap.size X Y) : Y.cell? a1 = some x1 ∧ Y.cell? a2 = some x2 := ⟨cell_below hb h.1, cell_below hb h.2⟩
set_option maxRecDepth 100000 in
set_option maxHeartbeats 3200000 in
theorem ident_lin (n : Nat) (w : World) (hn1 : 1 ≤ n) (hn : n ≤ 24) :
    Calls Tryz.prog 29 #[.int .i64 n] w fun e w' => ∃ v, e = .returned (.tuple #[v, .int .i64 0]) ∧ MatF w' v n n oneM ∧ Below w.heap.size w w' := by
  obtain ⟨i0, hi, hz0, hz1, hz2⟩ := info_parts Tryz.infoF
  have hM := make_fr (P := Tryz.prog) 27 25 i0 Tryz.underlying27 hi hz0 hz1 (by rw [hz2]; decide)
  clear hi hz0 hz1 hz2
  obtain ⟨i4, hi4, hz4, hs4, hy4⟩ := info_parts Tryz.infoRow
  have hMR := make_rows (P := Tryz.prog) 28 27 i4 Tryz.underlying28 hi4 hz4 hs4 hy4
  clear hi4 hz4 hs4 hy4
  go_enter Tryz.func29, Tryz.ntmps29
  go_wp2_with (refine hMR w rfl _ _ rfl w.heap.size _ n rfl rfl rfl (by omega) (Nat.le_refl _) ?_; intro vO w6 hO6 hb6
               have HO6 := Lib.hid hO6
               have HB6 := Lib.hid hb6
               have slO := hO6.sl
               have lnO := hO6.len
               clear hO6 hb6)
  clear hMR
  go_loopg [17] (n) (fun g u17 wr => ∃ (i : Nat) (rs : List Value), i ≤ n ∧ g = n - i ∧ u17 = .int .i64 i ∧ RowsM wr w.heap.size vO rs n i (fun i => rowL n (oneM i)) ∧ Below w.heap.size w wr)
  case atStart => exact ⟨0, _, Nat.zero_le _, rfl, rfl, RowsM.start HO6.out, HB6.out⟩
  case round =>
    obtain ⟨i, rs, hin, hg, rfl, hR, hbr⟩ := hrel
    obtain ⟨w2, hw2⟩ : ∃ w2, w2 = wr := ⟨_, rfl⟩
    subst hw2
    have HG := Lib.hid hg
    have HR := Lib.hid hR
    have HBR := Lib.hid hbr
    have hBsz : w.heap.size ≤ w2.heap.size := hbr.size
    clear hg HO6 HB6 hbr
    by_cases hil : i < n
    · have hir : i < rs.length := by rw [hR.rl]; exact hil
      have i1 : (0 : Int) ≤ (i : Int) := by omega
      have i2 : (i : Int) < (n : Nat) := by omega
      clear hR
      go_wp2_with (refine hM w2 rfl _ _ rfl w2.heap.size _ n rfl rfl rfl (by omega) (Nat.le_refl _) ?_; intro vI w6 hO6 hb6 hv6
                   obtain ⟨gI, _, rfl, _⟩ := id hO6
                   have slI := hO6.sl
                   have lnI := hO6.len
                   have hR6 := HR.out.below hb6
                   have c6 := hR6.own.cell i hir
                   have f6 := hR6.own.frozen i hir)
      have hPut := hR6.put i hil (Nat.le_refl _) (u := .slice (some ⟨gI, 0, none⟩) n n) (fun z => by simp)
      have hlt2 := HR.out.vblock (by omega)
      have hpO : (ptr vO i).block = (base vO).block := ptr_block _ _
      have hgI : w2.heap.size ≤ gI := hO6.block.1
      have hOS := hO6.overM (p := ptr vO i) (by rw [hpO]; have : (base (.slice (some ⟨gI, 0, none⟩) n n)).block = gI := rfl; omega) (.slice (some ⟨gI, 0, none⟩) n n)
      have HPUT := Lib.hid hPut
      have HOS := Lib.hid hOS
      have hBS := HBR.out.trans ((hb6.mono hBsz).trans hPut.2)
      have HBS := Lib.hid hBS
      have HLOW := Lib.hid (HR.out.low hn1 hgI (.slice (some ⟨gI, 0, none⟩) n n))
      clear hPut hOS hBS hR6 c6 f6 hO6 hb6 hv6
      go_loopg [30] (n) (fun g u30 wr => ∃ (k : Nat), k ≤ n ∧ g = n - k ∧ u30 = .int .i64 k ∧ OwnFr wr 25 w2.heap.size (.slice (some ⟨gI, 0, none⟩) n n) n ∧ (∀ j, j < k → ElemC wr (.slice (some ⟨gI, 0, none⟩) n n) j 0) ∧ RowsM wr w.heap.size vO (rs.set i (.slice (some ⟨gI, 0, none⟩) n n)) n i (fun i => rowL n (oneM i)) ∧ Below w.heap.size w wr)
      case atStart => exact ⟨0, Nat.zero_le _, rfl, rfl, HOS.out, fun j h => by omega, HPUT.out.1, HBS.out⟩
      case round =>
        obtain ⟨k, hkc, hg, rfl, ho, he, hR, hbr⟩ := hrel
        obtain ⟨w3, hw3⟩ : ∃ w3, w3 = wr := ⟨_, rfl⟩
        subst hw3
        have HG2 := Lib.hid hg
        have HE := Lib.hid he
        have HO := Lib.hid ho
        have HR2 := Lib.hid hR
        have HBR2 := Lib.hid hbr
        have hsz3 : gI < w3.heap.size := ho.block.2
        have hirs : i < (rs.set i (.slice (some ⟨gI, 0, none⟩) n n)).length := by rw [List.length_set]; exact hir
        have cO := hR.own.cell i hirs
        rw [List.getElem_set_self] at cO
        have hbI : (base (.slice (some ⟨gI, 0, none⟩) n n)).block = gI := rfl
        have hbO : (base (.slice (some ⟨gI, 0, none⟩) n n)).block ≠ (base vO).block := by rw [hbI]; omega
        have hbO2 : (ptr vO i).block ≠ (base (.slice (some ⟨gI, 0, none⟩) n n)).block := by rw [hpO, hbI]; omega
        clear hg he HOS HPUT HBS ho hR hbr
        by_cases hkl : k < n
        · have hatn := hkl
          have j1 : (0 : Int) ≤ (k : Int) := by omega
          have j2 : (k : Int) < (n : Nat) := by omega
          go_wp2_with fail
          go_region_held3 (fun w' => w'.cell? (ptr vO i) = some (.slice (some ⟨gI, 0, none⟩) n n) ∧ w'.cell? (ptr vO i) = some (.slice (some ⟨gI, 0, none⟩) n n)) (first
            | exact ⟨cO, cO⟩
            | with_reducible exact kc2 (by assumption) (by assumption)
            | with_reducible exact HK18.out
            | exact HK18.out) (first
            | (go_at_call 52; (with_reducible refine (lnumber_zero _).mono ?_); rintro e31 w31 ⟨v31, rfl, hv31, hb31⟩
               obtain ⟨t6, x31, y31, rfl, ⟨a61, l61, k61, rfl, _⟩, ⟨a62, l62, k62, rfl, _⟩⟩ := hv31.isF
               have hb6 : Below w3.heap.size w3 w31 := (by first | exact below_then (below_drew _) hb31 | exact hb31)
               have ho3 := HO.out.below hb6
               have hR3 := HR2.out.below hb6
               have cO1 := hR3.own.cell i hirs
               rw [List.getElem_set_self] at cO1
               obtain ⟨c0, d0, _⟩ := ho3.cell (k * 3) (by omega)
               obtain ⟨c1, d1, _⟩ := ho3.cell (k * 3 + 1) (by omega)
               obtain ⟨c2, d2, _⟩ := ho3.cell (k * 3 + 2) (by omega)
               have f0 := ho3.frozen (k * 3)
               have f1 := ho3.frozen (k * 3 + 1)
               have f2 := ho3.frozen (k * 3 + 2)
               have n01 := ho3.inj (show k * 3 ≠ k * 3 + 1 by omega)
               have n02 := ho3.inj (show k * 3 ≠ k * 3 + 2 by omega)
               have n12 := ho3.inj (show k * 3 + 1 ≠ k * 3 + 2 by omega)
               have HS3 := Lib.hid (ho3.set3 k (.bool t6) (.slice a61 l61 k61) (.slice a62 l62 k62) (fun z => by simp) (fun z => by simp) (fun z => by simp))
               have HR4 := Lib.hid (hR3.set3 ho3 hbO HLOW.out k hatn (.bool t6) (.slice a61 l61 k61) (.slice a62 l62 k62) (fun z => by simp) (fun z => by simp))
               have HE3 := Lib.hid (fun j hj => (HE.out j hj).below hb6)
               have HO3 := Lib.hid ho3
               have HV6 := Lib.hid hv31
               have HB3 := Lib.hid (below_then2 HBR2.out hb6 HBR2.out.size)
               have HK18 := Lib.hid (And.intro (set3_cell (w := w31) (k := k * 3) hbO2 (.bool t6) (.slice a61 l61 k61) (.slice a62 l62 k62) cO1) (set3_cell (w := w31) (k := k * 3) hbO2 (.bool t6) (.slice a61 l61 k61) (.slice a62 l62 k62) cO1))
               clear ho3 hR3)
            )
          go_wp2_with fail
          go_roundg (n - (k + 1))
          case measure => (have := HG2.out; omega)
          case rel =>
            refine ⟨k + 1, by omega, rfl, by go_num, HS3.out.1, fun j hj => ?_, HR4.out, HB3.out.trans (HS3.out.2.mono hBsz)⟩
            rcases Nat.lt_or_ge j k with h6 | h6
            · exact ElemC.set3_other HO3.out hkl (by omega) (HE3.out j h6) _ _ _ (fun z => by simp) (fun z => by simp)
            · obtain rfl : j = k := by omega
              exact ElemC.set3 HO3.out hkl HV6.out
        · obtain rfl : k = n := by omega
          have hatn := hil
          go_wp2_with fail
          go_region_held3 (fun w' => w'.cell? (ptr vO i) = some (.slice (some ⟨gI, 0, none⟩) k k) ∧ w'.cell? (ptr vO i) = some (.slice (some ⟨gI, 0, none⟩) k k)) (first
            | exact ⟨cO, cO⟩
            | with_reducible exact kc2 (by assumption) (by assumption)
            | with_reducible exact HK18.out
            | exact HK18.out) (first
            | (go_at_call 52; (with_reducible refine (lnumber_one _).mono ?_); rintro e31 w31 ⟨v31, rfl, hv31, hb31⟩
               obtain ⟨t6, x31, y31, rfl, ⟨a61, l61, k61, rfl, _⟩, ⟨a62, l62, k62, rfl, _⟩⟩ := hv31.isF
               have hb6 : Below w3.heap.size w3 w31 := (by first | exact below_then (below_drew _) hb31 | exact hb31)
               have ho3 := HO.out.below hb6
               have hR3 := HR2.out.below hb6
               have cO1 := hR3.own.cell i hirs
               rw [List.getElem_set_self] at cO1
               obtain ⟨c0, d0, _⟩ := ho3.cell (i * 3) (by omega)
               obtain ⟨c1, d1, _⟩ := ho3.cell (i * 3 + 1) (by omega)
               obtain ⟨c2, d2, _⟩ := ho3.cell (i * 3 + 2) (by omega)
               have f0 := ho3.frozen (i * 3)
               have f1 := ho3.frozen (i * 3 + 1)
               have f2 := ho3.frozen (i * 3 + 2)
               have n01 := ho3.inj (show i * 3 ≠ i * 3 + 1 by omega)
               have n02 := ho3.inj (show i * 3 ≠ i * 3 + 2 by omega)
               have n12 := ho3.inj (show i * 3 + 1 ≠ i * 3 + 2 by omega)
               have HS3 := Lib.hid (ho3.set3 i (.bool t6) (.slice a61 l61 k61) (.slice a62 l62 k62) (fun z => by simp) (fun z => by simp) (fun z => by simp))
               have HR4 := Lib.hid (hR3.set3 ho3 hbO HLOW.out i hatn (.bool t6) (.slice a61 l61 k61) (.slice a62 l62 k62) (fun z => by simp) (fun z => by simp))
               have HE3 := Lib.hid (fun j hj => (HE.out j hj).below hb6)
               have HO3 := Lib.hid ho3
               have HV6 := Lib.hid hv31
               have HB3 := Lib.hid (below_then2 HBR2.out hb6 HBR2.out.size)
               have HK18 := Lib.hid (And.intro (set3_cell (w := w31) (k := i * 3) hbO2 (.bool t6) (.slice a61 l61 k61) (.slice a62 l62 k62) cO1) (set3_cell (w := w31) (k := i * 3) hbO2 (.bool t6) (.slice a61 l61 k61) (.slice a62 l62 k62) cO1))
               clear ho3 hR3)
            )
          go_wp2_with fail
          go_roundg (k - (i + 1))
          case measure => (have := HG.out; omega)
          case rel =>
            refine ⟨i + 1, _, by omega, rfl, by go_num, HR4.out.done hirs ?_ (by rw [List.getElem_set_self]; exact hbO), HB3.out.trans (HS3.out.2.mono hBsz)⟩
            rw [List.getElem_set_self]
            refine HS3.out.1.fracs (rowL_length _ _) (fun j hj => ?_)
            rw [rowL_length] at hj
            rw [rowL_get]
            unfold oneM
            by_cases h6 : i = j
            · subst h6
              rw [if_pos rfl]
              exact ElemC.set3 HO3.out hil HV6.out
            · rw [if_neg h6]
              exact ElemC.set3_other HO3.out hil h6 (HE3.out j hj) _ _ _ (fun z => by simp) (fun z => by simp)
    · obtain rfl : i = n := by omega
      go_wp2_with fail
      go_ret2
      exact ⟨_, rfl, hR.mat, HBR.out⟩
end Go.Proofs.YtbhkibilnmoljaaGreat
namespace Go.Proofs.YtbhkibilnmoljaaGreat
set_option linter.unusedVariables false
set_option linter.unusedSimpArgs false
open Go.RowKit

set_option maxHeartbeats 800000 in
theorem lident_any (n : Int) (w : World) : Calls Tryz.prog 29 #[.int .i64 n] w (RAnsM w (oneAns n)) := by
  by_cases h1 : n < 1
  · have HANS : Hid (oneAns n = ([], 1)) := Lib.hid (by unfold oneAns; rw [if_pos (Or.inl h1)])
    go_enter Tryz.func29, Tryz.ntmps29
    go_wp2_with fail
    go_ret2
    rw [HANS.out]
    exact ⟨_, rfl, MatC.nil _, Below.refl _ _⟩
  · by_cases h2 : 24 < n
    · have HANS : Hid (oneAns n = ([], 1)) := Lib.hid (by unfold oneAns; rw [if_pos (Or.inr h2)])
      go_enter Tryz.func29, Tryz.ntmps29
      go_wp2_with fail
      go_ret2
      rw [HANS.out]
      exact ⟨_, rfl, MatC.nil _, Below.refl _ _⟩
    · obtain ⟨k, rfl⟩ : ∃ k : Nat, n = k := ⟨n.toNat, by omega⟩
      refine (ident_lin k w (by omega) (by omega)).mono ?_
      rintro e w' ⟨v, rfl, h3, h4⟩
      have hc : ¬ (((k : Nat) : Int) < 1 ∨ 24 < ((k : Nat) : Int)) := by omega
      refine ⟨v, ?_, ?_, h4⟩
      · unfold oneAns; rw [if_neg hc]; rfl
      · unfold oneAns; rw [if_neg hc]; exact h3.matC
end Go.Proofs.YtbhkibilnmoljaaGreat
namespace Go.Proofs.YtbhkibilnmoljaaGreat
set_option linter.unusedVariables false
set_option linter.unusedSimpArgs false
open Go.RowKit

set_option maxRecDepth 100000 in
set_option maxHeartbeats 3200000 in
theorem rshape_any (va : Value) (m : List (List RF)) (w : World) (ha : MatN w va m) :
    Calls Tryz.prog 22 #[va] w (RShape w m) := by
  have sa := ha.sl
  have la := ha.len
  have hle := sa.le
  rw [la] at hle
  have hlb : m.length ≤ 9223372036854775807 := by omega
  clear hle
  by_cases h1 : m.length < 1
  · have HBAD : Hid (¬ shapeP m) := Lib.hid (fun h => by have := h.1; omega)
    go_enter Tryz.func22, Tryz.ntmps22
    go_wp2_with fail
    refine bodyPost_ret (v := .tuple #[.int .i64 0, .int .i64 0, .bool false]) (by simp [results, Tryz.results22, go_sem]) rfl ⟨?_, Below.refl _ _⟩
    rw [if_neg HBAD.out]
  · by_cases h2 : 24 < m.length
    · have HBAD : Hid (¬ shapeP m) := Lib.hid (fun h => by have := h.2.1; omega)
      go_enter Tryz.func22, Tryz.ntmps22
      go_wp2_with fail
      refine bodyPost_ret (v := .tuple #[.int .i64 0, .int .i64 0, .bool false]) (by simp [results, Tryz.results22, go_sem]) rfl ⟨?_, Below.refl _ _⟩
      rw [if_neg HBAD.out]
    · obtain ⟨r0, hc0, hr0⟩ := ha.at' 0 (by omega)
      have hd0 : m.headD [] = m[0]'(by omega) := by
        cases m with
        | nil => simp at h1
        | cons a m => rfl
      rw [← hd0] at hr0
      have sl0 := hr0.sl
      have ln0 := hr0.len
      obtain ⟨x, hx⟩ : ∃ x, m.headD [] = x := ⟨_, rfl⟩
      rw [hx] at hr0 ln0 hd0
      have HX := Lib.hid hx
      have i0 : 0 < m.length := by omega
      clear hd0 hr0 hx h1
      by_cases h3 : x.length < 1
      · have HBAD : Hid (¬ shapeP m) := Lib.hid (fun h => by have := h.2.2.1; rw [HX.out] at this; omega)
        go_enter Tryz.func22, Tryz.ntmps22
        go_wp2_with fail
        refine bodyPost_ret (v := .tuple #[.int .i64 0, .int .i64 0, .bool false]) (by simp [results, Tryz.results22, go_sem]) rfl ⟨?_, Below.refl _ _⟩
        rw [if_neg HBAD.out]
      · by_cases h4 : 24 < x.length
        · have HBAD : Hid (¬ shapeP m) := Lib.hid (fun h => by have := h.2.2.2.1; rw [HX.out] at this; omega)
          go_enter Tryz.func22, Tryz.ntmps22
          go_wp2_with fail
          refine bodyPost_ret (v := .tuple #[.int .i64 0, .int .i64 0, .bool false]) (by simp [results, Tryz.results22, go_sem]) rfl ⟨?_, Below.refl _ _⟩
          rw [if_neg HBAD.out]
        · go_enter Tryz.func22, Tryz.ntmps22
          go_wp2_with fail
          go_loopw [5] (fun u5 wr => ∃ (k : Nat), k ≤ m.length ∧ u5 = .int .i64 k ∧ (∀ l ∈ m.take k, vecP l x.length) ∧ Below w.heap.size w wr) (fun u5 _ => m.length - (intOf u5).toNat)
          case atStart => exact ⟨0, Nat.zero_le _, rfl, fun l h => by simp at h, Below.refl _ _⟩
          case round =>
            obtain ⟨k, hk, rfl, hok, hb⟩ := hrel
            have HOK := Lib.hid hok
            have hc0 := cell_below hb hc0
            clear hok
            by_cases hkl : k < m.length
            · obtain ⟨rk, hrc, hrk⟩ := (ha.below hb).at' k hkl
              obtain ⟨l, hl⟩ : ∃ l, m[k]'hkl = l := ⟨_, rfl⟩
              rw [hl] at hrk
              have HMEM : Hid (l ∈ m) := Lib.hid (by rw [← hl]; exact List.getElem_mem hkl)
              have HTK : Hid (m.take (k + 1) = m.take k ++ [l]) := Lib.hid (by rw [take_snoc m k hkl, hl])
              have i1 : x.length ≤ 65536 := by omega
              clear hl
              by_cases hv : vecP l x.length
              · have HV := Lib.hid hv
                clear hv
                go_wp2_with fail
                go_region_held3 (fun w' => w'.cell? (ptr va k) = some rk ∧ w'.cell? (ptr va 0) = some r0) (first
                  | exact ⟨hrc, hc0⟩
                  | with_reducible exact kc2 (by assumption) (by assumption)) (first
                  | (go_at_call 23; (with_reducible refine (rvector_any _ l x.length _ (hrk.below (by first | exact below_drew _ | exact Below.refl _ _))).mono ?_); rw [decide_eq_true HV.out]; rintro e w7 ⟨rfl, hb7⟩
                     have hb7 := (by first | exact below_then (below_drew _) hb7 | exact hb7 : Below wr.heap.size wr w7)))
                go_wp2_with fail
                go_roundw
                case rel => exact ⟨k + 1, hkl, by go_num, fun y hy => by
                  rw [HTK.out] at hy
                  rcases List.mem_append.1 hy with h | h
                  · exact HOK.out y h
                  · have : y = l := by simpa using h
                    rw [this]; exact HV.out, below_then hb hb7⟩
                case measure => simp [intOf]; omega
              · have HV := Lib.hid hv
                have HBAD : Hid (¬ shapeP m) := Lib.hid (fun h => hv (by have := h.2.2.2.2 l HMEM.out; rw [HX.out] at this; exact this))
                clear hv
                go_wp2_with fail
                go_region_held3 (fun w' => w'.cell? (ptr va k) = some rk ∧ w'.cell? (ptr va 0) = some r0) (first
                  | exact ⟨hrc, hc0⟩
                  | with_reducible exact kc2 (by assumption) (by assumption)) (first
                  | (go_at_call 23; (with_reducible refine (rvector_any _ l x.length _ (hrk.below (by first | exact below_drew _ | exact Below.refl _ _))).mono ?_); rw [decide_eq_false HV.out]; rintro e w7 ⟨rfl, hb7⟩
                     have hb7 := (by first | exact below_then (below_drew _) hb7 | exact hb7 : Below wr.heap.size wr w7)))
                go_wp2_with fail
                refine bodyPost_ret (v := .tuple #[.int .i64 0, .int .i64 0, .bool false]) (by simp [results, Tryz.results22, go_sem]) rfl ⟨?_, below_then hb hb7⟩
                rw [if_neg HBAD.out]
            · obtain rfl : k = m.length := by omega
              have HG : Hid (shapeP m) := Lib.hid (by
                have h := HOK.out
                rw [List.take_length] at h
                exact ⟨by omega, by omega, by rw [HX.out]; omega, by rw [HX.out]; omega, by rw [HX.out]; exact h⟩)
              go_wp2_with fail
              go_quiet (fail)
              have hbN := below_drewN (B := wr.heap.size) wr nq
              go_wp2_with fail
              refine bodyPost_ret (v := .tuple #[.int .i64 m.length, .int .i64 x.length, .bool true]) (by simp [results, Tryz.results22, go_sem]) rfl ⟨?_, below_then hb hbN⟩
              rw [if_pos HG.out, HX.out]
theorem rshape_ok (va : Value) (a : List (List RF)) (n m : Nat) (w : World) (ha : MatN w va a) (hs : shapeP a) (hn : a.length = n) (hm : cols a = m) :
    Calls Tryz.prog 22 #[va] w fun e w' => e = .returned (.tuple #[.int .i64 n, .int .i64 m, .bool true]) ∧ Below w.heap.size w w' :=
  (rshape_any va a w ha).mono fun e w' ⟨h1, h2⟩ => ⟨by
    rw [if_pos hs] at h1
    subst hn hm
    exact h1, h2⟩
theorem rshape_no (va : Value) (a : List (List RF)) (w : World) (ha : MatN w va a) (hs : ¬ shapeP a) :
    Calls Tryz.prog 22 #[va] w fun e w' => e = .returned (.tuple #[.int .i64 0, .int .i64 0, .bool false]) ∧ Below w.heap.size w w' :=
  (rshape_any va a w ha).mono fun e w' ⟨h1, h2⟩ => ⟨by rw [if_neg hs] at h1; exact h1, h2⟩
end Go.Proofs.YtbhkibilnmoljaaGreat
namespace Go.Proofs.YtbhkibilnmoljaaGreat
set_option linter.unusedVariables false
set_option linter.unusedSimpArgs false
open Go.RowKit

set_option maxRecDepth 100000 in
set_option maxHeartbeats 3200000 in
theorem rident_ok (n : Nat) (w : World) (hn1 : 1 ≤ n) (hn : n ≤ 24) :
    Calls Tryz.prog 30 #[.int .i64 n] w fun e w' => ∃ v, e = .returned (.tuple #[v, .int .i64 0]) ∧ MatF w' v n n oneM ∧ Below w.heap.size w w' := by
  obtain ⟨i3, hi3, hz3, hs3, hy3⟩ := info_parts Tryz.infoF
  have hAP := append1_fr (P := Tryz.prog) 27 25 i3 Tryz.underlying27 hi3 hz3 hs3 hy3
  obtain ⟨i4, hi4, hz4, hs4, hy4⟩ := info_parts Tryz.infoRow
  have hAR := append1_one (P := Tryz.prog) 28 27 i4 _ 24 Tryz.underlying28 hi4 hz4 hs4 hy4 (by decide) rfl (fun z => by simp)
  clear hi3 hz3 hs3 hy3 hi4 hz4 hs4 hy4
  go_enter Tryz.func30, Tryz.ntmps30
  go_wp2_with fail
  go_loopg [4, 5] (n) (fun g u4 u5 wr => ∃ (i : Nat) (rs : List Value), i ≤ n ∧ g = n - i ∧ u5 = .int .i64 i ∧ rs.length = i ∧ MkM wr w.heap.size u4 rs n oneM ∧ Below w.heap.size w wr)
  case atStart => exact ⟨0, [], Nat.zero_le _, rfl, rfl, rfl, ⟨OwnR.nil _ _ _ _, fun j h => by simp at h, Nat.le_refl _⟩, Below.refl _ _⟩
  case round =>
    obtain ⟨i, rs, hin, hg, rfl, hrs, hm, hbr⟩ := hrel
    obtain ⟨w2, hw2⟩ : ∃ w2, w2 = wr := ⟨_, rfl⟩
    subst hw2
    have HG := Lib.hid hg
    have HRS := Lib.hid hrs
    have HM := Lib.hid hm
    have HB2 := Lib.hid hbr
    have svr := hm.ra.sl
    clear hg hrs hm
    by_cases hir : i < n
    · have i1 : (0 : Int) ≤ (i : Int) := by omega
      go_wp2_with fail
      go_loopg [6, 7] (n) (fun g u6 u7 wi => ∃ (k : Nat), k ≤ n ∧ g = n - k ∧ u7 = .int .i64 k ∧ FrRow wi 25 w2.heap.size u6 (rowL k (oneM i)) ∧ Below w2.heap.size w2 wi)
      case atStart => exact ⟨0, Nat.zero_le _, rfl, rfl, FrRow.nil _ _ _, Below.refl _ _⟩
      case round =>
        obtain ⟨k, hk, hgk, rfl, hfr, hbi⟩ := hrel
        obtain ⟨wb, hwb⟩ : ∃ wb, wb = wr := ⟨_, rfl⟩
        subst hwb
        have HGK := Lib.hid hgk
        have HFR := Lib.hid hfr
        have HBI := Lib.hid hbi
        have srow := hfr.sl
        have hrl : (rowL k (oneM i)).length ≤ 1000 := by rw [rowL_length]; omega
        clear hgk hfr
        by_cases hkn : k < n
        · by_cases hik : i = k
          · have hit : ((i : Int) == (k : Int)) = true := by simp; omega
            have HEL : Hid (oneM i k = 1) := Lib.hid (by unfold oneM; rw [if_pos hik])
            clear hik
            go_wp2_with (first
              | (go_at_call 35; (with_reducible refine (r2int_one _).mono ?_); rintro e13 w13 ⟨v13, rfl, hv13, hb13⟩
                 obtain ⟨t13, x13, y13, rfl, ⟨a131, l131, k131, rfl, q131⟩, ⟨a132, l132, k132, rfl, q132⟩⟩ := hv13.isF
                 have hfr5 := HFR.out.moves (Moves.below (B := w2.heap.size) hb13) (Nat.le_refl _)
                 have hsz5 : w2.heap.size ≤ w13.heap.size := Nat.le_trans HBI.out.size hb13.size)
              | (at_builtin; refine hAP w13 rfl _ _ rfl w2.heap.size _ u6 (rowL k (oneM i)) rfl hfr5 _ _ _ 1 hv13 rfl hrl hsz5 ?_; intro v4' w50 ho50 hg50 hn50 hq50 sv50
                 have hg5 : Below w2.heap.size w13 w50 := below_of_grown hg50 hsz5 (fun k hk => (hfr5.block k hk).1)
                 have HO50 := Lib.hid ho50))
            go_roundg (n - (k + 1))
            case measure => (have := HGK.out; omega)
            case rel => exact ⟨k + 1, by omega, rfl, by go_num, by rw [← rowL_snoc, HEL.out]; exact HO50.out, (below_then2 HBI.out hb13 HBI.out.size).trans hg5⟩
          · have hit : ((i : Int) == (k : Int)) = false := by simp; omega
            have HEL : Hid (oneM i k = 0) := Lib.hid (by unfold oneM; rw [if_neg hik])
            clear hik
            go_wp2_with (first
              | (go_at_call 35; (with_reducible refine (r2int_zero _).mono ?_); rintro e13 w13 ⟨v13, rfl, hv13, hb13⟩
                 obtain ⟨t13, x13, y13, rfl, ⟨a131, l131, k131, rfl, q131⟩, ⟨a132, l132, k132, rfl, q132⟩⟩ := hv13.isF
                 have hfr5 := HFR.out.moves (Moves.below (B := w2.heap.size) hb13) (Nat.le_refl _)
                 have hsz5 : w2.heap.size ≤ w13.heap.size := Nat.le_trans HBI.out.size hb13.size)
              | (at_builtin; refine hAP w13 rfl _ _ rfl w2.heap.size _ u6 (rowL k (oneM i)) rfl hfr5 _ _ _ 0 hv13 rfl hrl hsz5 ?_; intro v4' w50 ho50 hg50 hn50 hq50 sv50
                 have hg5 : Below w2.heap.size w13 w50 := below_of_grown hg50 hsz5 (fun k hk => (hfr5.block k hk).1)
                 have HO50 := Lib.hid ho50))
            go_roundg (n - (k + 1))
            case measure => (have := HGK.out; omega)
            case rel => exact ⟨k + 1, by omega, rfl, by go_num, by rw [← rowL_snoc, HEL.out]; exact HO50.out, (below_then2 HBI.out hb13 HBI.out.size).trans hg5⟩
        · obtain rfl : n = k := by omega
          obtain ⟨a11, l11, k11, rfl, _⟩ := id srow
          have hm5 := HM.out.below hbi
          have hra := hm5.ra
          have hsz5 := hm5.sz
          have hlen : rs.length ≤ 1000 := by rw [HRS.out]; omega
          have HM5 := Lib.hid hm5
          have HR5 : Hid (FrRow wb 25 w.heap.size (.slice a11 l11 k11) (rowL n (oneM rs.length))) := Lib.hid (by rw [HRS.out]; exact HFR.out.mono HB2.out.size)
          clear hm5
          go_wp2_with (first
            | (at_builtin; refine hAR _ rfl _ _ rfl w.heap.size _ u4 rs rfl hra (.slice a11 l11 k11) rfl (fun z => by simp) rfl hlen hsz5 ?_; intro v5' w21 ho21 hg21 hn21 hq21 sv21
               have hG := HM5.out.push HR5.out ho21 hg21 hn21
               have HG5 := Lib.hid hG
               clear hG))
          go_roundg (n - (i + 1))
          case measure => (have := HG.out; omega)
          case rel => exact ⟨i + 1, _, by omega, rfl, by go_num, by rw [List.length_append, HRS.out]; rfl, HG5.out.1, (below_then2 HB2.out hbi HB2.out.size).trans HG5.out.2⟩
    · obtain rfl : n = i := by omega
      go_wp2_with fail
      go_ret2
      exact ⟨_, rfl, by have h := HM.out.mat; rw [HRS.out] at h; exact h, hbr⟩
set_option maxHeartbeats 800000 in
theorem rident_any (n : Int) (w : World) : Calls Tryz.prog 30 #[.int .i64 n] w (RAnsM w (oneAns n)) := by
  by_cases h1 : n < 1
  · have HANS : Hid (oneAns n = ([], 1)) := Lib.hid (by unfold oneAns; rw [if_pos (Or.inl h1)])
    go_enter Tryz.func30, Tryz.ntmps30
    go_wp2_with fail
    go_ret2
    rw [HANS.out]
    exact ⟨_, rfl, MatC.nil _, Below.refl _ _⟩
  · by_cases h2 : 24 < n
    · have HANS : Hid (oneAns n = ([], 1)) := Lib.hid (by unfold oneAns; rw [if_pos (Or.inr h2)])
      go_enter Tryz.func30, Tryz.ntmps30
      go_wp2_with fail
      go_ret2
      rw [HANS.out]
      exact ⟨_, rfl, MatC.nil _, Below.refl _ _⟩
    · obtain ⟨k, rfl⟩ : ∃ k : Nat, n = k := ⟨n.toNat, by omega⟩
      refine (rident_ok k w (by omega) (by omega)).mono ?_
      rintro e w' ⟨v, rfl, h3, h4⟩
      have hc : ¬ (((k : Nat) : Int) < 1 ∨ 24 < ((k : Nat) : Int)) := by omega
      refine ⟨v, ?_, ?_, h4⟩
      · unfold oneAns; rw [if_neg hc]; rfl
      · unfold oneAns; rw [if_neg hc]; exact h3.matC
end Go.Proofs.YtbhkibilnmoljaaGreat
