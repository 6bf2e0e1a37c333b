/-
  package linear: Solve.
-/
import Derived.Test.YtbhkibilnmoljaaGreatQLi12
namespace Go.Proofs.YtbhkibilnmoljaaGreat
set_option linter.unusedVariables false
set_option linter.unusedSimpArgs false
open Go.RowKit

/-- A vector as it is written. -/
def rawV (n : Nat) (b : Nat → Rat) : List RF := (rowL n b).map RF.of
@[go_sem] theorem slen_lit (a : Option Addr) (n c : Nat) : slen (.slice a n c) = n := rfl
theorem column_zero (va : Value) (n : Nat) (A : Mx) (w : World) (ha : MatF w va n 1 A) (hn : n ≤ 1000) :
    Calls Tryz.prog 21 #[va, .int .i64 0] w fun e w' => ∃ v, e = .returned v ∧ FracsC w' v (rowL n (fun i => A i 0)) ∧ Below w.heap.size w w' :=
  column_lin va n 1 0 A w ha (by decide) hn (by decide)
/-- What Solve answers. -/
def RSolve (w0 : World) (n : Nat) (S : St) (e : Ending) (w : World) : Prop :=
  ∃ v er, e = .returned (.tuple #[v, .int .i64 er]) ∧ Below w0.heap.size w0 w ∧ (S.r < n → v = .slice none 0 0 ∧ er = 9) ∧ (¬ S.r < n → er = 0 ∧ FracsC w v (rowL n (fun i => S.A i n / S.A i i)))
/-- The right sides, one row each. -/
structure RowsW (w : World) (B : Nat) (v : Value) (rs : List Value) (n k : Nat) (b : Nat → Rat) : Prop where
  own : OwnR w 27 B 1 v n rs
  row : ∀ (i : Nat) (h : i < rs.length), i < k → FracsC w rs[i] [b i] ∧ (base rs[i]).block ≠ (base v).block
theorem rawV_ok {n : Nat} {b : Nat → Rat} (hf : ∀ i, i < n → fits (b i)) : ∀ x ∈ rawV n b, x.ok := by
  intro x hx
  obtain ⟨q, hq, rfl⟩ := List.mem_map.1 hx
  obtain ⟨j, hj, rfl⟩ := List.mem_map.1 hq
  exact RF.of_ok (hf j (List.mem_range.1 hj))
theorem rawV_length (n : Nat) (b : Nat → Rat) : (rawV n b).length = n := by unfold rawV; rw [List.length_map, rowL_length]
theorem OwnR.cell_ne {w : World} {e : TypeId} {B size n : Nat} {v : Value} {xs : List Value} (h : OwnR w e B size v n xs) (j : Nat) (hj : j < xs.length) (z : Int) : xs[j] ≠ .int .u32 z := by
  rcases h.own.2 with ⟨rfl, h0⟩ | ⟨g, cap, cur, rfl, hb, hg, hn, hm, hs, ht⟩
  · have := h.own.1; rw [h0] at this; omega
  · refine h.nl g rfl cur e _ hg xs[j] ?_ z
    rw [← List.take_append_drop (n * size) cur.toList, ht]
    exact List.mem_append_left _ (List.getElem_mem hj)
set_option maxRecDepth 100000 in
set_option maxHeartbeats 6400000 in
theorem solve_lin (va vb : Value) (n : Nat) (A : Mx) (b : Nat → Rat) (w : World) (ha : MatF w va n n A) (hb : FracsC w vb (rowL n b)) (hn1 : 1 ≤ n) (hn : n ≤ 24) (hf : fitM n n A) (hfb : ∀ i, i < n → fits (b i)) (hw : wtF n n A + wts (qs (rawV n b)) ≤ 1900)
    (hX : slimE false n (n + 1) n (besideM n A (fun i _ => b i))) (hq : ∀ i, i < n → (elim false n (besideM n A (fun i _ => b i)) n).r = n → (elim false n (besideM n A (fun i _ => b i)) n).A i i ≠ 0 ∧ fits ((elim false n (besideM n A (fun i _ => b i)) n).A i n / (elim false n (besideM n A (fun i _ => b i)) n).A i i)) :
    Calls Tryz.prog 5 #[va, vb] w (RSolve w n (elim false n (besideM n A (fun i _ => b i)) n)) := by
  obtain ⟨i4, hi4, hz4, hs4, hy4⟩ := info_parts Tryz.infoRow
  have hMR := make_rows (P := Tryz.prog) 28 27 i4 Tryz.underlying28 hi4 hz4 hs4 hy4
  clear hi4 hz4 hs4 hy4
  have hvec : vecP (rawV n b) n := ⟨rawV_ok hfb, rawV_length n b⟩
  have HV := Lib.hid hvec
  have HF := Lib.hid hf
  have HFB := Lib.hid hfb
  have HX := Lib.hid hX
  have HQ := Lib.hid hq
  have hwi : (wtF n n A : Int) + (wts (qs (rawV n b)) : Nat) ≤ 1900 := by omega
  obtain ⟨W1, hW1⟩ : ∃ W, wtF n n A = W := ⟨_, rfl⟩
  obtain ⟨W2, hW2⟩ : ∃ W, wts (qs (rawV n b)) = W := ⟨_, rfl⟩
  rw [hW1, hW2] at hwi
  have HW1 := Lib.hid hW1
  have HW2 : Hid (wtsM [rawV n b] = W2) := Lib.hid (by rw [wtsM_one]; exact hW2)
  have HRB : Hid (FracsN w vb (rawV n b)) := Lib.hid hb.raw
  obtain ⟨vb1, vb2, vb3, rfl, _⟩ := id hb.sl
  have sa := ha.sl
  have la := ha.len
  have sb := hb.sl
  have lb : slen (.slice vb1 vb2 vb3) = n := by rw [hb.len, rowL_length]
  have hvb2 : vb2 = n := lb
  subst hvb2
  have HA := Lib.hid ha
  have HB := Lib.hid hb
  have i65 : vb2 ≤ 65536 := by omega
  have i1000 : vb2 ≤ 1000 := by omega
  have HO1 : Hid (∀ l ∈ [rawV vb2 b], ∀ x ∈ l, x.ok) := Lib.hid (fun l hl x hx => by
    have : l = rawV vb2 b := by simpa using hl
    subst this; exact hvec.1 x hx)
  have HO2 : Hid (∀ l ∈ [rawV vb2 b], l.length ≤ 65536) := Lib.hid (fun l hl => by
    have : l = rawV vb2 b := by simpa using hl
    subst this; rw [rawV_length]; exact i65)
  have HO3 : Hid ([rawV vb2 b].length ≤ 65536) := Lib.hid (by simp)
  clear hW1 hW2 ha hb hf hfb hX hq hw hvec lb
  go_enter Tryz.func5, Tryz.ntmps5
  go_wp2_with (first
    | (go_at_call 17; (with_reducible refine (square_lin va vb2 vb2 A _ HA.out hn1 hn hn1 hn HF.out rfl).mono ?_); rintro e1 w1 ⟨rfl, hb1⟩)
    | (go_at_call 18; (with_reducible refine (lvector_any _ (rawV vb2 b) vb2 _ (HRB.out.below hb1) i65).mono ?_); rw [decide_eq_true HV.out]; rintro e2 w2 ⟨rfl, hb2⟩
       have hB2 := below_then hb1 hb2)
    | (go_at_call 19; first
       | ((with_reducible refine (weight_lin va vb2 vb2 A _ (HA.out.below hB2) hn hn HF.out).mono ?_); rw [HW1.out]; rintro e3 w3 ⟨rfl, hb3⟩
          have hB3 := below_then hB2 hb3
          have hb4 := below_alloc w3 (.cells #[.slice vb1 vb2 vb3] 27)
          have hM4 := mat_one (VarB.new w3 #[.slice vb1 vb2 vb3] 27) (HRB.out.below (below_then hB3 hb4)))
       | ((with_reducible refine (lweight_any _ [rawV vb2 b] _ hM4 HO1.out HO2.out HO3.out).mono ?_); rw [HW2.out]; rintro e5 w5 ⟨rfl, hb5⟩
          have hB5 := below_then (below_then hB3 hb4) hb5
          clear hM4))
    | (refine hMR w5 rfl _ _ rfl w5.heap.size _ vb2 rfl rfl rfl (by omega) (Nat.le_refl _) ?_; intro vL w6 hO6 hb6
       have HO6 := Lib.hid hO6
       have HB6 := Lib.hid hb6
       have HB5 := Lib.hid hB5
       have slL := hO6.sl
       have lnL := hO6.len
       clear hO6 hb6 hB5 hb5 hb4 hB3 hb3 hB2 hb2 hb1))
  go_loopg [35] (vb2) (fun g u35 wr => ∃ (k : Nat) (rs : List Value), k ≤ vb2 ∧ g = vb2 - k ∧ u35 = .int .i64 k ∧ RowsW wr w5.heap.size vL rs vb2 k b ∧ Below w5.heap.size w5 wr)
  case atStart => exact ⟨0, _, Nat.zero_le _, rfl, rfl, ⟨HO6.out, fun i h h2 => by omega⟩, HB6.out⟩
  case round =>
    obtain ⟨k, rs, hk, hg, rfl, hR, hbr⟩ := hrel
    obtain ⟨w2, hw2⟩ : ∃ w2, w2 = wr := ⟨_, rfl⟩
    subst hw2
    have HG := Lib.hid hg
    have HR := Lib.hid hR
    have HBR := Lib.hid hbr
    have hBw2 := below_then2 HB5.out hbr HB5.out.size
    clear HO6 HB6 hg
    by_cases hkl : k < vb2
    · have hkd : k < (rowL vb2 b).length := by rw [rowL_length]; exact hkl
      obtain ⟨ea, eb, g1, g2, g3, g4, g5⟩ := (HB.out.below hBw2).at' k hkd
      rw [rowL_get] at g1 g4 g5
      obtain ⟨ea1, ea2, ea3, rfl, _⟩ := g4.v.sl
      obtain ⟨eb1, eb2, eb3, rfl, _⟩ := g5.v.sl
      have hF : FracC w2 (.agg #[.bool (decide (b k < 0)), .slice ea1 ea2 ea3, .slice eb1 eb2 eb3]) (b k) := ⟨_, _, rfl, g4, g5⟩
      have hbA := below_alloc w2 (.cells #[.bool (decide (b k < 0)), .slice ea1 ea2 ea3, .slice eb1 eb2 eb3] 25)
      have hbB := below_then hbA (below_alloc (w2.alloc (.cells #[.bool (decide (b k < 0)), .slice ea1 ea2 ea3, .slice eb1 eb2 eb3] 25)) (.cells #[.bool (decide (b k < 0)), .slice ea1 ea2 ea3, .slice eb1 eb2 eb3] 25))
      have hsz : (w2.alloc (.cells #[.bool (decide (b k < 0)), .slice ea1 ea2 ea3, .slice eb1 eb2 eb3] 25)).heap.size = w2.heap.size + 1 := by simp
      have hVN := VarB.new (w2.alloc (.cells #[.bool (decide (b k < 0)), .slice ea1 ea2 ea3, .slice eb1 eb2 eb3] 25)) #[.bool (decide (b k < 0)), .slice ea1 ea2 ea3, .slice eb1 eb2 eb3] 25
      rw [hsz] at hVN
      have hNew := fracs_one hVN (hF.below hbB)
      have hRl : rs.length = vb2 := by have := hR.own.clen; omega
      have hkr : k < rs.length := by rw [hRl]; exact hkl
      obtain ⟨s1, s2⟩ := (hR.own.below hbB).set1 k hkr (.slice (some ⟨w2.heap.size + 1, 0, none⟩) 1 1) (fun z => by simp)
      have hcL := (hR.own.below hbB).cell k hkr
      have hfL := (hR.own.below hbB).frozen k hkr
      have hnl : ∀ z, rs[k]'hkr ≠ .int .u32 z := by
        obtain ⟨g, hg1, _, _, _, _⟩ := hR.own.blk (by omega)
        intro z e
        have hx := hR.own
        exact (OwnR.cell_ne hx k hkr z) e
      have hLlt : (base vL).block < w2.heap.size := by obtain ⟨g, _, e2, _, e3, _⟩ := hR.own.blk (by omega); omega
      have hLge : w5.heap.size ≤ (base vL).block := by obtain ⟨g, _, e2, e3, _, _⟩ := hR.own.blk (by omega); omega
      have hpL : (ptr vL k).block = (base vL).block := ptr_block _ _
      have hRS : RowsW (((w2.alloc (.cells #[.bool (decide (b k < 0)), .slice ea1 ea2 ea3, .slice eb1 eb2 eb3] 25)).alloc (.cells #[.bool (decide (b k < 0)), .slice ea1 ea2 ea3, .slice eb1 eb2 eb3] 25)).setCell (ptr vL k) (.slice (some ⟨w2.heap.size + 1, 0, none⟩) 1 1)) w5.heap.size vL (rs.set k (.slice (some ⟨w2.heap.size + 1, 0, none⟩) 1 1)) vb2 (k + 1) b := by
        refine ⟨s1, fun i hi hik => ?_⟩
        have hi0 : i < rs.length := by simpa using hi
        by_cases h1 : i = k
        · subst h1
          rw [List.getElem_set_self]
          have hb0 : (base (.slice (some ⟨w2.heap.size + 1, 0, none⟩) 1 1)).block = w2.heap.size + 1 := rfl
          exact ⟨hNew.setc (by rw [hb0, hpL]; omega) hcL hnl _, by rw [hb0]; omega⟩
        · rw [List.getElem_set_ne (fun e => h1 e.symm)]
          obtain ⟨r1, r2⟩ := hR.row i hi0 (by omega)
          exact ⟨(r1.below hbB).setc (by rw [hpL]; exact r2) hcL hnl _, r2⟩
      have HRS := Lib.hid hRS
      have hBS : Below w5.heap.size w5 (((w2.alloc (.cells #[.bool (decide (b k < 0)), .slice ea1 ea2 ea3, .slice eb1 eb2 eb3] 25)).alloc (.cells #[.bool (decide (b k < 0)), .slice ea1 ea2 ea3, .slice eb1 eb2 eb3] 25)).setCell (ptr vL k) (.slice (some ⟨w2.heap.size + 1, 0, none⟩) 1 1)) := (below_then hbr hbB).setCell (by rw [hpL]; exact hLge) _
      have HBS := Lib.hid hBS
      clear hR hbr g4 g5 hF hbA hbB hVN hNew s1 s2 hnl hRS hBS hsz hBw2 hRl
      have i1 : (0 : Int) ≤ (k : Int) := by omega
      have i2 : (k : Int) < (vb2 : Nat) := by omega
      go_wp2_with fail
      go_roundg (vb2 - (k + 1))
      case measure => (have := HG.out; omega)
      case rel => exact ⟨k + 1, _, by omega, rfl, by go_num, HRS.out, HBS.out⟩
    · obtain rfl : k = vb2 := by omega
      have hML : MatF w2 vL k 1 (fun i _ => b i) := ⟨hR.own.sl, hR.own.len, fun i hi => by
        have hi2 : i < rs.length := by have := hR.own.clen; omega
        refine ⟨rs[i], hR.own.cell i hi2, ?_⟩
        have h := (hR.row i hi2 hi).1
        exact h⟩
      obtain ⟨l1, l2, l3, rfl, hl3⟩ := id hML.sl
      obtain ⟨bd, rfl⟩ : ∃ bd, l1 = some bd := by
        cases l1 with
        | none => exfalso; have h1 := hML.len; have h2 := hl3.2.2 rfl; have h3 : l2 = k := h1; omega
        | some bd => exact ⟨bd, rfl⟩
      have HML := Lib.hid hML
      have HQ1 : Hid (∀ i, i < k → (elim false k (besideM k A (fun i _ => b i)) k).r = k → (elim false k (besideM k A (fun i _ => b i)) k).A i i ≠ 0 ∧ ∀ j, j < 1 → fits ((elim false k (besideM k A (fun i _ => b i)) k).A i (k + j) / (elim false k (besideM k A (fun i _ => b i)) k).A i i)) := Lib.hid (fun i hi h => ⟨(HQ.out i hi h).1, fun j hj => by
        obtain rfl : j = 0 := by omega
        exact (HQ.out i hi h).2⟩)
      have hA2 := HA.out.below hBw2
      have HBW := Lib.hid hBw2
      clear hR hbr hML hBw2 hkl hl3
      by_cases hrk : (elim false k (besideM k A (fun i _ => b i)) k).r < k
      · go_wp2_with (go_at_call 20; (with_reducible refine (right_lin va bd l2 l3 k 1 A (fun i _ => b i) _ hA2 HML.out hn1 hn (Nat.le_refl _) (by omega) HX.out HQ1.out).mono ?_); rintro e7 w7 ⟨v7, er7, rfl, hb7, hs7, _⟩; obtain ⟨rfl, rfl⟩ := hs7 hrk; clear hs7)
        go_ret2
        exact ⟨_, 9, rfl, below_then HBW.out hb7, fun _ => ⟨rfl, rfl⟩, fun h => absurd hrk h⟩
      · go_wp2_with (first
          | (go_at_call 20; (with_reducible refine (right_lin va bd l2 l3 k 1 A (fun i _ => b i) _ hA2 HML.out hn1 hn (Nat.le_refl _) (by omega) HX.out HQ1.out).mono ?_); rintro e7 w7 ⟨v7, er7, rfl, hb7, _, hs7⟩; obtain ⟨rfl, hm7⟩ := hs7 hrk; clear hs7)
          | (go_at_call 21; (with_reducible refine (column_zero v7 k _ _ hm7 i1000).mono ?_); rintro e8 w8 ⟨v8, rfl, hf8, hb8⟩))
        go_ret2
        exact ⟨v8, 0, rfl, below_then (below_then HBW.out hb7) hb8, fun h => absurd h hrk, fun _ => ⟨rfl, hf8⟩⟩
end Go.Proofs.YtbhkibilnmoljaaGreat
