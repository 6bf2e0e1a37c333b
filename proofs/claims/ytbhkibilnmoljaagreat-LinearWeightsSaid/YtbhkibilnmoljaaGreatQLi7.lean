/-
  package linear: begin.
-/
import Derived.Test.YtbhkibilnmoljaaGreatQDt4
import Derived.Test.YtbhkibilnmoljaaGreatQLi6
namespace Go.Proofs.YtbhkibilnmoljaaGreat
set_option linter.unusedVariables false
set_option linter.unusedSimpArgs false
open Go.RowKit

theorem kp1w {w0 X Y : World} {a1 : Addr} {x1 : Value} (h : X.cell? a1 = some x1 ∧ Below w0.heap.size w0 X) (hb : Below X.heap.size X Y) : Y.cell? a1 = some x1 ∧ Below w0.heap.size w0 Y :=
  ⟨cell_below hb h.1, below_then h.2 hb⟩
theorem kp1a {w0 X : World} {a1 : Addr} {x1 : Value} (h : w0.cell? a1 = some x1) (hb : Below w0.heap.size w0 X) : X.cell? a1 = some x1 ∧ Below w0.heap.size w0 X := ⟨cell_below hb h, hb⟩
theorem kp1c {w0 X : World} {a1 : Addr} {x1 : Value} (h : X.cell? a1 = some x1 ∧ Below w0.heap.size w0 X) : Below w0.heap.size w0 X := h.2
theorem rowL_app (m m2 : Nat) (A B : Mx) (i : Nat) : rowL m (A i) ++ rowL m2 (B i) = rowL (m + m2) (besideM m A B i) := by
  refine List.ext_getElem (by simp [rowL]) fun j h1 h2 => ?_
  rw [rowL_get]
  have hj : j < m + m2 := by rw [rowL_length] at h2; exact h2
  unfold besideM
  by_cases h : j < m
  · rw [List.getElem_append_left (by rw [rowL_length]; exact h), rowL_get, if_pos h]
  · rw [List.getElem_append_right (by rw [rowL_length]; omega), rowL_get, if_neg h, rowL_length]
theorem TabW.init {w : World} {T m wd : Nat} {x y z : Value} {d : Rat} (A : Mx) (hm : 0 < m) (hb : VarB w T #[.slice none 0 0, .int .i64 wd, .int .i64 (0 : Nat), x, y, z, .int .i64 0]) (hf : FracC w (.agg #[x, y, z]) d) : TabW w T (.slice none 0 0) [] 0 m A wd 0 d := by
  obtain ⟨a, b, ha, h4, h5⟩ := hf
  injection ha with ha
  injection ha with ha
  simp only [List.cons.injEq, and_true] at ha
  obtain ⟨rfl, rfl, rfl⟩ := ha
  exact ⟨⟨y, z, hb, h4, h5⟩, OwnR.nil _ _ _ _, rfl, hm, fun i h => by simp at h, fun i j h => by simp at h⟩
/-- A row apart from the table grew. -/
theorem TabW.grownR {w w' : World} {T n m wd rk : Nat} {vR u : Value} {rs : List Value} {A : Mx} {d : Rat} (h : TabW w T vR rs n m A wd rk d) (hg : w.grownBy w' u.ownBlock) (hn : NoLimb w u) (hT : u.ownBlock ≠ some T)
    (hR : vR.ownBlock = none ∨ vR.ownBlock ≠ u.ownBlock) (hr : ∀ i (hi : i < rs.length), rs[i].ownBlock ≠ u.ownBlock) : TabW w' T vR rs n m A wd rk d := by
  obtain ⟨⟨a, b, h1, h2, h3⟩, own, rl, mp, row, ap⟩ := h
  exact ⟨⟨a, b, h1.grown hg hT, h2.grown hg hn, h3.grown hg hn⟩, own.grown hg hR, rl, mp, fun i hi => (row i hi).grown hg hn (Or.inr (hr i hi)), ap⟩
theorem TabW.old {w : World} {T n m wd rk : Nat} {vR : Value} {rs : List Value} {A : Mx} {d : Rat} (h : TabW w T vR rs n m A wd rk d) {i : Nat} (hi : i < rs.length) : ∃ g, rs[i].ownBlock = some g ∧ g < w.heap.size := by
  obtain ⟨g, h1, _, _, h2, _⟩ := (h.row i hi).blk (by rw [rowL_length]; exact h.mp)
  exact ⟨g, h1, h2⟩
/-- A new table. -/
def RBeg (w0 : World) (n m : Nat) (A : Mx) (wd : Nat) (e : Ending) (w : World) : Prop :=
  ∃ T vR rs, e = .returned (.pointer (some ⟨T, 0, none⟩)) ∧ Below w0.heap.size w0 w ∧ TabW w T vR rs n m A wd 0 1 ∧ w0.heap.size ≤ T
set_option maxRecDepth 100000 in
set_option maxHeartbeats 3200000 in
theorem begin_one (va : Value) (n m : Nat) (A : Mx) (w : World) (ha : MatF w va n m A) (hn1 : 1 ≤ n) (hn : n ≤ 100) (hm1 : 1 ≤ m) (hm : m ≤ 100) :
    Calls Tryz.prog 32 #[va, .slice none 0 0] w (RBeg w n m A m) := by
  obtain ⟨i3, hi3, hz3, hs3, hy3⟩ := info_parts Tryz.infoF
  have hAP := append_fr (P := Tryz.prog) 27 25 i3 Tryz.underlying27 hi3 hz3 hs3 hy3
  obtain ⟨i4, hi4, hz4, hs4, hy4⟩ := info_parts Tryz.infoRow
  have hAR := append1_one (P := Tryz.prog) 28 27 i4 _ 24 Tryz.underlying28 hi4 hz4 hs4 hy4 (by decide) rfl (fun z => by simp)
  clear hi3 hz3 hs3 hy3 hi4 hz4 hs4 hy4
  have sa := ha.sl
  have la := ha.len
  obtain ⟨r0, hc0, hr0⟩ := ha.row 0 (by omega)
  have sl0 := hr0.sl
  have ln0 : slen r0 = m := by rw [hr0.len, rowL_length]
  have HA := Lib.hid ha
  have S0 := Lib.hid hc0
  have i0 : (0 : Int) < (n : Nat) := by omega
  have i00 : 0 < n := by omega
  clear ha hr0
  go_enter Tryz.func32, Tryz.ntmps32
  go_wp2_with fail
  go_region_held3 (fun w' => w'.cell? (ptr va 0) = some r0 ∧ Below w.heap.size w w') (first
    | with_reducible exact kp1a S0.out (below_drew _)
    | with_reducible exact kp1w (by assumption) (below_alloc _ _)
    | with_reducible exact kp1w (by assumption) (by assumption)) (first
    | (go_at_call 52; (with_reducible refine (lnumber_one _).mono ?_); rintro e1 w1 ⟨v1, rfl, hv1, hb1⟩
       obtain ⟨t9, x9, y9, rfl, ⟨a1, l91, k91, rfl, _⟩, ⟨a2, l92, k92, rfl, _⟩⟩ := hv1.isF
       have hB1 := below_then (kp1c (by assumption)) hb1))
  all_goals
    have hBZ := kp1c (by assumption)
    have hI := TabW.init (w := w1.alloc (.cells #[.slice none 0 0, .int .i64 m, .int .i64 (0 : Nat), .bool t9, .slice a1 l91 k91, .slice a2 l92 k92, .int .i64 0] 61)) (m := m) A (by omega) (VarB.new w1 _ _) (hv1.below (below_alloc _ _))
    have HI := Lib.hid hI
    have HBZ := Lib.hid hBZ
    have hTw : w.heap.size ≤ w1.heap.size := hB1.size
    clear hI hBZ hv1 hb1 hB1 hc0
    go_wp2_with fail
    obtain ⟨T, hT⟩ : ∃ T, w1.heap.size = T := ⟨_, rfl⟩
    rw [hT] at HI hTw
    rw [hT]
    have HT := Lib.hid hT
    clear hT
    go_loopg [18] (n) (fun g u18 wr => ∃ (k : Nat) (vR : Value) (rs : List Value), k ≤ n ∧ g = n - k ∧ u18 = .int .i64 k ∧ TabW wr T vR rs k m A m 0 1 ∧ Below w.heap.size w wr)
    case atStart => exact ⟨0, _, [], Nat.zero_le _, rfl, rfl, HI.out, HBZ.out⟩
    case round =>
      obtain ⟨k, vR, rs, hk, hg, rfl, hTab, hbr⟩ := hrel
      obtain ⟨w2, hw2⟩ : ∃ w2, w2 = wr := ⟨_, rfl⟩
      subst hw2
      have HTAB := Lib.hid hTab
      have HBR := Lib.hid hbr
      have HG := Lib.hid hg
      clear HI HBZ
      by_cases hkn : k < n
      · obtain ⟨rv, hrc, hrv⟩ := (HA.out.below hbr).row k hkn
        have hrlen := hrv.len
        rw [rowL_length] at hrlen
        obtain ⟨ra, rn, rc, rfl, hs1, hs2, hs3⟩ := id hrv.sl
        obtain ⟨ad, rfl⟩ : ∃ ad, ra = some ad := by
          cases ra with
          | none => exfalso; have h5 := hs3 rfl; have h6 : rn = m := hrlen; omega
          | some ad => exact ⟨ad, rfl⟩
        have hle1 : ([] : List Rat).length + (rowL m (A k)).length ≤ 1000 := by rw [rowL_length]; simp; omega
        have hTle : T + 1 ≤ w2.heap.size := hTab.lt
        have hnil := FrRow.nil w2 25 (T + 1)
        have HRV := Lib.hid hrv
        clear hTab hbr hg hs1 hs2 hs3 hrlen
        go_wp2_with (first
          | (at_builtin; refine hAP w2 rfl _ _ rfl (T + 1) _ [] rfl hnil ad rn rc (rowL m (A k)) rfl HRV.out hle1 hTle ?_; intro v5 w5 hf5 hg5 hn5 ho5 sv5
             obtain ⟨u1, u2, u3, rfl, _⟩ := id sv5
             have hb5 : Below w2.heap.size w2 w5 := below_of_grown hg5 (Nat.le_refl _) (fun k hk => by cases hk)
             have hT5 := HTAB.out.below hb5
             have hfl5 : ([] ++ rowL m (A k)).length = m := by rw [List.nil_append, rowL_length]
             have HT5 := Lib.hid hT5
             have HF5 := Lib.hid hf5
             have HO5 := Lib.hid ho5
             have HB5 := Lib.hid (below_then HBR.out hb5)
             obtain ⟨_, _, _, _, _, _, t5, _⟩ := hT5.cells
             have hown5 := hT5.own
             have hlen5 : rs.length ≤ 1000 := by rw [hT5.rl]; omega
             have hle5 : T + 1 ≤ w5.heap.size := hT5.lt
             clear hT5 hf5 hg5 hn5 ho5)
          | (at_builtin; refine hAR w5 rfl _ _ rfl (T + 1) _ vR rs rfl hown5 (.slice u1 u2 u3) rfl (fun z => by simp) rfl hlen5 hle5 ?_; intro v7 w7 ho7 hg7 hn7 hq7 sv7
             obtain ⟨y1, y2, y3, rfl, _⟩ := id sv7
             have hpush := HT5.out.push (r := .slice u1 u2 u3) (by have h := HF5.out; rw [List.nil_append] at h; exact h) (fun i hi => by
               obtain ⟨g, e1, e2⟩ := HTAB.out.old hi
               rw [e1]; rcases HO5.out with h | h <;> rw [h]
               · exact fun e => by cases e
               · intro e; injection e with e; omega) ho7 hg7
             have HP := Lib.hid hpush
             have HB7 := Lib.hid (HB5.out.trans (hpush.2.mono hTw))
             obtain ⟨_, _, _, _, _, _, t0, _, _, _, _, _, _, _, tf⟩ := HT5.out.cells
             have t7 := (VarB.cell (show VarB w7 T _ from (HT5.out.box.choose_spec.choose_spec.1).grown hg7 (fun e => by have := (HT5.out.own.block T e).1; omega)) 0 rfl)
             have f7 := (VarB.frozen (show VarB w7 T _ from (HT5.out.box.choose_spec.choose_spec.1).grown hg7 (fun e => by have := (HT5.out.own.block T e).1; omega)) 0)
             clear ho7 hg7 hn7 hq7 hpush t0 tf))
        go_roundg (n - (k + 1))
        case measure => (have := HG.out; omega)
        case rel => exact ⟨k + 1, _, _, by omega, rfl, by go_num, HP.out.1, HB7.out⟩
      · obtain rfl : k = n := by omega
        clear hTab hbr hg
        go_wp2_with fail
        go_ret
        exact ⟨T, vR, rs, rfl, HBR.out, HTAB.out, hTw⟩
end Go.Proofs.YtbhkibilnmoljaaGreat
