/-
  package linear: begin with a second matrix.
-/
import Derived.Test.YtbhkibilnmoljaaGreatQLi7
namespace Go.Proofs.YtbhkibilnmoljaaGreat
set_option linter.unusedVariables false
set_option linter.unusedSimpArgs false
open Go.RowKit

set_option maxRecDepth 100000 in
set_option maxHeartbeats 3200000 in
theorem begin_two (va : Value) (bd : Addr) (bn bc : Nat) (n m m2 : Nat) (A A2 : Mx) (w : World) (ha : MatF w va n m A) (hb : MatF w (.slice (some bd) bn bc) n m2 A2) (hn1 : 1 ≤ n) (hn : n ≤ 100) (hm1 : 1 ≤ m) (hm : m ≤ 100) (hm21 : 1 ≤ m2) (hm2 : m2 ≤ 100) :
    Calls Tryz.prog 32 #[va, .slice (some bd) bn bc] w (RBeg w n (m + m2) (besideM m A A2) m) := by
  obtain ⟨i3, hi3, hz3, hs3, hy3⟩ := info_parts Tryz.infoF
  have hAP := append_fr (P := Tryz.prog) 27 25 i3 Tryz.underlying27 hi3 hz3 hs3 hy3
  obtain ⟨i4, hi4, hz4, hs4, hy4⟩ := info_parts Tryz.infoRow
  have hAR := append1_one (P := Tryz.prog) 28 27 i4 _ 24 Tryz.underlying28 hi4 hz4 hs4 hy4 (by decide) rfl (fun z => by simp)
  clear hi3 hz3 hs3 hy3 hi4 hz4 hs4 hy4
  have sa := ha.sl
  have la := ha.len
  obtain ⟨r0, hc0, hr0⟩ := ha.row 0 (by omega)
  have sl0 := hr0.sl
  have ln0 : slen r0 = m := by rw [hr0.len, rowL_length]
  have HA := Lib.hid ha
  have S0 := Lib.hid hc0
  have sb := hb.sl
  have lb := hb.len
  have HB0 := Lib.hid hb
  clear hb
  have i0 : (0 : Int) < (n : Nat) := by omega
  have i00 : 0 < n := by omega
  clear ha hr0
  go_enter Tryz.func32, Tryz.ntmps32
  go_wp2_with fail
  go_region_held3 (fun w' => w'.cell? (ptr va 0) = some r0 ∧ Below w.heap.size w w') (first
    | with_reducible exact kp1a S0.out (below_drew _)
    | with_reducible exact kp1w (by assumption) (below_alloc _ _)
    | with_reducible exact kp1w (by assumption) (by assumption)) (first
    | (go_at_call 52; (with_reducible refine (lnumber_one _).mono ?_); rintro e1 w1 ⟨v1, rfl, hv1, hb1⟩
       obtain ⟨t9, x9, y9, rfl, ⟨a1, l91, k91, rfl, _⟩, ⟨a2, l92, k92, rfl, _⟩⟩ := hv1.isF
       have hB1 := below_then (kp1c (by assumption)) hb1))
  all_goals
    have hBZ := kp1c (by assumption)
    have hI := TabW.init (w := w1.alloc (.cells #[.slice none 0 0, .int .i64 m, .int .i64 (0 : Nat), .bool t9, .slice a1 l91 k91, .slice a2 l92 k92, .int .i64 0] 61)) (m := (m + m2)) (besideM m A A2) (by omega) (VarB.new w1 _ _) (hv1.below (below_alloc _ _))
    have HI := Lib.hid hI
    have HBZ := Lib.hid hBZ
    have hTw : w.heap.size ≤ w1.heap.size := hB1.size
    clear hI hBZ hv1 hb1 hB1 hc0
    go_wp2_with fail
    obtain ⟨T, hT⟩ : ∃ T, w1.heap.size = T := ⟨_, rfl⟩
    rw [hT] at HI hTw
    rw [hT]
    have HT := Lib.hid hT
    clear hT
    go_loopg [18] (n) (fun g u18 wr => ∃ (k : Nat) (vR : Value) (rs : List Value), k ≤ n ∧ g = n - k ∧ u18 = .int .i64 k ∧ TabW wr T vR rs k (m + m2) (besideM m A A2) m 0 1 ∧ Below w.heap.size w wr)
    case atStart => exact ⟨0, _, [], Nat.zero_le _, rfl, rfl, HI.out, HBZ.out⟩
    case round =>
      obtain ⟨k, vR, rs, hk, hg, rfl, hTab, hbr⟩ := hrel
      obtain ⟨w2, hw2⟩ : ∃ w2, w2 = wr := ⟨_, rfl⟩
      subst hw2
      have HTAB := Lib.hid hTab
      have HBR := Lib.hid hbr
      have HG := Lib.hid hg
      clear HI HBZ
      by_cases hkn : k < n
      · obtain ⟨rv, hrc, hrv⟩ := (HA.out.below hbr).row k hkn
        have hrlen := hrv.len
        rw [rowL_length] at hrlen
        obtain ⟨ra, rn, rc, rfl, hs1, hs2, hs3⟩ := id hrv.sl
        obtain ⟨ad, rfl⟩ : ∃ ad, ra = some ad := by
          cases ra with
          | none => exfalso; have h5 := hs3 rfl; have h6 : rn = m := hrlen; omega
          | some ad => exact ⟨ad, rfl⟩
        have hle1 : ([] : List Rat).length + (rowL m (A k)).length ≤ 1000 := by rw [rowL_length]; simp; omega
        have hTle : T + 1 ≤ w2.heap.size := hTab.lt
        have hnil := FrRow.nil w2 25 (T + 1)
        have HRV := Lib.hid hrv
        obtain ⟨rv2, hrc2, hrv2⟩ := (HB0.out.below hbr).row k hkn
        have hrlen2 := hrv2.len
        rw [rowL_length] at hrlen2
        obtain ⟨ra2, rn2, rc2, rfl, ht1, ht2, ht3⟩ := id hrv2.sl
        obtain ⟨ad2, rfl⟩ : ∃ ad2, ra2 = some ad2 := by
          cases ra2 with
          | none => exfalso; have h5 := ht3 rfl; have h6 : rn2 = m2 := hrlen2; omega
          | some ad2 => exact ⟨ad2, rfl⟩
        have hle2 : ([] ++ rowL m (A k)).length + (rowL m2 (A2 k)).length ≤ 1000 := by rw [List.nil_append, rowL_length, rowL_length]; omega
        have HRV2 := Lib.hid hrv2
        clear hrv2 hrlen2 ht1 ht2 ht3
        clear hTab hbr hg hs1 hs2 hs3 hrlen
        go_wp2_with (first
          | (at_builtin; refine hAP w2 rfl _ _ rfl (T + 1) _ [] rfl hnil ad rn rc (rowL m (A k)) rfl HRV.out hle1 hTle ?_; intro v5 w5 hf5 hg5 hn5 ho5 sv5
             obtain ⟨u1, u2, u3, rfl, _⟩ := id sv5
             have hb5 : Below w2.heap.size w2 w5 := below_of_grown hg5 (Nat.le_refl _) (fun k hk => by cases hk)
             have hT5 := HTAB.out.below hb5
             have hfl5 : ([] ++ rowL m (A k)).length = m := by rw [List.nil_append, rowL_length]
             have HT5 := Lib.hid hT5
             have HF5 := Lib.hid hf5
             have HO5 := Lib.hid ho5
             have HB5 := Lib.hid (below_then HBR.out hb5)
             have hle5 : T + 1 ≤ w5.heap.size := hT5.lt
             have HRV5 := Lib.hid (HRV2.out.below hb5)
             have hrc5 := cell_below hb5 hrc2
             have hsf5 := hf5
             clear hT5 hf5 hg5 hn5 ho5)
          | (at_builtin; refine hAP w5 rfl _ _ rfl (T + 1) (.slice u1 u2 u3) ([] ++ rowL m (A k)) rfl hsf5 ad2 rn2 rc2 (rowL m2 (A2 k)) rfl HRV5.out hle2 hle5 ?_; intro v6 w6 hf6 hg6 hn6 ho6 sv6
             obtain ⟨z1, z2, z3, rfl, _⟩ := id sv6
             have hgb := HF5.out.blk (by rw [List.nil_append, rowL_length]; omega)
             have hT6 := HT5.out.grownR hg6 hn6 (by obtain ⟨g, e1, _, e2, _⟩ := hgb; rw [e1]; intro e; injection e with e; omega) (by
               obtain ⟨ys, y1, y2⟩ := HF5.out
               exact HT5.out.own.kinds y1 (by decide)) (fun i hi => by
               obtain ⟨g, e1, e2⟩ := HTAB.out.old hi
               rw [e1]; rcases HO5.out with h | h <;> rw [h]
               · exact fun e => by cases e
               · intro e; injection e with e; omega)
             have hap6 : ∀ i (hi : i < rs.length), rs[i].ownBlock ≠ (Value.slice z1 z2 z3).ownBlock := fun i hi => by
               obtain ⟨g, e1, e2⟩ := HTAB.out.old hi
               have h52 : w2.heap.size ≤ w5.heap.size := hb5.size
               rw [e1]; rcases ho6 with h | h <;> rw [h]
               · rcases HO5.out with h | h <;> rw [h]
                 · exact fun e => by cases e
                 · intro e; injection e with e; omega
               · intro e; injection e with e; omega
             have HT6 := Lib.hid hT6
             have HF6 := Lib.hid hf6
             have HAP6 := Lib.hid hap6
             have HB6 := Lib.hid (HB5.out.trans (below_of_grown hg6 (by have := HT5.out.lt; omega) (fun k hk => by obtain ⟨g, e1, _, e2, _⟩ := hgb; rw [e1] at hk; injection hk with hk; omega)))
             obtain ⟨_, _, _, _, _, _, t5, _⟩ := hT6.cells
             have hown6 := hT6.own
             have hlen5 : rs.length ≤ 1000 := by rw [hT6.rl]; omega
             have hle6 : T + 1 ≤ w6.heap.size := hT6.lt
             clear hT6 hf6 hg6 hn6 ho6 hap6 hgb hsf5)
          | (at_builtin; refine hAR w6 rfl _ _ rfl (T + 1) _ vR rs rfl hown6 (.slice z1 z2 z3) rfl (fun z => by simp) rfl hlen5 hle6 ?_; intro v7 w7 ho7 hg7 hn7 hq7 sv7
             obtain ⟨y1, y2, y3, rfl, _⟩ := id sv7
             have hpush := HT6.out.push (r := .slice z1 z2 z3) (by have h := HF6.out; rw [List.nil_append, rowL_app] at h; exact h) HAP6.out ho7 hg7
             have HP := Lib.hid hpush
             have HB7 := Lib.hid (HB6.out.trans (hpush.2.mono hTw))
             obtain ⟨_, _, _, _, _, _, t0, _, _, _, _, _, _, _, tf⟩ := HT6.out.cells
             have t7 := (VarB.cell (show VarB w7 T _ from (HT6.out.box.choose_spec.choose_spec.1).grown hg7 (fun e => by have := (HT6.out.own.block T e).1; omega)) 0 rfl)
             have f7 := (VarB.frozen (show VarB w7 T _ from (HT6.out.box.choose_spec.choose_spec.1).grown hg7 (fun e => by have := (HT6.out.own.block T e).1; omega)) 0)
             clear ho7 hg7 hn7 hq7 hpush t0 tf))
        go_roundg (n - (k + 1))
        case measure => (have := HG.out; omega)
        case rel => exact ⟨k + 1, _, _, by omega, rfl, by go_num, HP.out.1, HB7.out⟩
      · obtain rfl : k = n := by omega
        clear hTab hbr hg
        go_wp2_with fail
        go_ret
        exact ⟨T, vR, rs, rfl, HBR.out, HTAB.out, hTw⟩
end Go.Proofs.YtbhkibilnmoljaaGreat
