/-
  package drydockref05, of a matrix of one element: Rank.
  Ahead of it: package drydockref05: copied. package linear: Invert. package linear, of a matrix of one element: Solve, Invert, Rank, at any weight.
-/
import Derived.Test.YtbhkibilnmoljaaGreatQEl3
import Derived.Test.YtbhkibilnmoljaaGreatQLp2
import Derived.Test.YtbhkibilnmoljaaGreatQRg1
import Derived.Test.YtbhkibilnmoljaaGreatQRg3
namespace Go.Proofs.YtbhkibilnmoljaaGreat
set_option linter.unusedVariables false
set_option linter.unusedSimpArgs false
open Go.RowKit

set_option maxRecDepth 100000 in
set_option maxHeartbeats 6400000 in
theorem rcopied_any (va : Value) (a : List (List RF)) (n m : Nat) (w : World) (ha0 : MatN w va a) (hs : shapeP a) (hn : a.length = n) (hm : cols a = m) :
    Calls Tryz.prog 26 #[va] w fun e w' => ∃ v rs, e = .returned v ∧ rs.length = n ∧ MkM w' w.heap.size v rs m (rQ a) ∧ Below w.heap.size w w' := by
  obtain ⟨i3, hi3, hz3, hs3, hy3⟩ := info_parts Tryz.infoF
  have hAP := append1_fr (P := Tryz.prog) 27 25 i3 Tryz.underlying27 hi3 hz3 hs3 hy3
  obtain ⟨i4, hi4, hz4, hs4, hy4⟩ := info_parts Tryz.infoRow
  have hAR := append1_one (P := Tryz.prog) 28 27 i4 _ 24 Tryz.underlying28 hi4 hz4 hs4 hy4 (by decide) rfl (fun z => by simp)
  clear hi3 hz3 hs3 hy3 hi4 hz4 hs4 hy4
  have ha : MatR w va n m (rX a) := by
    have h := ha0.toR hs.cols
    rw [hn, hm] at h; exact h
  have hn24 : n ≤ 24 := by rw [← hn]; exact hs.2.1
  have hm24 : m ≤ 24 := by rw [← hm]; exact hs.2.2.2.1
  have HOK : Hid (∀ i j, i < n → j < m → (rX a i j).ok) := Lib.hid fun i j hi hj => hs.ok (by omega) (by omega)
  have sa := ha.sl
  have la := ha.len
  have HA := Lib.hid ha
  clear ha ha0 hs hn hm
  go_enter Tryz.func26, Tryz.ntmps26
  go_wp2_with fail
  go_loopg [3, 4] (n) (fun g u3 u4 wr => ∃ (i : Nat) (rs : List Value), i ≤ n ∧ g = n - i ∧ u4 = .int .i64 i ∧ rs.length = i ∧ MkM wr w.heap.size u3 rs m (rQ a) ∧ Below w.heap.size w wr)
  case atStart => exact ⟨0, [], Nat.zero_le _, rfl, rfl, rfl, ⟨OwnR.nil _ _ _ _, fun j h => by simp at h, Nat.le_refl _⟩, Below.refl _ _⟩
  case round =>
    obtain ⟨i, rs, hin, hg, rfl, hrs, hmk, hbr⟩ := hrel
    obtain ⟨w2, hw2⟩ : ∃ w2, w2 = wr := ⟨_, rfl⟩
    subst hw2
    have HG := Lib.hid hg
    have HRS := Lib.hid hrs
    have HM := Lib.hid hmk
    have HB2 := Lib.hid hbr
    have svr := hmk.ra.sl
    clear hg hrs hmk
    by_cases hir : i < n
    · have i1 : (0 : Int) ≤ (i : Int) := by omega
      have i2 : (i : Int) < (n : Nat) := by omega
      go_wp2_with fail
      go_loopg [5, 6] (m) (fun g u5 u6 wi => ∃ (k : Nat), k ≤ m ∧ g = m - k ∧ u6 = .int .i64 k ∧ FrRow wi 25 w2.heap.size u5 (rowL k (rQ a i)) ∧ Below w2.heap.size w2 wi)
      case atStart => exact ⟨0, Nat.zero_le _, rfl, rfl, FrRow.nil _ _ _, Below.refl _ _⟩
      case round =>
        obtain ⟨k, hk, hgk, rfl, hfr, hbi⟩ := hrel
        obtain ⟨wb, hwb⟩ : ∃ wb, wb = wr := ⟨_, rfl⟩
        subst hwb
        have HGK := Lib.hid hgk
        have HFR := Lib.hid hfr
        have HBI := Lib.hid hbi
        have srow := hfr.sl
        obtain ⟨r, hcr, hfr2⟩ := (HA.out.below (HB2.out.trans (hbi.mono HB2.out.size))).row i hir
        have slr := hfr2.sl
        have lnr : slen r = m := by rw [hfr2.len, rowF_length]
        obtain ⟨r1, r2, r3, rfl, _⟩ := id slr
        obtain rfl : r2 = m := lnr
        clear hgk hfr
        by_cases hkn : k < r2
        · obtain ⟨ea, eb, g1, g2, g3, g4, g5⟩ := hfr2.at' k (by rw [rowF_length]; exact hkn)
          rw [rowF_get] at g1 g4 g5
          obtain ⟨ea1, ea2, ea3, rfl, _⟩ := g4.slen.1
          obtain ⟨eb1, eb2, eb3, rfl, _⟩ := g5.slen.1
          have HF : Hid (FracN wb (.agg #[.bool (rX a i k).neg, .slice ea1 ea2 ea3, .slice eb1 eb2 eb3]) (rX a i k).neg (rX a i k).n (rX a i k).d) := Lib.hid ⟨_, _, rfl, g4, g5⟩
          have HX := Lib.hid (HOK.out i k hir hkn)
          have hrl : (rowL k (rQ a i)).length ≤ 1000 := by rw [rowL_length]; omega
          have k1 : (0 : Int) ≤ (k : Int) := by omega
          have k2 : (k : Int) < (r2 : Nat) := by omega
          clear g4 g5 hfr2 hbi
          go_wp2_with (first
            | (go_at_call 27; (with_reducible refine (r2reduce_ok _ (rX a i k) _ HF.out HX.out).mono ?_); rintro e13 w13 ⟨v13, rfl, hv13, hb13⟩
               obtain ⟨t13, x13, y13, rfl, ⟨a131, l131, k131, rfl, q131⟩, ⟨a132, l132, k132, rfl, q132⟩⟩ := hv13.isF
               have hba := below_alloc w13 (.cells #[.bool t13, .slice a131 l131 k131, .slice a132 l132 k132] 25)
               have hb14 := below_then hb13 hba
               have hv14 := hv13.below hba
               have hfr5 := HFR.out.moves (Moves.below (B := w2.heap.size) hb14) (Nat.le_refl _)
               have hsz5 := Nat.le_trans HBI.out.size hb14.size
               have sz1 : (w13.alloc (.cells #[.bool t13, .slice a131 l131 k131, .slice a132 l132 k132] 25)).heap.size = w13.heap.size + 1 := (by simp)
               have SZ1 := Lib.hid sz1
               obtain ⟨_, c0, c1, c2, _, _, _⟩ := C3.new w13 25 (.bool t13) (.slice a131 l131 k131) (.slice a132 l132 k132)
               clear sz1)
            | (at_builtin; refine hAP (w13.alloc (.cells #[.bool t13, .slice a131 l131 k131, .slice a132 l132 k132] 25)) rfl _ _ rfl w2.heap.size _ u5 (rowL k (rQ a i)) rfl hfr5 _ _ _ (rX a i k).q hv14 (by rw [SZ1.out]; rfl) hrl hsz5 ?_; intro v4' w50 ho50 hg50 hn50 hq50 sv50
               have hg5 : Below w2.heap.size (w13.alloc (.cells #[.bool t13, .slice a131 l131 k131, .slice a132 l132 k132] 25)) w50 := below_of_grown hg50 hsz5 (fun k hk => (hfr5.block k hk).1)
               have HO50 := Lib.hid ho50))
          go_roundg (r2 - (k + 1))
          case measure => (have := HGK.out; omega)
          case rel => exact ⟨k + 1, by omega, rfl, by go_num, by rw [← rowL_snoc]; exact HO50.out, (below_then2 HBI.out hb14 HBI.out.size).trans hg5⟩
        · obtain rfl : r2 = k := by omega
          obtain ⟨a11, l11, k11, rfl, _⟩ := id srow
          have hm5 := HM.out.below hbi
          have hra := hm5.ra
          have hsz5 := hm5.sz
          have hlen : rs.length ≤ 1000 := by rw [HRS.out]; omega
          have HM5 := Lib.hid hm5
          have HR5 : Hid (FrRow wb 25 w.heap.size (.slice a11 l11 k11) (rowL r2 (rQ a rs.length))) := Lib.hid (by rw [HRS.out]; exact HFR.out.mono HB2.out.size)
          clear hm5
          go_wp2_with (first
            | (at_builtin; refine hAR _ rfl _ _ rfl w.heap.size _ u3 rs rfl hra (.slice a11 l11 k11) rfl (fun z => by simp) rfl hlen hsz5 ?_; intro v5' w21 ho21 hg21 hn21 hq21 sv21
               have hG := HM5.out.push HR5.out ho21 hg21 hn21
               have HG5 := Lib.hid hG
               clear hG))
          go_roundg (n - (i + 1))
          case measure => (have := HG.out; omega)
          case rel => exact ⟨i + 1, _, by omega, rfl, by go_num, by rw [List.length_append, HRS.out]; rfl, HG5.out.1, (below_then2 HB2.out hbi HB2.out.size).trans HG5.out.2⟩
    · obtain rfl : n = i := by omega
      go_wp2_with fail
      go_ret
      exact ⟨_, rs, rfl, HRS.out, HM.out, hbr⟩
end Go.Proofs.YtbhkibilnmoljaaGreat
namespace Go.Proofs.YtbhkibilnmoljaaGreat
set_option linter.unusedVariables false
set_option linter.unusedSimpArgs false
open Go.RowKit

set_option maxRecDepth 100000 in
set_option maxHeartbeats 3200000 in
theorem invert_lin (va : Value) (n : Nat) (A : Mx) (w : World) (ha : MatF w va n n A) (hn1 : 1 ≤ n) (hn : n ≤ 24) (hf : fitM n n A) (hw : wtF n n A ≤ 1900)
    (hX : slimE false n (n + n) n (besideM n A oneM)) (hq : ∀ i, i < n → (elim false n (besideM n A oneM) n).r = n → (elim false n (besideM n A oneM) n).A i i ≠ 0 ∧ ∀ j, j < n → fits (invM n A i j)) :
    Calls Tryz.prog 7 #[va] w (RRight w n n (elim false n (besideM n A oneM) n)) := by
  have HF := Lib.hid hf
  have HX := Lib.hid hX
  have HQ : Hid (∀ i, i < n → (elim false n (besideM n A oneM) n).r = n → (elim false n (besideM n A oneM) n).A i i ≠ 0 ∧ ∀ j, j < n → fits ((elim false n (besideM n A oneM) n).A i (n + j) / (elim false n (besideM n A oneM) n).A i i)) := Lib.hid hq
  have hwi : (wtF n n A : Int) ≤ 1900 := by omega
  obtain ⟨W1, hW1⟩ : ∃ W, wtF n n A = W := ⟨_, rfl⟩
  rw [hW1] at hwi
  have HW1 := Lib.hid hW1
  have sa := ha.sl
  have la := ha.len
  have HA := Lib.hid ha
  clear hW1 ha hf hX hq hw
  go_enter Tryz.func7, Tryz.ntmps7
  go_wp2_with (first
    | (go_at_call 17; (with_reducible refine (square_lin va n n A _ HA.out hn1 hn hn1 hn HF.out rfl).mono ?_); rintro e1 w1 ⟨rfl, hb1⟩)
    | (go_at_call 19; (with_reducible refine (weight_lin va n n A _ (HA.out.below hb1) hn hn HF.out).mono ?_); rw [HW1.out]; rintro e3 w3 ⟨rfl, hb3⟩
       have hB3 := below_then hb1 hb3)
    | (go_at_call 29; (with_reducible refine (ident_lin n _ hn1 hn).mono ?_); rintro e4 w4 ⟨v4, rfl, hm4, hb4⟩
       have hB4 := below_then hB3 hb4
       have hA4 := HA.out.below hB4
       obtain ⟨l1, l2, l3, rfl, hl3⟩ := id hm4.sl
       have hl1 : ∃ bd, l1 = some bd := (by
         cases l1 with
         | none => exfalso; have h1 := hm4.len; have h2 := hl3.2.2 rfl; have h3 : l2 = n := h1; omega
         | some bd => exact ⟨bd, rfl⟩)
       obtain ⟨bd, rfl⟩ := hl1)
    | (go_at_call 20; (with_reducible refine (right_lin va bd l2 l3 n n A oneM _ hA4 hm4 hn1 hn hn1 hn HX.out HQ.out).mono ?_); rintro e7 w7 ⟨v7, er7, rfl, hb7, hs7, ht7⟩))
  go_ret2
  exact ⟨_, _, rfl, below_then hB4 hb7, hs7, ht7⟩
end Go.Proofs.YtbhkibilnmoljaaGreat
namespace Go.Proofs.YtbhkibilnmoljaaGreat
set_option linter.unusedVariables false
set_option linter.unusedSimpArgs false
open Go.RowKit

theorem pvt_one {M : Mx} (h : M 0 0 ≠ 0) : pvt 1 0 ⟨M, 0, 1⟩ = 0 := by
  unfold pvt
  show fp (fun i => decide (M i 0 ≠ 0)) 1 0 = 0
  rw [fp, if_pos (by simpa using h)]
theorem redu_one (b : Bool) (M : Mx) (j : Nat) : redu b (swp M 0 0) 0 0 0 j = M 0 j := by
  rw [redu_row (fun h => h.1 rfl), swp_at]
theorem elim_one (b : Bool) {M : Mx} (h : M 0 0 ≠ 0) : (elim b 1 M 1).r = 1 ∧ (∀ j, (elim b 1 M 1).A 0 j = M 0 j) ∧ (elim b 1 M 1).d = 1 * M 0 0 := by
  have e : pvt 1 0 (elim b 1 M 0) = 0 := pvt_one h
  have e1 : elim b 1 M 1 = ⟨redu b (swp M 0 0) 0 0, 1, 1 * M 0 0⟩ := by
    rw [elim, estep, e, if_pos (by decide)]
    show (⟨redu b (swp M 0 0) 0 0, 0 + 1, (if (0 : Nat) = 0 then (1 : Rat) else -1) * swp M 0 0 0 0⟩ : St) = _
    rw [if_pos rfl, swp_at]
  rw [e1]
  exact ⟨rfl, fun j => redu_one b M j, rfl⟩
theorem fits_neg1 : fits (-1) := by decide
theorem slim_one (b : Bool) {m : Nat} {M : Mx} (h : M 0 0 ≠ 0) (hf : ∀ j, j < m → fits (M 0 j)) (hm : 0 < m) : slimE b 1 m 1 M := by
  intro k hk
  rcases (show k = 0 ∨ k = 1 by omega) with rfl | rfl
  · refine ⟨fun a c ha hc => ?_, fits_one, fun _ => ?_⟩
    · obtain rfl : a = 0 := by omega
      exact hf c hc
    · intro _
      have e : pvt 1 0 (elim b 1 M 0) = 0 := pvt_one h
      rw [e]
      refine ⟨fits_neg1, ?_, fun i hi hact => absurd (show i = (elim b 1 M 0).r by show i = 0; omega) hact.1⟩
      have e1 : (if (0 : Nat) = (elim b 1 M 0).r then (elim b 1 M 0).d else -(elim b 1 M 0).d) * swp (elim b 1 M 0).A (elim b 1 M 0).r 0 (elim b 1 M 0).r 0 = 1 * M 0 0 := by
        have e0 : (elim b 1 M 0).r = 0 := rfl
        rw [e0, if_pos rfl, swp_at]; rfl
      rw [e1, Rat.one_mul]
      exact hf 0 hm
  · obtain ⟨h1, h2, h3⟩ := elim_one b h
    refine ⟨fun a c ha hc => ?_, ?_, fun h => absurd h (by omega)⟩
    · obtain rfl : a = 0 := by omega
      rw [h2]; exact hf c hc
    · rw [h3, Rat.one_mul]; exact hf 0 hm
/-- The matrix of one element. -/
def elM (p : Rat) : Mx := fun _ _ => p
theorem wtF_one (p : Rat) : wtF 1 1 (elM p) = wt p := by
  unfold wtF rawM wtsM elM
  simp [rowL, qs, wts, RF.of_q]
theorem wts_one (q : Rat) : wts (qs (rawV 1 (fun _ => q))) = wt q := by
  unfold rawV
  simp [rowL, qs, wts, RF.of_q]
def solAns (p q : Rat) : List Rat × Nat := if 1900 < wt p + wt q then ([], 2) else ([q / p], 0)
def invAns (p : Rat) : List (List Rat) × Nat := if 1900 < wt p then ([], 2) else ([[1 / p]], 0)
def rkAns (p : Rat) : Nat × Nat := if 1900 < wt p then (0, 2) else (1, 0)
def RAnsN (w0 : World) (r : Nat × Nat) (e : Ending) (w : World) : Prop := e = .returned (.tuple #[.int .i64 (r.1 : Nat), .int .i64 (r.2 : Nat)]) ∧ Below w0.heap.size w0 w
theorem elM_fit {p : Rat} (h : fits p) : fitM 1 1 (elM p) := fun _ _ _ _ => h
section
variable {va vb : Value} {p q : Rat} {w : World}
theorem solve1_ok (ha : MatF w va 1 1 (elM p)) (hb : FracsC w vb [q]) (h0 : p ≠ 0) (hp : fits p) (hq : fits q) (hqp : fits (q / p)) (hw : wt p + wt q ≤ 1900) : Calls Tryz.prog 5 #[va, vb] w (RAnsV w ([q / p], 0)) := by
  have hX : slimE false 1 2 1 (besideM 1 (elM p) (fun i _ => q)) := slim_one false (M := besideM 1 (elM p) (fun i _ => q)) (by unfold besideM elM; rw [if_pos (by decide)]; exact h0) (fun j hj => by unfold besideM elM; split <;> assumption) (by decide)
  obtain ⟨e1, e2, _⟩ := elim_one false (M := besideM 1 (elM p) (fun i _ => q)) (by unfold besideM elM; rw [if_pos (by decide)]; exact h0)
  have e00 : besideM 1 (elM p) (fun i _ => q) 0 0 = p := by unfold besideM elM; rw [if_pos (by decide)]
  have e01 : besideM 1 (elM p) (fun i _ => q) 0 1 = q := by unfold besideM; rw [if_neg (by decide)]
  refine (solve_lin va vb 1 (elM p) (fun _ => q) w ha hb (by decide) (by decide) (elM_fit hp) (fun _ _ => hq) (by rw [wtF_one, wts_one]; exact hw) hX (fun i hi _ => ?_)).mono ?_
  · obtain rfl : i = 0 := by omega
    rw [e2, e2, e00, e01]
    exact ⟨h0, hqp⟩
  · rintro e w' ⟨v, er, rfl, h1, _, h2⟩
    obtain ⟨rfl, h3⟩ := h2 (by rw [e1]; decide)
    refine ⟨v, rfl, ?_, h1⟩
    have e9 : (rowL 1 fun i => (elim false 1 (besideM 1 (elM p) fun i _ => q) 1).A i 1 / (elim false 1 (besideM 1 (elM p) fun i _ => q) 1).A i i) = [q / p] := by
      simp [rowL, e2, e00, e01]
    rw [← e9]; exact h3
theorem invert1_ok (ha : MatF w va 1 1 (elM p)) (h0 : p ≠ 0) (hp : fits p) (hqp : fits (1 / p)) (hw : wt p ≤ 1900) : Calls Tryz.prog 7 #[va] w (RAnsM w ([[1 / p]], 0)) := by
  have e00 : besideM 1 (elM p) oneM 0 0 = p := by unfold besideM elM; rw [if_pos (by decide)]
  have e01 : besideM 1 (elM p) oneM 0 1 = 1 := by unfold besideM oneM; rw [if_neg (by decide), if_pos (by decide)]
  have hX : slimE false 1 2 1 (besideM 1 (elM p) oneM) := slim_one false (M := besideM 1 (elM p) oneM) (by rw [e00]; exact h0) (fun j hj => by
    rcases (show j = 0 ∨ j = 1 by omega) with rfl | rfl
    · rw [e00]; exact hp
    · rw [e01]; exact fits_one) (by decide)
  obtain ⟨e1, e2, _⟩ := elim_one false (M := besideM 1 (elM p) oneM) (by rw [e00]; exact h0)
  refine (invert_lin va 1 (elM p) w ha (by decide) (by decide) (elM_fit hp) (by rw [wtF_one]; exact hw) hX (fun i hi _ => ?_)).mono ?_
  · obtain rfl : i = 0 := by omega
    refine ⟨by rw [e2, e00]; exact h0, fun j hj => ?_⟩
    obtain rfl : j = 0 := by omega
    unfold invM
    rw [e2, e2, e00, e01]
    exact hqp
  · rintro e w' ⟨v, er, rfl, h1, _, h2⟩
    obtain ⟨rfl, h3⟩ := h2 (by rw [e1]; decide)
    refine ⟨v, rfl, ?_, h1⟩
    have h4 := h3.matC
    have e9 : ((List.range 1).map fun i => rowL 1 ((fun i j => (elim false 1 (besideM 1 (elM p) oneM) 1).A i (1 + j) / (elim false 1 (besideM 1 (elM p) oneM) 1).A i i) i)) = [[1 / p]] := by
      simp [rowL, e2, e00, e01]
    rw [← e9]; exact h4
theorem rank1_ok (ha : MatF w va 1 1 (elM p)) (h0 : p ≠ 0) (hp : fits p) (hw : wt p ≤ 1900) : Calls Tryz.prog 9 #[va] w (RAnsN w (1, 0)) := by
  have hX : slimE true 1 1 1 (elM p) := slim_one true (M := elM p) h0 (fun j hj => hp) (by decide)
  obtain ⟨e1, _, _⟩ := elim_one true (M := elM p) h0
  refine (rank_lin va 1 1 (elM p) w ha (by decide) (by decide) (by decide) (by decide) (elM_fit hp) (by rw [wtF_one]; exact hw) hX).mono ?_
  rintro e w' ⟨rfl, h1⟩
  rw [e1]
  exact ⟨rfl, h1⟩
end
set_option maxHeartbeats 800000 in
theorem solve1_big (va vb : Value) (p q : Rat) (w : World) (ha : MatF w va 1 1 (elM p)) (hb : FracsC w vb [q]) (hp : fits p) (hq : fits q) (hw : 1900 < wt p + wt q) : Calls Tryz.prog 5 #[va, vb] w (RAnsV w ([], 2)) := by
  obtain ⟨v1, v2, v3, rfl, _⟩ := id hb.sl
  have sa := ha.sl
  have la := ha.len
  obtain rfl : v2 = 1 := hb.len
  have hv : vecP (rawV 1 (fun _ => q)) 1 := ⟨rawV_ok (fun _ _ => hq), rawV_length 1 _⟩
  have HV := Lib.hid hv
  have HB : Hid (FracsN w (.slice v1 1 v3) (rawV 1 (fun _ => q))) := Lib.hid (by have h := hb.raw; exact h)
  have HA := Lib.hid ha
  have HF := Lib.hid (elM_fit hp)
  have wl1 := wt_le hp
  have wl2 := wt_le hq
  obtain ⟨W1, hW1⟩ : ∃ W, wt p = W := ⟨_, rfl⟩
  obtain ⟨W2, hW2⟩ : ∃ W, wt q = W := ⟨_, rfl⟩
  rw [hW1] at wl1
  rw [hW2] at wl2
  rw [hW1, hW2] at hw
  have HW1 : Hid (wtF 1 1 (elM p) = W1) := Lib.hid (by rw [wtF_one]; exact hW1)
  have HW2 : Hid (wtsM [rawV 1 (fun _ => q)] = W2) := Lib.hid (by rw [wtsM_one, wts_one]; exact hW2)
  have hwi : (1900 : Int) < (W1 : Int) + (W2 : Nat) := by omega
  have HO1 : Hid (∀ y ∈ [rawV 1 (fun _ => q)], ∀ x ∈ y, x.ok) := Lib.hid (fun y hy x hx => by
    have : y = rawV 1 (fun _ => q) := by simpa using hy
    subst this; exact hv.1 x hx)
  have HO2 : Hid (∀ y ∈ [rawV 1 (fun _ => q)], y.length ≤ 65536) := Lib.hid (fun y hy => by
    have : y = rawV 1 (fun _ => q) := by simpa using hy
    subst this; rw [rawV_length]; decide)
  have HO3 : Hid ([rawV 1 (fun _ => q)].length ≤ 65536) := Lib.hid (by simp)
  clear ha hb hW1 hW2 hv hw
  have HSQ : Hid (∀ w0, MatF w0 va 1 1 (elM p) → Calls Tryz.prog 17 #[va] w0 fun e w' => e = .returned (.bool true) ∧ Below w0.heap.size w0 w') := Lib.hid (fun w0 h => square_lin va 1 1 (elM p) w0 h (by decide) (by decide) (by decide) (by decide) HF.out rfl)
  have HVC : Hid (∀ w0, FracsN w0 (.slice v1 1 v3) (rawV 1 (fun _ => q)) → Calls Tryz.prog 18 #[.slice v1 1 v3, .int .i64 1] w0 fun e w' => e = .returned (.bool true) ∧ Below w0.heap.size w0 w') := Lib.hid (fun w0 h => (lvector_any _ (rawV 1 (fun _ => q)) 1 w0 h (by decide)).mono fun e w' h => by rw [decide_eq_true HV.out] at h; exact h)
  go_enter Tryz.func5, Tryz.ntmps5
  go_wp2_with (first
    | (go_at_call 17; (with_reducible refine (HSQ.out _ HA.out).mono ?_); rintro e1 w1 ⟨rfl, hb1⟩)
    | (go_at_call 18; (with_reducible refine (HVC.out _ (HB.out.below hb1)).mono ?_); rintro e2 w2 ⟨rfl, hb2⟩
       have hB2 := below_then hb1 hb2)
    | (go_at_call 19; first
       | ((with_reducible refine (weight_lin va 1 1 (elM p) _ (HA.out.below hB2) (by decide) (by decide) HF.out).mono ?_); rw [HW1.out]; rintro e3 w3 ⟨rfl, hb3⟩
          have hB3 := below_then hB2 hb3
          have hb4 := below_alloc w3 (.cells #[.slice v1 1 v3] 27)
          have hM4 := mat_one (VarB.new w3 #[.slice v1 1 v3] 27) (HB.out.below (below_then hB3 hb4)))
       | ((with_reducible refine (lweight_any _ [rawV 1 (fun _ => q)] _ hM4 HO1.out HO2.out HO3.out).mono ?_); rw [HW2.out]; rintro e5 w5 ⟨rfl, hb5⟩
          have hB5 := below_then (below_then hB3 hb4) hb5
          clear hM4)))
  go_ret2
  exact ⟨_, rfl, FracsC.nil _, hB5⟩
set_option maxHeartbeats 800000 in
theorem invert1_big (va : Value) (p : Rat) (w : World) (ha : MatF w va 1 1 (elM p)) (hp : fits p) (hw : 1900 < wt p) : Calls Tryz.prog 7 #[va] w (RAnsM w ([], 2)) := by
  have sa := ha.sl
  have la := ha.len
  have HA := Lib.hid ha
  have HF := Lib.hid (elM_fit hp)
  have wl1 := wt_le hp
  obtain ⟨W1, hW1⟩ : ∃ W, wt p = W := ⟨_, rfl⟩
  rw [hW1] at wl1 hw
  have HW1 : Hid (wtF 1 1 (elM p) = W1) := Lib.hid (by rw [wtF_one]; exact hW1)
  have hwi : (1900 : Int) < (W1 : Int) := by omega
  have HSQ : Hid (∀ w0, MatF w0 va 1 1 (elM p) → Calls Tryz.prog 17 #[va] w0 fun e w' => e = .returned (.bool true) ∧ Below w0.heap.size w0 w') := Lib.hid (fun w0 h => square_lin va 1 1 (elM p) w0 h (by decide) (by decide) (by decide) (by decide) HF.out rfl)
  have HSH : Hid (∀ w0, MatF w0 va 1 1 (elM p) → Calls Tryz.prog 31 #[va] w0 fun e w' => e = .returned (.tuple #[.int .i64 1, .int .i64 1, .bool true]) ∧ Below w0.heap.size w0 w') := Lib.hid (fun w0 h => shape_lin va 1 1 (elM p) w0 h (by decide) (by decide) (by decide) (by decide) HF.out)
  clear ha hW1 hw
  go_enter Tryz.func7, Tryz.ntmps7
  go_wp2_with (first
    | (go_at_call 17; (with_reducible refine (HSQ.out _ HA.out).mono ?_); rintro e1 w1 ⟨rfl, hb1⟩)
    | (go_at_call 31; (with_reducible refine (HSH.out _ HA.out).mono ?_); rintro e1 w1 ⟨rfl, hb1⟩)
    | (go_at_call 19; (with_reducible refine (weight_lin va 1 1 (elM p) _ (HA.out.below hb1) (by decide) (by decide) HF.out).mono ?_); rw [HW1.out]; rintro e3 w3 ⟨rfl, hb3⟩
       have hB3 := below_then hb1 hb3))
  go_ret2
  exact ⟨_, rfl, MatC.nil _, hB3⟩
set_option maxHeartbeats 800000 in
theorem rank1_big (va : Value) (p : Rat) (w : World) (ha : MatF w va 1 1 (elM p)) (hp : fits p) (hw : 1900 < wt p) : Calls Tryz.prog 9 #[va] w (RAnsN w (0, 2)) := by
  have sa := ha.sl
  have la := ha.len
  have HA := Lib.hid ha
  have HF := Lib.hid (elM_fit hp)
  have wl1 := wt_le hp
  obtain ⟨W1, hW1⟩ : ∃ W, wt p = W := ⟨_, rfl⟩
  rw [hW1] at wl1 hw
  have HW1 : Hid (wtF 1 1 (elM p) = W1) := Lib.hid (by rw [wtF_one]; exact hW1)
  have hwi : (1900 : Int) < (W1 : Int) := by omega
  have HSQ : Hid (∀ w0, MatF w0 va 1 1 (elM p) → Calls Tryz.prog 17 #[va] w0 fun e w' => e = .returned (.bool true) ∧ Below w0.heap.size w0 w') := Lib.hid (fun w0 h => square_lin va 1 1 (elM p) w0 h (by decide) (by decide) (by decide) (by decide) HF.out rfl)
  have HSH : Hid (∀ w0, MatF w0 va 1 1 (elM p) → Calls Tryz.prog 31 #[va] w0 fun e w' => e = .returned (.tuple #[.int .i64 1, .int .i64 1, .bool true]) ∧ Below w0.heap.size w0 w') := Lib.hid (fun w0 h => shape_lin va 1 1 (elM p) w0 h (by decide) (by decide) (by decide) (by decide) HF.out)
  clear ha hW1 hw
  go_enter Tryz.func9, Tryz.ntmps9
  go_wp2_with (first
    | (go_at_call 17; (with_reducible refine (HSQ.out _ HA.out).mono ?_); rintro e1 w1 ⟨rfl, hb1⟩)
    | (go_at_call 31; (with_reducible refine (HSH.out _ HA.out).mono ?_); rintro e1 w1 ⟨rfl, hb1⟩)
    | (go_at_call 19; (with_reducible refine (weight_lin va 1 1 (elM p) _ (HA.out.below hb1) (by decide) (by decide) HF.out).mono ?_); rw [HW1.out]; rintro e3 w3 ⟨rfl, hb3⟩
       have hB3 := below_then hb1 hb3))
  go_ret2
  exact ⟨rfl, hB3⟩
theorem solve1_any (va vb : Value) (p q : Rat) (w : World) (ha : MatF w va 1 1 (elM p)) (hb : FracsC w vb [q]) (h0 : p ≠ 0) (hp : fits p) (hq : fits q) (hqp : fits (q / p)) : Calls Tryz.prog 5 #[va, vb] w (RAnsV w (solAns p q)) := by
  unfold solAns
  split
  · next h => exact solve1_big va vb p q w ha hb hp hq h
  · next h => exact solve1_ok ha hb h0 hp hq hqp (by omega)
theorem invert1_any (va : Value) (p : Rat) (w : World) (ha : MatF w va 1 1 (elM p)) (h0 : p ≠ 0) (hp : fits p) (hqp : fits (1 / p)) : Calls Tryz.prog 7 #[va] w (RAnsM w (invAns p)) := by
  unfold invAns
  split
  · next h => exact invert1_big va p w ha hp h
  · next h => exact invert1_ok ha h0 hp hqp (by omega)
theorem rank1_any (va : Value) (p : Rat) (w : World) (ha : MatF w va 1 1 (elM p)) (h0 : p ≠ 0) (hp : fits p) : Calls Tryz.prog 9 #[va] w (RAnsN w (rkAns p)) := by
  unfold rkAns
  split
  · next h => exact rank1_big va p w ha hp h
  · next h => exact rank1_ok ha h0 hp (by omega)
end Go.Proofs.YtbhkibilnmoljaaGreat
namespace Go.Proofs.YtbhkibilnmoljaaGreat
set_option linter.unusedVariables false
set_option linter.unusedSimpArgs false
open Go.RowKit

theorem q_self {p : Rat} (h : p ≠ 0) : p / p = 1 := by rw [Rat.div_def]; exact Rat.mul_inv_cancel p h
theorem MkM.one {w : World} {B m : Nat} {v : Value} {rs : List Value} {A : Mx} (h : MkM w B v rs m A) (hl : rs.length = 1) (hm : 0 < m) : ∃ r, OneT w B w.heap.size v r m (A 0) := by
  obtain ⟨r, rfl⟩ := List.length_eq_one_iff.1 hl
  obtain ⟨g, hg1, hg2, hg3, hg4, _⟩ := h.ra.blk (by simp)
  have hr := h.rows 0 (by simp)
  obtain ⟨g', k1, k2, k3, k4, _⟩ := hr.blk (by rw [rowL_length]; exact hm)
  exact ⟨r, h.ra, hr, hm, by rw [hg2]; exact hg4, by rw [show (base r).block = g' from k2]; exact k4, Nat.le_refl _⟩
theorem OneT.up {w : World} {B S n : Nat} {vt r : Value} {x : Nat → Rat} (h : OneT w B S vt r n x) : OneT w B w.heap.size vt r n x :=
  ⟨h.t, h.row, h.n0, Nat.lt_of_lt_of_le h.bt h.sz, Nat.lt_of_lt_of_le h.br h.sz, Nat.le_refl _⟩
theorem OneT.congr {w : World} {B S n : Nat} {vt r : Value} {x y : Nat → Rat} (h : OneT w B S vt r n x) (hxy : ∀ j, j < n → x j = y j) : OneT w B S vt r n y := by
  have e : rowL n x = rowL n y := by
    unfold rowL
    exact List.map_congr_left fun j hj => hxy j (List.mem_range.1 hj)
  exact ⟨h.t, e ▸ h.row, h.n0, h.bt, h.br, h.sz⟩
theorem el1_q (p : Rat) : rQ (rawM 1 1 (elM p)) 0 0 = p := by
  simp [rQ, rX, rawM, elM, rowL, RF.of_q]
theorem el1_cols (p : Rat) : cols (rawM 1 1 (elM p)) = 1 := by
  simp [cols, rawM, rowL]

set_option maxRecDepth 100000 in
set_option maxHeartbeats 3200000 in
theorem rrank1_any (va : Value) (p : Rat) (w : World) (ha : MatF w va 1 1 (elM p)) (h0 : p ≠ 0) (hp : fits p) : Calls Tryz.prog 10 #[va] w (RAnsN w (rkAns p)) := by
  have HS : Hid (shapeP (rawM 1 1 (elM p))) := Lib.hid (rawM_shape (by decide) (by decide) (by decide) (by decide) (elM_fit hp))
  have HC : Hid ((rawM 1 1 (elM p)).length = 1 ∧ cols (rawM 1 1 (elM p)) = 1) := Lib.hid ⟨rawM_length _ _ _, el1_cols p⟩
  have HN : Hid (MatN w va (rawM 1 1 (elM p))) := Lib.hid ha.raw
  have HQ1 : Hid (rQ (rawM 1 1 (elM p)) 0 0 = p) := Lib.hid (el1_q p)
  have HW : Hid (wtsM (rawM 1 1 (elM p)) = wt p) := Lib.hid (wtF_one p)
  obtain ⟨a, hra⟩ : ∃ a, rawM 1 1 (elM p) = a := ⟨_, rfl⟩
  rw [hra] at HS HC HN HQ1 HW
  have H0 := Lib.hid h0
  have HP := Lib.hid hp
  clear hra h0 hp
  have sa := ha.sl
  clear ha
  obtain ⟨W, hW⟩ : ∃ W, wt p = W := ⟨_, rfl⟩
  rw [hW] at HW
  unfold rkAns
  rw [hW]
  clear hW
  by_cases hw : 1900 < W
  · rw [if_pos hw]
    have hwi : (1900 : Int) < (W : Int) := by omega
    go_enter Tryz.func10, Tryz.ntmps10
    go_wp2_with (first
      | (go_at_call 22; (with_reducible refine (rshape_ok va a 1 1 _ HN.out HS.out HC.out.1 HC.out.2).mono ?_); rintro e1 w1 ⟨rfl, hb1⟩)
      | (go_at_call 24; (with_reducible refine (rweights_any va a _ (HN.out.below hb1) HS.out).mono ?_); rw [HW.out]; rintro e2 w2 ⟨rfl, hb2⟩
         have hB2 := below_then hb1 hb2))
    go_ret2
    exact ⟨rfl, hB2⟩
  · rw [if_neg hw]
    have hwi : ¬ (1900 : Int) < (W : Int) := by omega
    go_enter Tryz.func10, Tryz.ntmps10
    go_wp2_with (first
      | (go_at_call 22; (with_reducible refine (rshape_ok va a 1 1 _ HN.out HS.out HC.out.1 HC.out.2).mono ?_); rintro e1 w1 ⟨rfl, hb1⟩)
      | (go_at_call 24; (with_reducible refine (rweights_any va a _ (HN.out.below hb1) HS.out).mono ?_); rw [HW.out]; rintro e2 w2 ⟨rfl, hb2⟩
         have hB2 := below_then hb1 hb2)
      | (go_at_call 26; (with_reducible refine (rcopied_any va a 1 1 _ (HN.out.below hB2) HS.out HC.out.1 HC.out.2).mono ?_); rintro e3 w3 ⟨v3, rs3, rfl, hl3, hm3, hb3⟩
         obtain ⟨r3, ht3⟩ := hm3.one hl3 (by decide)
         have hsz3 := hm3.sz
         have HT3 := Lib.hid ht3
         clear ht3 hm3)
      | (go_at_call 28; (with_reducible refine (relim_one v3 r3 _ 1 _ _ HT3.out hsz3 (by decide) (by rw [HQ1.out]; exact H0.out) (fun k hk => by obtain rfl : k = 0 := (by omega); rw [HQ1.out]; exact HP.out) (fun k hk => by obtain rfl : k = 0 := (by omega); rw [HQ1.out, q_self H0.out]; exact fits_one)).mono ?_); rintro e4 w4 ⟨d4, rfl, hd4, ht4, hb4⟩
         obtain ⟨t4, x4, y4, rfl, ⟨a41, l41, k41, rfl, _⟩, ⟨a42, l42, k42, rfl, _⟩⟩ := hd4
         have hB4 := below_then hB2 (hb3.trans hb4)
         have hB5 := below_then hB4 (below_alloc w4 (.cells #[.bool t4, .slice a41 l41 k41, .slice a42 l42 k42] 25))))
    go_ret2
    exact ⟨rfl, hB5⟩
end Go.Proofs.YtbhkibilnmoljaaGreat
