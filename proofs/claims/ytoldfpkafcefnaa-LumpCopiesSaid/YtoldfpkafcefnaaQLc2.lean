/-
  LumpCopies: for every tape the law returns true, and the tape reads as it did. No condition.
  Ahead of it: package drydocklaw22: LumpCopies, the walk.
-/
import Derived.Test.YtoldfpkafcefnaaQCp2
import Derived.Test.YtoldfpkafcefnaaQAw2
import Derived.Test.YtoldfpkafcefnaaRows
import Derived.WalkKit
import Derived.ProofKit
import Derived.OpenShut
import Derived.ChangeSlices
namespace Go.Proofs.Ytoldfpkafcefnaa
set_option linter.unusedVariables false
set_option linter.unusedSimpArgs false
open Go.RowKit

set_option maxRecDepth 100000 in
set_option maxHeartbeats 3200000 in
theorem copies_law (v : Value) (l : List Nat) (w : World) (h : CellsV w v (bytes l)) (hb : ∀ x ∈ l, x < 256) :
    Calls Try.prog 4 #[v] w (fun e w' => e = .returned (.bool true) ∧ Below w.heap.size w w') := by
  go_enter Try.func4, Try.ntmps4
  go_wp2_with (first
    | (go_at_call 12; (with_reducible refine (new_any _ l _ h hb).mono ?_); rintro e1 w1 ⟨bt, rfl, hbt, hT1, hbel1⟩)
    | (go_at_call 13; (with_reducible refine (chain_any bt 0 _ _ hT1).mono ?_); rintro e2 w2 ⟨v2, c, a2, rfl, hC2, hTP, hT2, hsz2, hfr2⟩
       obtain ⟨vr, vs, vl, rfl, m1, m2, m3⟩ := id hC2
       obtain ⟨ar, nr, kr, rfl, _⟩ := id m1.sl
       obtain ⟨as', ns, ks, rfl, _⟩ := id m2.sl
       obtain ⟨al, nl, kl, rfl, _⟩ := id (CellsV.sl m3)
       have hb12 := hbel1.trans (hfr2 _ hbt hbel1.size)
       have HTP := Lib.hid hTP
       have ba3 := below_alloc w2 (.cells #[.slice ar nr kr, .slice as' ns ks, .slice al nl kl] 27)
       have hC3 := C3.new w2 27 (.slice ar nr kr) (.slice as' ns ks) (.slice al nl kl)
       have HCH := Lib.hid (hC2.below ba3)
       have HC3 := Lib.hid hC3
       have HT3 := Lib.hid (hT2.below ba3)
       have HB3 := Lib.hid (hb12.trans (ba3.mono hb12.size))
       obtain ⟨_, c0, c1, c2, _, _, _⟩ := id hC3
       clear hC2 m1 m2 m3 hC3 hTP hfr2 hT2 ba3 hb12)
    | (go_at_call 14; (with_reducible refine (copies_any bt a2 _ _ c _ HT3.out HCH.out HTP.out).mono ?_); rintro e4 w4 ⟨vd, vo, of, share, a4, rfl, hD, hOf, hCP, hT4, hKp, hsz4, hfr4⟩
       obtain ⟨dr, ds, dl, rfl, k1, k2, k3⟩ := id hD
       obtain ⟨ard, nrd, krd, rfl, _⟩ := id k1.sl
       obtain ⟨asd, nsd, ksd, rfl, _⟩ := id k2.sl
       obtain ⟨ald, nld, kld, rfl, _⟩ := id (CellsV.sl k3)
       have HCP := Lib.hid hCP
       have ba5 := below_alloc w4 (.cells #[.slice ard nrd krd, .slice asd nsd ksd, .slice ald nld kld] 27)
       have HB4 := Lib.hid (below_then (HB3.out.trans (hfr4 w.heap.size hbt HB3.out.size)) (ba5.mono (Nat.le_refl _)))
       have HC5 := Lib.hid (C3.new w4 27 (.slice ard nrd krd) (.slice asd nsd ksd) (.slice ald nld kld))
       have HD5 := Lib.hid (hD.below ba5)
       have HO5 := Lib.hid (hOf.below ba5)
       have HCH5 := Lib.hid ((HCH.out.kp hKp).below ba5)
       have HX5 := Lib.hid (And.intro (cell_below ba5 (hKp _ _ HC3.out.c0 (fun z => by simp))) (And.intro (cell_below ba5 (hKp _ _ HC3.out.c1 (fun z => by simp))) (cell_below ba5 (hKp _ _ HC3.out.c2 (fun z => by simp)))))
       obtain ⟨_, d0, d1, d2, _, _, _⟩ := HC5.out
       clear hD hOf hCP k1 k2 k3 ba5 hfr4 c0 c1 c2)
    | (go_at_call 15; (with_reducible refine (quo_any _ _ (copQ c of share).raw of _ HD5.out.raw HO5.out).mono ?_); rintro e6 w6 ⟨v6, er6, rfl, hbel6, _, hg6, _⟩; obtain ⟨rfl, hq6⟩ := hg6 (cop_check HTP.out HCP.out) (by rw [cop_quo HTP.out HCP.out]; exact HTP.out.valid); rw [cop_quo HTP.out HCP.out] at hq6; clear hg6
       have hq6' := hq6
       obtain ⟨qr, qs6, ql, rfl, hqm, hqs, hql⟩ := hq6'
       obtain ⟨rA, rN, rK, rfl, _⟩ := id hqm.sl
       obtain ⟨sA, sN, sK, rfl, _⟩ := id hqs.sl
       obtain ⟨lA, lN, lK, rfl, _⟩ := id (CellsV.sl hql)
       have ba7 := below_alloc w6 (.cells #[.slice rA rN rK, .slice sA sN sK, .slice lA lN lK] 27)
       have b67 := below_then hbel6 ba7
       have hC6 := C3.new w6 27 (.slice rA rN rK) (.slice sA sN sK) (.slice lA lN lK)
       have HC6 := Lib.hid hC6
       have HQ7 := Lib.hid (hq6.below ba7)
       have HD7 := Lib.hid (HD5.out.below b67)
       have HO7 := Lib.hid (HO5.out.below b67)
       have HCH7 := Lib.hid (HCH5.out.below b67)
       have HB7 := Lib.hid (below_then HB4.out b67)
       have HC57 := Lib.hid (HC5.out.belowS b67)
       have HX7 := Lib.hid (And.intro (cell_below b67 HX5.out.1) (And.intro (cell_below b67 HX5.out.2.1) (cell_below b67 HX5.out.2.2)))
       obtain ⟨_, d0, d1, d2, _, _, _⟩ := HC57.out
       clear hq6 hqm hqs hql ba7 b67)
    | (go_at_call 16; (with_reducible refine (check_any _ _ (copQ c of share).raw of _ HD7.out.raw HO7.out).mono ?_); rintro e8 w8 ⟨⟨b8, rfl, hb8⟩, hbel8⟩; obtain rfl : b8 = true := hb8.2 (cop_check HTP.out HCP.out); clear hb8
       have c0 := cell_below hbel8 HX7.out.1
       have c1 := cell_below hbel8 HX7.out.2.1
       have c2 := cell_below hbel8 HX7.out.2.2
       obtain ⟨_, g0, g1, g2, _, _, _⟩ := HC6.out.belowS hbel8)
    | (go_at_call 17; (with_reducible refine (same_chain _ _ c c _ (HQ7.out.below hbel8) (HCH7.out.below hbel8)).mono ?_); rintro e9 w9 ⟨⟨b9, rfl, hb9⟩, hbel9⟩; obtain rfl : b9 = true := hb9.2 rfl; clear hb9)
    | (go_at_call 11; (with_reducible refine (awake_any _).mono ?_); rintro e10 w10 ⟨rfl, hbel10⟩))
  go_ret
  exact ⟨rfl, below_then (below_then (below_then HB7.out hbel8) hbel9) hbel10⟩
end Go.Proofs.Ytoldfpkafcefnaa
namespace Go.Proofs.Ytoldfpkafcefnaa
open Go.ChangeShapes Go.WideShapes Go.ChangeAt Go.RowKit
set_option linter.unusedVariables false
set_option linter.unusedSimpArgs false

theorem Try.ownK : ownKnob Try.prog.godebug = none := by kernel_rfl
theorem Try.laidOut : laidOutB Try.prog = true := by kernel_rfl
theorem Try.cellsU8 : Try.prog.cellsOf 5 = 1 := by kernel_rfl
/-- A slice of bytes that came in. -/
theorem bytes_in {W : World} {a : Addr} {len cap : Nat} {zs : List Int} (hl : len ≤ cap) (hm : cap ≤ maxLen) (hz : zs.length = cap) (hcell : ∀ i, i < zs.length → W.cell? (a.add i) = some (.int .u8 (zs.getD i 0))) (hwz : ∀ n ∈ zs, (Lit.int .u8 n).wf = true) :
    CellsV W (.slice (some a) len cap) (bytes ((zs.take len).map Int.toNat)) ∧ ∀ x ∈ (zs.take len).map Int.toNat, x < 256 := by
  have hb : ∀ n ∈ zs, 0 ≤ n ∧ n < 256 := fun n hn => by
    have := hwz n hn
    simp [Lit.wf, IntKind.min, IntKind.max, IntKind.signed, IntKind.bits] at this
    omega
  refine ⟨⟨⟨a, len, cap, rfl, hl, hm, fun e => by cases e⟩, by simp [bytes, slen]; omega, fun j hj => ?_⟩, fun x hx => ?_⟩
  · have hj2 : j < len := by simp [bytes] at hj; omega
    have hj3 : j < zs.length := by omega
    have h1 := hcell j hj3
    have h2 := hb _ (List.getElem_mem hj3)
    have e1 : zs.getD j 0 = zs[j] := by simp [List.getD, List.getElem?_eq_getElem hj3]
    rw [e1] at h1
    simp only [ptr, base, bytes, List.getElem_map, List.getElem_take]
    rw [h1]
    congr 2
    omega
  · obtain ⟨n, hn, rfl⟩ := List.mem_map.1 hx
    have := hb n (List.mem_of_mem_take hn)
    omega
set_option maxRecDepth 100000 in
theorem copies_lifted (os : Os) (started : os.Started) (H : Type) (enc : TypeId × Value → H) :
    ReturnsInHanded {} Try.checked os 4 .any (Rows.lumpCopiesSpec.pre6 enc Try.prog Try.f4 Rows.lumpCopiesRow.domain false) (Rows.lumpCopiesSpec.post enc Try.prog Try.f4 false true false false) := by
  refine returnsInHanded_of_change (C := Try.checked) Try.ownK started (by kernel_rfl) Try.func4
    (ChangeSpec.witness6 (enc := enc) (C := Try.checked) false ⟨#[], #[.slice none 0 0], []⟩ 8 (by kernel_rfl) (by kernel_rfl) (by kernel_rfl) (by kernel_rfl)) ?_
  intro W base args ds gs before hval0 hW hcnd _
  have hval : ∀ (j : Nat) t v, Try.f4.params[j]? = some t → args[j]? = some v → Value.okWide Try.prog W .any base t v := hval0
  have hW' := hW
  obtain ⟨p, q, hA0, hV, rfl, hfz, hnd⟩ := hW
  have hA : DataW.TrodAll enc Try.prog W 0 (fun _ => true) true Try.f4.params.toList args.toList ds p := hA0
  rw [Try.params4] at hA hval
  obtain ⟨v0, d0, rfl, rfl, h0⟩ := trodAll_one hA
  obtain ⟨rfl, rfl⟩ := trodVars_none hV
  obtain ⟨a0, len, cap, rfl⟩ := okWide_slice Try.underlying22 (hval 0 22 v0 rfl rfl)
  have h0k := h0
  obtain ⟨fuel, hf⟩ := h0
  clear hA0 hval0
  simp only [List.append_nil] at hW'
  have hlt : ∀ x ∈ p, x.block < W.heap.size := fun x hx => by simpa using hW'.lt x hx
  have hargs : ∀ (W' : World), Below W.heap.size W W' → DataW.Trod enc Try.prog W' 0 (fun b => decide (b < W.heap.size)) true 22 (.slice a0 len cap) d0 p :=
    fun W' hn => Below.trod Try.laidOut (by kernel_rfl) (of_decide_eq_true (by kernel_rfl)) h0k hn hlt
  have fin : ∀ l, CellsV W (.slice a0 len cap) (bytes l) → (∀ x ∈ l, x < 256) → Calls Try.checked.prog 4 #[.slice a0 len cap] W (fun e W' => ∃ v, e = .returned v ∧ Rows.lumpCopiesSpec.post enc Try.prog Try.f4 false true false false W #[.slice a0 len cap] v W') := by
    intro l hc hb
    refine (copies_law _ l W hc hb).mono fun e W' ⟨he, hnx⟩ => ?_
    subst he
    refine ⟨_, rfl, _, _, _, [], p ++ [], [], hW', ?_, ?_, rfl, hnx.frame _, fun h => by cases h⟩
    · exact trodAll_mk1 (shut_bool Try.underlying4 _)
    · have h9 := hargs _ hnx
      rw [← List.append_nil p] at h9
      exact trodAll_mk1 h9
  rcases open_ints Try.underlying22 Try.underlying5 Try.cellsU8 hf with ⟨hcs, hx⟩ | ⟨a, len', cap', zs, hcs, _, hl, hm, hz, hx, hcell, hwz⟩
  · simp [Value.cells] at hcs
    obtain ⟨rfl, rfl, rfl⟩ := hcs
    exact fin [] ⟨IsSl.nil, rfl, fun j h => by simp [bytes] at h⟩ (fun x h => by simp at h)
  · simp [Value.cells] at hcs
    obtain ⟨rfl, rfl, rfl⟩ := hcs
    simp only [if_true] at hz
    have hbi := bytes_in hl hm hz hcell hwz
    exact fin _ hbi.1 hbi.2
theorem lumpCopies_holds : Rows.LumpCopiesSaid :=
  OpenClaim.holds_of_wide 4 Try.f4 rfl rfl rfl rfl rfl rfl rfl ⟨rfl, rfl, rfl, rfl, rfl⟩ rfl rfl rfl rfl rfl (by kernel_rfl) Try.func4 (by kernel_rfl)
    (of_decide_eq_true (by kernel_rfl)) (by unfold Func.isWrapper; first | (rw [if_pos (by decide +kernel)]; kernel_rfl) | (rw [if_neg (by decide +kernel)]; exact ⟨rfl, rfl⟩))
    (fun os started H enc _ => copies_lifted os started H enc)
#print axioms lumpCopies_holds
end Go.Proofs.Ytoldfpkafcefnaa
