/-
  LumpSingle: for every tape the law returns true, and the tape reads as it did. No condition.
  Ahead of it: package drydocklaw22: LumpSingle, the walk.
-/
import Derived.Test.YtoldfpkafcefnaaQAw2
import Derived.Test.YtoldfpkafcefnaaQTa5
import Derived.Test.YtoldfpkafcefnaaRows
import Derived.WalkKit
import Derived.ProofKit
import Derived.OpenShut
import Derived.ChangeSlices
namespace Go.Proofs.Ytoldfpkafcefnaa
set_option linter.unusedVariables false
set_option linter.unusedSimpArgs false
open Go.RowKit

/-- append(s, x), s an own list of ints. -/
theorem append1_int {P : Program} (t e : TypeId) (i : TypeInfo) (ht : P.underlying t = some (.slice e)) (hi : P.info? e = some i) (hz : i.zero = some (.int .i64 0)) (hsize : i.size = 1) (hby : i.bytes = 8)
    (w0 : World) {ops : Array Oper} {rest : List Oper} {o : Oper} {a : Act} {Q : Exit → Act → World → Prop} (hgd : o.guard = none) (s x : Operand)
    (ho : o.op = .call { callee := .builtin .append, args := #[s, x], argTypes := #[t, t] }) (B : Nat) (e' : TypeId)
    (v : Value) (es : List Int) (hs : a.eval s = v) (hown : OwnE w0 e B v (es.map (Value.int .i64))) (y : Int) (hxe : a.eval x = .slice (some ⟨w0.heap.size, 0, none⟩) 1 1) (hn : es.length ≤ 1000) (hbase : B ≤ w0.heap.size)
    (h : ∀ v' w', OwnE w' e B v' ((es ++ [y]).map (Value.int .i64)) → Below B w0 w' → wpList P ops Q rest (a.put o.dst v') w') : wpList P ops Q (o :: rest) a (w0.alloc (.cells #[.int .i64 y] e')) := by
  refine wpList_append1_E w0 hgd s x t ho B e e' i (.int .i64 0) 8 ht hi hz hsize hby rfl v (es.map (Value.int .i64)) hs hown (.int .i64 y) hxe rfl (by simp [maxLen]; omega) (by simp; omega) hbase ?_
  intro v' w' h2 h4
  exact h v' w' (by rw [List.map_append]; exact h2) h4
set_option maxRecDepth 100000 in
set_option maxHeartbeats 3200000 in
theorem single_any (v : Value) (l : List Nat) (w : World) (h : CellsV w v (bytes l)) (hb : ∀ x ∈ l, x < 256) :
    Calls Try.prog 6 #[v] w (fun e w' => e = .returned (.bool true) ∧ Below w.heap.size w w') := by
  obtain ⟨i1, hi1, hz1, hs1, hy1⟩ := info_parts Try.infoInt
  have hAI := append1_int (P := Try.prog) 28 3 i1 Try.underlying28 hi1 hz1 hs1 hy1
  clear hi1 hz1 hs1 hy1
  go_enter Try.func6, Try.ntmps6
  go_wp2_with (first
    | (go_at_call 12; (with_reducible refine (new_any _ l _ h hb).mono ?_); rintro e1 w1 ⟨bt, rfl, hbt, hT1, hbel1⟩)
    | (go_at_call 13; (with_reducible refine (chain_any bt 0 _ _ hT1).mono ?_); rintro e2 w2 ⟨v2, c, a2, rfl, hC2, hTP, hT2, hsz2, hfr2⟩
       obtain ⟨vr, vs, vl, rfl, m1, m2, m3⟩ := id hC2
       obtain ⟨ar, nr, kr, rfl, _⟩ := id m1.sl
       obtain ⟨as', ns, ks, rfl, _⟩ := id m2.sl
       obtain ⟨al, nl, kl, rfl, _⟩ := id (CellsV.sl m3)
       have hb12 := hbel1.trans (hfr2 _ hbt hbel1.size)
       have HTP := Lib.hid hTP
       have hns : ns = c.start.length := m2.len
       subst hns
       have hn5 := hTP.n5
       have ba3 := below_alloc w2 (.cells #[.slice ar nr kr, .slice as' c.start.length ks, .slice al nl kl] 27)
       have hC3 := C3.new w2 27 (.slice ar nr kr) (.slice as' c.start.length ks) (.slice al nl kl)
       have HCH := Lib.hid (hC2.below ba3)
       have HC3 := Lib.hid hC3
       have hb13 := hb12.trans (ba3.mono hb12.size)
       obtain ⟨_, c0, c1, c2, _, _, _⟩ := id hC3
       have s2 := m2.sl
       clear hC2 m1 m2 m3 hC3 hTP hfr2))
  generalize hW3 : w2.alloc (.cells #[.slice ar nr kr, .slice as' c.start.length ks, .slice al nl kl] 27) = W3 at *
  clear hW3 ba3 hT1 hT2 hbel1 hsz2 hb12 c0 c2
  go_loopw [4, 5] (fun u4 u5 wr => ∃ (k : Nat), k ≤ c.start.length ∧ u5 = .int .i64 k ∧ OwnE wr 3 W3.heap.size u4 ((idl k).map (Value.int .i64)) ∧ Below W3.heap.size W3 wr) (fun _ u5 _ => c.start.length - (intOf u5).toNat)
  case atStart => exact ⟨0, Nat.zero_le _, rfl, OwnE.nil _ _ _, Below.refl _ _⟩
  case round =>
    obtain ⟨k, hk, rfl, ho, hbr⟩ := hrel
    have HO := Lib.hid ho
    have s4 := ho.sl
    have hC3r := HC3.out.belowS hbr
    have HC3r := Lib.hid hC3r
    obtain ⟨_, c0, c1, c2, _, _, _⟩ := hC3r
    have hws := hbr.size
    by_cases hkl : k < c.start.length
    · have hk1 : (idl k).length ≤ 1000 := by rw [idl_length]; omega
      go_wp2_with (first
        | (at_builtin; refine hAI _ rfl _ _ rfl W3.heap.size _ u4 (idl k) rfl ho (k : Nat) rfl hk1 hws ?_; intro v5 w5 ho5 hb5))
      go_roundw
      case rel => exact ⟨k + 1, hkl, by go_num, by rw [idl_succ]; exact ho5, hbr.trans hb5⟩
      case measure => simp [intOf]; omega
    · obtain rfl : k = c.start.length := by omega
      have HINT : Hid (IntsV wr u4 (idl c.start.length)) := Lib.hid ⟨ho.sl, ho.len, fun j hj => ho.cell j hj⟩
      have HCR := Lib.hid (HCH.out.below hbr)
      have hbw := hb13.trans (hbr.mono hb13.size)
      clear ho HO
      go_wp2_with (first
        | (go_at_call 15; (with_reducible refine (quo_any _ _ c.raw (idl c.start.length) _ HCR.out.raw HINT.out).mono ?_); rintro e6 w6 ⟨v6, er6, rfl, hbel6, _, hg6, _⟩; obtain ⟨rfl, hq6⟩ := hg6 (single_check HTP.out) (by rw [single_quo HTP.out]; exact HTP.out.valid); rw [single_quo HTP.out] at hq6; clear hg6
           have hq6' := hq6
           obtain ⟨qr, qs6, ql, rfl, hqm, hqs, hql⟩ := hq6'
           obtain ⟨rA, rN, rK, rfl, _⟩ := id hqm.sl
           obtain ⟨sA, sN, sK, rfl, _⟩ := id hqs.sl
           obtain ⟨lA, lN, lK, rfl, _⟩ := id (CellsV.sl hql)
           have ba7 := below_alloc w6 (.cells #[.slice rA rN rK, .slice sA sN sK, .slice lA lN lK] 27)
           have b67 := below_then hbel6 ba7
           have hC6 := C3.new w6 27 (.slice rA rN rK) (.slice sA sN sK) (.slice lA lN lK)
           have HC6 := Lib.hid hC6
           have HQ7 := Lib.hid (hq6.below ba7)
           have HCR7 := Lib.hid (HCR.out.below b67)
           have HINT7 := Lib.hid (HINT.out.below b67)
           have HC37 := Lib.hid (HC3r.out.belowS b67)
           have HB7 := Lib.hid (below_then hbw b67)
           obtain ⟨_, c0, c1, c2, _, _, _⟩ := HC37.out
           obtain ⟨_, d0, d1, d2, _, _, _⟩ := hC6
           clear hq6 hqm hqs hql ba7 b67)
        | (go_at_call 16; (with_reducible refine (check_any _ _ c.raw (idl c.start.length) _ HCR7.out.raw HINT7.out).mono ?_); rintro e8 w8 ⟨⟨b8, rfl, hb8⟩, hbel8⟩; obtain rfl : b8 = true := hb8.2 (single_check HTP.out); clear hb8
           obtain ⟨_, c0, c1, c2, _, _, _⟩ := HC37.out.belowS hbel8
           obtain ⟨_, d0, d1, d2, _, _, _⟩ := HC6.out.belowS hbel8)
        | (go_at_call 17; (with_reducible refine (same_chain _ _ c c _ (HQ7.out.below hbel8) (HCR7.out.below hbel8)).mono ?_); rintro e9 w9 ⟨⟨b9, rfl, hb9⟩, hbel9⟩; obtain rfl : b9 = true := hb9.2 rfl; clear hb9)
        | (go_at_call 11; (with_reducible refine (awake_any _).mono ?_); rintro e10 w10 ⟨rfl, hbel10⟩))
      go_ret
      exact ⟨rfl, below_then (below_then (below_then HB7.out hbel8) hbel9) hbel10⟩
end Go.Proofs.Ytoldfpkafcefnaa
namespace Go.Proofs.Ytoldfpkafcefnaa
open Go.ChangeShapes Go.WideShapes Go.ChangeAt Go.RowKit
set_option linter.unusedVariables false
set_option linter.unusedSimpArgs false

theorem Try.ownK : ownKnob Try.prog.godebug = none := by kernel_rfl
theorem Try.laidOut : laidOutB Try.prog = true := by kernel_rfl
theorem Try.cellsU8 : Try.prog.cellsOf 5 = 1 := by kernel_rfl
/-- A slice of bytes that came in. -/
theorem bytes_in {W : World} {a : Addr} {len cap : Nat} {zs : List Int} (hl : len ≤ cap) (hm : cap ≤ maxLen) (hz : zs.length = cap) (hcell : ∀ i, i < zs.length → W.cell? (a.add i) = some (.int .u8 (zs.getD i 0))) (hwz : ∀ n ∈ zs, (Lit.int .u8 n).wf = true) :
    CellsV W (.slice (some a) len cap) (bytes ((zs.take len).map Int.toNat)) ∧ ∀ x ∈ (zs.take len).map Int.toNat, x < 256 := by
  have hb : ∀ n ∈ zs, 0 ≤ n ∧ n < 256 := fun n hn => by
    have := hwz n hn
    simp [Lit.wf, IntKind.min, IntKind.max, IntKind.signed, IntKind.bits] at this
    omega
  refine ⟨⟨⟨a, len, cap, rfl, hl, hm, fun e => by cases e⟩, by simp [bytes, slen]; omega, fun j hj => ?_⟩, fun x hx => ?_⟩
  · have hj2 : j < len := by simp [bytes] at hj; omega
    have hj3 : j < zs.length := by omega
    have h1 := hcell j hj3
    have h2 := hb _ (List.getElem_mem hj3)
    have e1 : zs.getD j 0 = zs[j] := by simp [List.getD, List.getElem?_eq_getElem hj3]
    rw [e1] at h1
    simp only [ptr, base, bytes, List.getElem_map, List.getElem_take]
    rw [h1]
    congr 2
    omega
  · obtain ⟨n, hn, rfl⟩ := List.mem_map.1 hx
    have := hb n (List.mem_of_mem_take hn)
    omega
set_option maxRecDepth 100000 in
theorem single_lifted (os : Os) (started : os.Started) (H : Type) (enc : TypeId × Value → H) :
    ReturnsInHanded {} Try.checked os 6 .any (Rows.lumpSingleSpec.pre6 enc Try.prog Try.f6 Rows.lumpSingleRow.domain false) (Rows.lumpSingleSpec.post enc Try.prog Try.f6 false true false false) := by
  refine returnsInHanded_of_change (C := Try.checked) Try.ownK started (by kernel_rfl) Try.func6
    (ChangeSpec.witness6 (enc := enc) (C := Try.checked) false ⟨#[], #[.slice none 0 0], []⟩ 8 (by kernel_rfl) (by kernel_rfl) (by kernel_rfl) (by kernel_rfl)) ?_
  intro W base args ds gs before hval0 hW hcnd _
  have hval : ∀ (j : Nat) t v, Try.f6.params[j]? = some t → args[j]? = some v → Value.okWide Try.prog W .any base t v := hval0
  have hW' := hW
  obtain ⟨p, q, hA0, hV, rfl, hfz, hnd⟩ := hW
  have hA : DataW.TrodAll enc Try.prog W 0 (fun _ => true) true Try.f6.params.toList args.toList ds p := hA0
  rw [Try.params6] at hA hval
  obtain ⟨v0, d0, rfl, rfl, h0⟩ := trodAll_one hA
  obtain ⟨rfl, rfl⟩ := trodVars_none hV
  obtain ⟨a0, len, cap, rfl⟩ := okWide_slice Try.underlying22 (hval 0 22 v0 rfl rfl)
  have h0k := h0
  obtain ⟨fuel, hf⟩ := h0
  clear hA0 hval0
  simp only [List.append_nil] at hW'
  have hlt : ∀ x ∈ p, x.block < W.heap.size := fun x hx => by simpa using hW'.lt x hx
  have hargs : ∀ (W' : World), Below W.heap.size W W' → DataW.Trod enc Try.prog W' 0 (fun b => decide (b < W.heap.size)) true 22 (.slice a0 len cap) d0 p :=
    fun W' hn => Below.trod Try.laidOut (by kernel_rfl) (of_decide_eq_true (by kernel_rfl)) h0k hn hlt
  have fin : ∀ l, CellsV W (.slice a0 len cap) (bytes l) → (∀ x ∈ l, x < 256) → Calls Try.checked.prog 6 #[.slice a0 len cap] W (fun e W' => ∃ v, e = .returned v ∧ Rows.lumpSingleSpec.post enc Try.prog Try.f6 false true false false W #[.slice a0 len cap] v W') := by
    intro l hc hb
    refine (single_any _ l W hc hb).mono fun e W' ⟨he, hnx⟩ => ?_
    subst he
    refine ⟨_, rfl, _, _, _, [], p ++ [], [], hW', ?_, ?_, rfl, hnx.frame _, fun h => by cases h⟩
    · exact trodAll_mk1 (shut_bool Try.underlying4 _)
    · have h9 := hargs _ hnx
      rw [← List.append_nil p] at h9
      exact trodAll_mk1 h9
  rcases open_ints Try.underlying22 Try.underlying5 Try.cellsU8 hf with ⟨hcs, hx⟩ | ⟨a, len', cap', zs, hcs, _, hl, hm, hz, hx, hcell, hwz⟩
  · simp [Value.cells] at hcs
    obtain ⟨rfl, rfl, rfl⟩ := hcs
    exact fin [] ⟨IsSl.nil, rfl, fun j h => by simp [bytes] at h⟩ (fun x h => by simp at h)
  · simp [Value.cells] at hcs
    obtain ⟨rfl, rfl, rfl⟩ := hcs
    simp only [if_true] at hz
    have hbi := bytes_in hl hm hz hcell hwz
    exact fin _ hbi.1 hbi.2
theorem lumpSingle_holds : Rows.LumpSingleSaid :=
  OpenClaim.holds_of_wide 6 Try.f6 rfl rfl rfl rfl rfl rfl rfl ⟨rfl, rfl, rfl, rfl, rfl⟩ rfl rfl rfl rfl rfl (by kernel_rfl) Try.func6 (by kernel_rfl)
    (of_decide_eq_true (by kernel_rfl)) (by unfold Func.isWrapper; first | (rw [if_pos (by decide +kernel)]; kernel_rfl) | (rw [if_neg (by decide +kernel)]; exact ⟨rfl, rfl⟩))
    (fun os started H enc _ => single_lifted os started H enc)
#print axioms lumpSingle_holds
end Go.Proofs.Ytoldfpkafcefnaa
