/-
  package chain: number, above, weight, row.
  Ahead of it: package fraction: Sum.
-/
import Derived.Test.YtoldfpkafcefnaaQFr3
import Derived.Test.YtoldfpkafcefnaaQSeq
namespace Go.Proofs.Ytoldfpkafcefnaa
set_option linter.unusedVariables false
set_option linter.unusedSimpArgs false
open Go.RowKit

theorem okN_one : okN 0 1 := ⟨by decide, by decide, by decide⟩
theorem make_one (w : World) : Calls Try.prog 85 #[.int .u64 1] w (RNat w 1) := make_any 1 (by decide) w
theorem C3.frac {w : World} {v0 v1 v2 : Value} {q : Rat} (h : FracC w (.agg #[v0, v1, v2]) q) : ∃ s a1 l1 k1 a2 l2 k2, v0 = .bool s ∧ v1 = .slice a1 l1 k1 ∧ v2 = .slice a2 l2 k2 := by
  obtain ⟨s, x, y, e, ⟨a1, l1, k1, rfl, _⟩, ⟨a2, l2, k2, rfl, _⟩⟩ := h.isF
  injection e with e
  injection e with e
  simp at e
  exact ⟨s, a1, l1, k1, a2, l2, k2, e.1, e.2.1, e.2.2⟩
theorem C3.set_other {w : World} {b b' : Nat} {v0 v1 v2 : Value} (h : C3 w b v0 v1 v2) (hb : b ≠ b') (u0 u1 u2 : Value) : C3 (((w.setCell ⟨b', 0, none⟩ u0).setCell ⟨b', 1, none⟩ u1).setCell ⟨b', 2, none⟩ u2) b v0 v1 v2 := by
  obtain ⟨lt, c0, c1, c2, f0, f1, f2⟩ := h
  refine ⟨by simpa [World.setCell] using lt, ?_, ?_, ?_, ?_, ?_, ?_⟩ <;> go_simp
theorem fits_okN {q : Rat} (h : fits q) : okN q.num.natAbs q.den := ⟨q.den_nz, h.2, h.1⟩
set_option maxHeartbeats 1600000 in
theorem sum_frac (va : Value) (l : List RF) (w : World) (ha : FracsN w va l) (hok : ∀ x ∈ l, x.ok) (hfit : ∀ k, k ≤ l.length → fits (lsum (qs (l.take k)))) :
    Calls Try.prog 60 #[va] w fun e w' => ∃ v, e = .returned (.tuple #[v, .int .i64 0]) ∧ FracC w' v (lsum (qs l)) ∧ Below w.heap.size w w' := by
  have sa := ha.sl
  have la := ha.len
  have hle := sa.le
  rw [la] at hle
  have hlb : l.length ≤ 9223372036854775807 := by omega
  have HOK := Lib.hid hok
  have HFIT := Lib.hid hfit
  clear hok hfit hle
  go_enter Try.func60, Try.ntmps60
  go_wp2_with (go_at_call 85; (with_reducible refine (make_one _).mono ?_); rintro e w1 ⟨r1, rfl, hr1, hb1⟩; obtain ⟨a1, l1, k1, rfl, _⟩ := hr1.v.sl)
  have hb0 := (below_alloc w (.cells #[.bool false, .slice none 0 0, .slice none 0 0] 50))
  have hbw := below_then hb0 hb1
  have hr := (C3.new w 50 _ _ _).belowS hb1
  have hlt : w.heap.size < w1.heap.size := hr.lt
  have hr2 := hr.allocS (.cells #[.bool false, .slice none 0 0, .slice a1 l1 k1] 50)
  have hs2 := C3.new w1 50 (.bool false) (.slice none 0 0) (.slice a1 l1 k1)
  have hb2 := below_then hbw (below_alloc w1 (.cells #[.bool false, .slice none 0 0, .slice a1 l1 k1] 50))
  have hf2 : FracC (w1.alloc (.cells #[.bool false, .slice none 0 0, .slice a1 l1 k1] 50)) (.agg #[.bool false, .slice none 0 0, .slice a1 l1 k1]) 0 := ⟨_, _, rfl, NatC.nil _, hr1.below (below_alloc _ _)⟩
  generalize w1.alloc (.cells #[.bool false, .slice none 0 0, .slice a1 l1 k1] 50) = W1 at *
  generalize w1.heap.size = S at *
  clear hb0 hb1 hbw hr hr1
  go_loopw [13] (fun u13 wr => ∃ (k : Nat) (v0 v1 v2 : Value), k ≤ l.length ∧ u13 = .int .i64 k ∧ C3 wr S v0 v1 v2 ∧ FracC wr (.agg #[v0, v1, v2]) (lsum (qs (l.take k))) ∧ C3 wr w.heap.size (.bool false) (.slice none 0 0) (.slice none 0 0) ∧ Below w.heap.size w wr) (fun u13 _ => l.length - (intOf u13).toNat)
  case atStart => exact ⟨0, _, _, _, Nat.zero_le _, rfl, hs2, hf2, hr2, hb2⟩
  case round =>
    obtain ⟨k, v0, v1, v2, hk, rfl, hs, hf, hr, hb⟩ := hrel
    clear hs2 hf2 hr2 hb2
    obtain ⟨s0, b1, m1, j1, b2, m2, j2, rfl, rfl, rfl⟩ := C3.frac hf
    have HS := Lib.hid hs
    have HR := Lib.hid hr
    have HF := Lib.hid hf
    obtain ⟨_, s1, s2, s3, s4, s5, s6⟩ := hs
    obtain ⟨_, q1, q2, q3, q4, q5, q6⟩ := hr
    clear hf
    by_cases hkl : k < l.length
    · obtain ⟨xa, xb, c1, c2, c3, hxa, hxb⟩ := (ha.below hb).at' k hkl
      obtain ⟨c1a, c1l, c1k, rfl, _⟩ := hxa.slen.1
      obtain ⟨c2a, c2l, c2k, rfl, _⟩ := hxb.slen.1
      have hA : FracN (wr.alloc (.cells #[.bool l[k].neg, .slice c1a c1l c1k, .slice c2a c2l c2k] 50)) (.agg #[.bool l[k].neg, .slice c1a c1l c1k, .slice c2a c2l c2k]) l[k].neg l[k].n l[k].d := ⟨_, _, rfl, hxa.below (below_alloc _ _), hxb.below (below_alloc _ _)⟩
      have hB := (HF.out.raw).below (below_alloc wr (.cells #[.bool l[k].neg, .slice c1a c1l c1k, .slice c2a c2l c2k] 50))
      have hs1 := HS.out.allocS (.cells #[.bool l[k].neg, .slice c1a c1l c1k, .slice c2a c2l c2k] 50)
      have hr1 := HR.out.allocS (.cells #[.bool l[k].neg, .slice c1a c1l c1k, .slice c2a c2l c2k] 50)
      have hb1 := below_then hb (below_alloc wr (.cells #[.bool l[k].neg, .slice c1a c1l c1k, .slice c2a c2l c2k] 50))
      have HO : Hid (okN l[k].n l[k].d) := Lib.hid (HOK.out l[k] (List.getElem_mem hkl))
      have HQ := Lib.hid (fits_okN (HFIT.out k hk))
      have HE : Hid (fq (decide (lsum (qs (l.take k)) < 0)) (lsum (qs (l.take k))).num.natAbs (lsum (qs (l.take k))).den + fq l[k].neg l[k].n l[k].d = lsum (qs (l.take (k + 1)))) := Lib.hid (by rw [fq_self, lsum_qs l k hkl]; rfl)
      have HF1 := Lib.hid (HFIT.out (k + 1) hkl)
      clear hb hxa hxb
      go_wp2_with (go_at_call 41; (with_reducible refine (add_frac _ _ _ _ _ _ _ _ _ hB hA HQ.out HO.out).mono ?_); rw [HE.out]; rintro e w7 ⟨v, er, rfl, hb7, hv7, _⟩
                   obtain ⟨rfl, hv8⟩ := hv7 HF1.out
                   obtain ⟨t9, x9, y9, rfl, ⟨a1, l91, k1, rfl, _⟩, ⟨a2, l92, k2, rfl, _⟩⟩ := hv8.isF
                   have hs8 := (hs1.belowS hb7).allocS (.cells #[.bool t9, .slice a1 l91 k1, .slice a2 l92 k2] 50)
                   have hr8 := (hr1.belowS hb7).allocS (.cells #[.bool t9, .slice a1 l91 k1, .slice a2 l92 k2] 50)
                   have hb8 := below_then (below_then hb1 hb7) (below_alloc w7 (.cells #[.bool t9, .slice a1 l91 k1, .slice a2 l92 k2] 50))
                   have hv9 := hv8.below (below_alloc w7 (.cells #[.bool t9, .slice a1 l91 k1, .slice a2 l92 k2] 50))
                   have HS8 := Lib.hid hs8
                   obtain ⟨_, d1, d2, d3, d4, d5, d6⟩ := hs8)
      go_roundw
      case rel => exact ⟨k + 1, _, _, _, hkl, by go_num, HS8.out.set _ _ _, hv9.set3 HS8.out (fun z => by simp) (fun z => by simp) _ _ _, hr8.set_other (by omega) _ _ _, below_set3 hb8 (by omega) _ _ _⟩
      case measure => simp [intOf]; omega
    · obtain rfl : k = l.length := by omega
      have HF2 : Hid (FracC wr (.agg #[.bool s0, .slice b1 m1 j1, .slice b2 m2 j2]) (lsum (qs l))) := Lib.hid (by have h5 := HF.out; rw [List.take_length] at h5; exact h5)
      clear HF
      go_wp2
      refine bodyPost_c3 rfl rfl Try.aggF Try.sizeF (HR.out.set _ _ _) rfl ?_
      exact ⟨_, rfl, HF2.out.set3 HR.out (fun z => by simp) (fun z => by simp) _ _ _, below_set3 hb (Nat.le_refl _) _ _ _⟩
end Go.Proofs.Ytoldfpkafcefnaa
namespace Go.Proofs.Ytoldfpkafcefnaa
set_option linter.unusedVariables false
set_option linter.unusedSimpArgs false
open Go.RowKit

theorem fits_zero : fits 0 := by decide
theorem fits_one : fits 1 := by decide
/-- A fraction with OK. -/
def RF0 (w0 : World) (q : Rat) (e : Ending) (w : World) : Prop := ∃ v, e = .returned (.tuple #[v, .int .i64 0]) ∧ FracC w v q ∧ Below w0.heap.size w0 w
/-- A fraction. -/
def RF1 (w0 : World) (q : Rat) (e : Ending) (w : World) : Prop := ∃ v, e = .returned v ∧ FracC w v q ∧ Below w0.heap.size w0 w
theorem RFrac.ok {w0 : World} {q q' : Rat} {e : Ending} {w : World} (h : RFrac w0 q e w) (hq : q = q') (hf : fits q') : RF0 w0 q' e w := by
  subst hq
  obtain ⟨v, er, rfl, h1, h2, _⟩ := h
  obtain ⟨rfl, h3⟩ := h2 hf
  exact ⟨v, rfl, h3, h1⟩
theorem make_01 (w : World) : Calls Try.prog 34 #[.int .i64 0, .int .i64 1] w (RF0 w 0) :=
  (make_frac 0 1 w (by decide) (by decide) (by decide) (by decide) (by decide)).mono fun _ _ h => h.ok (by decide) fits_zero
theorem make_11 (w : World) : Calls Try.prog 34 #[.int .i64 1, .int .i64 1] w (RF0 w 1) :=
  (make_frac 1 1 w (by decide) (by decide) (by decide) (by decide) (by decide)).mono fun _ _ h => h.ok (by decide) fits_one
theorem results_cell {fn : Func} {p : Tmp} {ty : TypeId} (h : fn.results = #[.cell p ty]) (tmps : Array Value) (P : Program) (w : World) :
    (results fn tmps).run P w = ((asAddr (tmps.getD p undef)).run P w).andThen fun a w => (loadVar ty a).run P w := by
  simp [results, h]
theorem bodyPost_c1 {P : Program} {fn : Func} {R : Ending → World → Prop} {a : Act} {w : World} {p : Tmp} {ty : TypeId} {b : Nat} {v0 v1 v2 : Value} (h : fn.results = #[.cell p ty])
    (hp : a.tmps.getD p undef = .pointer (some ⟨b, 0, none⟩)) (hagg : ∀ w, (isAgg ty).run P w = .ok true w) (hs : ∀ w, (sizeOf ty).run P w = .ok 3 w) (hc : C3 w b v0 v1 v2) (hd : a.defers = [])
    (hR : R (.returned (.agg #[v0, v1, v2])) w) : bodyPost P fn R .ret a w := by
  refine bodyPost_ret ?_ hd hR
  rw [results_cell h, hp]
  simp only [asAddr, Sem.run_pure, Result.andThen_ok, load_c3 hagg hs hc]
set_option maxHeartbeats 800000 in
theorem number_zero (w : World) : Calls Try.prog 62 #[.int .i64 0] w (RF1 w 0) := by
  go_enter Try.func62, Try.ntmps62
  go_wp2_with (go_at_call 34; (with_reducible refine (make_01 _).mono ?_); rintro e w1 ⟨v, rfl, hv, hb1⟩
               obtain ⟨t9, x9, y9, rfl, ⟨a1, l91, k1, rfl, _⟩, ⟨a2, l92, k2, rfl, _⟩⟩ := hv.isF
               have hr := ((C3.new w 50 (.bool false) (.slice none 0 0) (.slice none 0 0)).belowS hb1).allocS (.cells #[.bool t9, .slice a1 l91 k1, .slice a2 l92 k2] 50)
               have hv2 := hv.below (below_alloc w1 (.cells #[.bool t9, .slice a1 l91 k1, .slice a2 l92 k2] 50))
               have hb2 := below_then (below_then (below_alloc w (.cells #[.bool false, .slice none 0 0, .slice none 0 0] 50)) hb1) (below_alloc w1 (.cells #[.bool t9, .slice a1 l91 k1, .slice a2 l92 k2] 50))
               have HR := Lib.hid hr
               obtain ⟨_, d1, d2, d3, d4, d5, d6⟩ := hr)
  refine bodyPost_c1 rfl rfl Try.aggF Try.sizeF (HR.out.set _ _ _) rfl ?_
  exact ⟨_, rfl, hv2.set3 HR.out (fun z => by simp) (fun z => by simp) _ _ _, below_set3 hb2 (Nat.le_refl _) _ _ _⟩
set_option maxHeartbeats 800000 in
theorem number_one (w : World) : Calls Try.prog 62 #[.int .i64 1] w (RF1 w 1) := by
  go_enter Try.func62, Try.ntmps62
  go_wp2_with (go_at_call 34; (with_reducible refine (make_11 _).mono ?_); rintro e w1 ⟨v, rfl, hv, hb1⟩
               obtain ⟨t9, x9, y9, rfl, ⟨a1, l91, k1, rfl, _⟩, ⟨a2, l92, k2, rfl, _⟩⟩ := hv.isF
               have hr := ((C3.new w 50 (.bool false) (.slice none 0 0) (.slice none 0 0)).belowS hb1).allocS (.cells #[.bool t9, .slice a1 l91 k1, .slice a2 l92 k2] 50)
               have hv2 := hv.below (below_alloc w1 (.cells #[.bool t9, .slice a1 l91 k1, .slice a2 l92 k2] 50))
               have hb2 := below_then (below_then (below_alloc w (.cells #[.bool false, .slice none 0 0, .slice none 0 0] 50)) hb1) (below_alloc w1 (.cells #[.bool t9, .slice a1 l91 k1, .slice a2 l92 k2] 50))
               have HR := Lib.hid hr
               obtain ⟨_, d1, d2, d3, d4, d5, d6⟩ := hr)
  refine bodyPost_c1 rfl rfl Try.aggF Try.sizeF (HR.out.set _ _ _) rfl ?_
  exact ⟨_, rfl, hv2.set3 HR.out (fun z => by simp) (fun z => by simp) _ _ _, below_set3 hb2 (Nat.le_refl _) _ _ _⟩

set_option maxHeartbeats 400000 in
theorem above_any (v : Value) (s : Bool) (n d : Nat) (w : World) (h : FracN w v s n d) :
    Calls Try.prog 58 #[v] w fun e w' => e = .returned (.bool (!s && !decide (n = 0))) ∧ Below w.heap.size w w' := by
  obtain ⟨a, b, rfl, ha, hb⟩ := h
  rcases s with _ | _
  · go_enter Try.func58, Try.ntmps58
    go_wp2_with (go_at_call 65; refine (bits_any _ n _ (ha.below (below_alloc _ _))).mono ?_; rintro e w' ⟨rfl, rfl⟩)
    go_ret
    refine ⟨?_, below_alloc _ _⟩
    have e : decide ((0 : Int) < (nbits n : Nat)) = !decide (n = 0) := by
      by_cases h0 : n = 0
      · subst h0; rfl
      · have := nbits_pos.2 h0; rw [decide_eq_true (by omega), decide_eq_false h0]; rfl
    first | (rw [show (!false && !decide (n = 0)) = decide ((0 : Int) < (nbits n : Nat)) from by rw [e]; rfl]; rfl) | (simp [← e])
  · go_enter Try.func58, Try.ntmps58
    go_wp2_with fail
    go_ret
    exact ⟨rfl, below_alloc _ _⟩
end Go.Proofs.Ytoldfpkafcefnaa
