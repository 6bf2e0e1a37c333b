/-
  Lists of small integers in memory. No program is named here.
  Ahead of it: package drydockref02: Int of any integer, Add in lowest terms.
-/
import Derived.Test.YtlpdkbmmbdfoiaaGreatCRb6
import Derived.Test.YtlpdkbmmbdfoiaaGreatCMath8
namespace Go.Proofs.YtlpdkbmmbdfoiaaGreat
set_option linter.unusedVariables false
set_option linter.unusedSimpArgs false
open Go.RowKit

/-- A fraction that is an integer. -/
def intQ (x : Int) : Rat := fq (decide (x < 0)) x.natAbs 1
theorem r2make_i1 (x : Int) (w : World) (h1 : -9223372036854775808 ≤ x) (h2 : x < 9223372036854775808) : Calls Tryz.prog 18 #[.int .i64 x, .int .i64 1] w (RF0 w (intQ x)) :=
  (r2make_any x 1 w h1 h2 (by decide) (by decide) (by decide)).mono fun _ _ h => h.eq (by
    unfold intQ
    rw [decide_eq_false (show ¬ ((1 : Int) < 0) by decide)]
    cases decide (x < 0) <;> rfl)
set_option maxHeartbeats 800000 in
theorem r2int_i (x : Int) (w : World) (h1 : -9223372036854775808 ≤ x) (h2 : x < 9223372036854775808) : Calls Tryz.prog 20 #[.int .i64 x] w (RF1 w (intQ x)) := by
  have HN := Lib.hid (And.intro h1 h2)
  clear h1 h2
  go_enter Tryz.func20, Tryz.ntmps20
  go_wp2_with (go_at_call 18; (with_reducible refine (r2make_i1 x _ HN.out.1 HN.out.2).mono ?_); rintro e w1 ⟨v, rfl, hv, hb1⟩
               obtain ⟨t9, x9, y9, rfl, ⟨a1, l91, k1, rfl, _⟩, ⟨a2, l92, k2, rfl, _⟩⟩ := hv.isF
               have hr := ((C3.new w 38 (.bool false) (.slice none 0 0) (.slice none 0 0)).belowS hb1).allocS (.cells #[.bool t9, .slice a1 l91 k1, .slice a2 l92 k2] 38)
               have hv2 := hv.below (below_alloc w1 (.cells #[.bool t9, .slice a1 l91 k1, .slice a2 l92 k2] 38))
               have hb2 := below_then (below_then (below_alloc w (.cells #[.bool false, .slice none 0 0, .slice none 0 0] 38)) hb1) (below_alloc w1 (.cells #[.bool t9, .slice a1 l91 k1, .slice a2 l92 k2] 38))
               have HR := Lib.hid hr
               obtain ⟨_, d1, d2, d3, d4, d5, d6⟩ := hr)
  refine bodyPost_c1 rfl rfl Tryz.aggF Tryz.sizeF (HR.out.set _ _ _) rfl ?_
  exact ⟨_, rfl, hv2.set3 HR.out (fun z => by simp) (fun z => by simp) _ _ _, below_set3 hb2 (Nat.le_refl _) _ _ _⟩
theorem wrap_i64 {x : Int} (h1 : -128 ≤ x) (h2 : x ≤ 127) : IntKind.i64.wrap x = x := by
  unfold IntKind.wrap
  simp [IntKind.signed, IntKind.bits]
  omega
theorem r2int_w (x : Int) (w : World) (h1 : -128 ≤ x) (h2 : x ≤ 127) : Calls Tryz.prog 20 #[.int .i64 (IntKind.i64.wrap x)] w (RF1 w (intQ x)) := by
  rw [wrap_i64 h1 h2]; exact r2int_i x w (by omega) (by omega)
theorem r2add_can (va vb : Value) (p q : Rat) (w : World) (ha : FracC w va p) (hb : FracC w vb q) (hp : fits p) (hq : fits q) (hf : fits (p + q)) : Calls Tryz.prog 19 #[va, vb] w (RF0 w (p + q)) :=
  (r2add_any va vb _ _ _ _ _ _ w ha.raw hb.raw ⟨p.den_nz, hp.2, hp.1⟩ ⟨q.den_nz, hq.2, hq.1⟩).mono fun _ _ h => h.ok (by rw [fq_self, fq_self]) hf
end Go.Proofs.YtlpdkbmmbdfoiaaGreat
namespace Go.Proofs.YtlpdkbmmbdfoiaaGreat
open Go.RowKit

/-- v reads as a list of small integers. -/
def I8V (w : World) (v : Value) (l : List Int) : Prop := CellsV w v (l.map (Value.int .i8)) ∧ ∀ x ∈ l, -128 ≤ x ∧ x ≤ 127
theorem I8V.below {w w' : World} {v : Value} {l : List Int} (h : I8V w v l) (hb : Below w.heap.size w w') : I8V w' v l := ⟨h.1.below hb, h.2⟩
end Go.Proofs.YtlpdkbmmbdfoiaaGreat
