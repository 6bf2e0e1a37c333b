/-
  package drydockref21: plain, plains.
  Ahead of it: package drydockref02: Sum. package drydocksame: Nat, Ints, Bools. package drydockref05: Weight. Package drydockref21: plain.
-/
import Derived.Test.YtlpdkbmmbdfoiaaGreatCRb6
import Derived.Test.YtlpdkbmmbdfoiaaGreatCGn
import Derived.Test.YtlpdkbmmbdfoiaaGreatCCh3
import Derived.Deep.CutRange
import Derived.Deep.DeepCutAuto
import Derived.Deep.LoopGhost
namespace Go.Proofs.YtlpdkbmmbdfoiaaGreat
set_option linter.unusedVariables false
set_option linter.unusedSimpArgs false
open Go.RowKit

theorem keep6w {w0 X Y : World} {a1 a2 a3 a4 a5 a6 : Addr} {x1 x2 x3 x4 x5 x6 : Value} (h : X.cell? a1 = some x1 ∧ X.cell? a2 = some x2 ∧ X.cell? a3 = some x3 ∧ X.cell? a4 = some x4 ∧ X.cell? a5 = some x5 ∧ X.cell? a6 = some x6 ∧ Below w0.heap.size w0 X) (hb : Below X.heap.size X Y) :
    Y.cell? a1 = some x1 ∧ Y.cell? a2 = some x2 ∧ Y.cell? a3 = some x3 ∧ Y.cell? a4 = some x4 ∧ Y.cell? a5 = some x5 ∧ Y.cell? a6 = some x6 ∧ Below w0.heap.size w0 Y := by
  obtain ⟨k1, k2, k3, k4, k5, k6, k7⟩ := h
  exact ⟨cell_below hb k1, cell_below hb k2, cell_below hb k3, cell_below hb k4, cell_below hb k5, cell_below hb k6, below_then k7 hb⟩
theorem keep6a {w0 X : World} {a1 a2 a3 a4 a5 a6 : Addr} {x1 x2 x3 x4 x5 x6 : Value} (h : w0.cell? a1 = some x1 ∧ w0.cell? a2 = some x2 ∧ w0.cell? a3 = some x3 ∧ w0.cell? a4 = some x4 ∧ w0.cell? a5 = some x5 ∧ w0.cell? a6 = some x6) (hb : Below w0.heap.size w0 X) :
    X.cell? a1 = some x1 ∧ X.cell? a2 = some x2 ∧ X.cell? a3 = some x3 ∧ X.cell? a4 = some x4 ∧ X.cell? a5 = some x5 ∧ X.cell? a6 = some x6 ∧ Below w0.heap.size w0 X := by
  obtain ⟨k1, k2, k3, k4, k5, k6⟩ := h
  exact ⟨cell_below hb k1, cell_below hb k2, cell_below hb k3, cell_below hb k4, cell_below hb k5, cell_below hb k6, hb⟩
theorem keep6c {w0 X : World} {a1 a2 a3 a4 a5 a6 : Addr} {x1 x2 x3 x4 x5 x6 : Value} (h : X.cell? a1 = some x1 ∧ X.cell? a2 = some x2 ∧ X.cell? a3 = some x3 ∧ X.cell? a4 = some x4 ∧ X.cell? a5 = some x5 ∧ X.cell? a6 = some x6 ∧ Below w0.heap.size w0 X) : Below w0.heap.size w0 X := h.2.2.2.2.2.2
theorem keep6s {w0 X : World} {a1 a2 a3 a4 a5 a6 : Addr} {x1 x2 x3 x4 x5 x6 : Value} (h : w0.cell? a1 = some x1 ∧ w0.cell? a2 = some x2 ∧ w0.cell? a3 = some x3 ∧ w0.cell? a4 = some x4 ∧ w0.cell? a5 = some x5 ∧ w0.cell? a6 = some x6) (hb : Below w0.heap.size w0 X) {b : Nat} (hB : w0.heap.size ≤ b) (x y z : Value) :
    (((X.setCell ⟨b, 0, none⟩ x).setCell ⟨b, 1, none⟩ y).setCell ⟨b, 2, none⟩ z).cell? a1 = some x1 ∧ (((X.setCell ⟨b, 0, none⟩ x).setCell ⟨b, 1, none⟩ y).setCell ⟨b, 2, none⟩ z).cell? a2 = some x2 ∧ (((X.setCell ⟨b, 0, none⟩ x).setCell ⟨b, 1, none⟩ y).setCell ⟨b, 2, none⟩ z).cell? a3 = some x3 ∧
    (((X.setCell ⟨b, 0, none⟩ x).setCell ⟨b, 1, none⟩ y).setCell ⟨b, 2, none⟩ z).cell? a4 = some x4 ∧ (((X.setCell ⟨b, 0, none⟩ x).setCell ⟨b, 1, none⟩ y).setCell ⟨b, 2, none⟩ z).cell? a5 = some x5 ∧ (((X.setCell ⟨b, 0, none⟩ x).setCell ⟨b, 1, none⟩ y).setCell ⟨b, 2, none⟩ z).cell? a6 = some x6 ∧ Below w0.heap.size w0 (((X.setCell ⟨b, 0, none⟩ x).setCell ⟨b, 1, none⟩ y).setCell ⟨b, 2, none⟩ z) :=
  keep6a h (below_set3 hb hB x y z)
theorem FracC.same {w : World} {va vb : Value} {p q : Rat} (ha : FracC w va p) (hb : FracC w vb q) (hp : fits p) (hq : fits q) :
    Calls Tryz.prog 33 #[va, vb] w fun en w' => en = .returned (.bool (decide (p = q))) ∧ Below w.heap.size w w' := by
  have := r2same_any va vb _ _ _ _ _ _ w ha.raw hb.raw (fits_okN hp) (fits_okN hq)
  rwa [fq_self, fq_self] at this
/-- Add, where the sum fits. -/
theorem r2add_acc (va vb : Value) (p r : Rat) (x : RF) (w : World) (ha : FracC w va p) (hb : FracN w vb x.neg x.n x.d) (hp : fits p) (hx : okN x.n x.d) (hr : p + x.q = r) (hf : fits r) :
    Calls Tryz.prog 19 #[va, vb] w (RF0 w r) := by
  refine (r2add_any va vb _ _ _ _ _ _ w ha.raw hb (fits_okN hp) hx).mono ?_
  rw [fq_self, show p + fq x.neg x.n x.d = r from hr]
  rintro e w' ⟨v, er, rfl, h1, h2, _⟩
  obtain ⟨rfl, h3⟩ := h2 hf
  exact ⟨v, rfl, h3, h1⟩
set_option maxRecDepth 100000 in
set_option maxHeartbeats 3200000 in
theorem r2sum_fit (va : Value) (l : List RF) (w : World) (ha : FracsN w va l) (hok : ∀ x ∈ l, x.ok) (hfit : ∀ k, k ≤ l.length → fits (lsum (qs (l.take k)))) :
    Calls Tryz.prog 148 #[va] w (RF0 w (lsum (qs l))) := by
  have sa := ha.sl
  have la := ha.len
  have hle := sa.le
  rw [la] at hle
  have hlb : l.length ≤ 9223372036854775807 := by omega
  have HOK := Lib.hid hok
  have HFIT := Lib.hid hfit
  clear hok hfit hle
  have hb0 := (below_alloc w (.cells #[.bool false, .slice none 0 0, .slice none 0 0] 38))
  have HR0 := Lib.hid (C3.new w 38 (.bool false) (.slice none 0 0) (.slice none 0 0))
  go_enter Tryz.func148, Tryz.ntmps148
  go_wp2_with (go_at_call 20; (with_reducible refine (r2int_zero _).mono ?_); rintro e1 w1 ⟨v1, rfl, hv1, hb1⟩
               obtain ⟨t9, x9, y9, rfl, ⟨a1, l91, k1, rfl, _⟩, ⟨a2, l92, k2, rfl, _⟩⟩ := hv1.isF
               have hT := C3.new w1 38 (.bool t9) (.slice a1 l91 k1) (.slice a2 l92 k2)
               have hb3 := below_alloc w1 (.cells #[.bool t9, .slice a1 l91 k1, .slice a2 l92 k2] 38)
               have HV := Lib.hid (hv1.below hb3)
               have HB := Lib.hid (below_then (below_then hb0 hb1) hb3)
               have HR3 := Lib.hid ((HR0.out.belowS hb1).belowS hb3)
               have hS : w.heap.size < w1.heap.size := (HR0.out.belowS hb1).lt)
  generalize w1.alloc (.cells #[.bool t9, .slice a1 l91 k1, .slice a2 l92 k2] 38) = W1 at *
  generalize w1.heap.size = S at *
  clear hb0 hb1 hb3 hv1
  go_loopg [5] (l.length) (fun g u5 wr => ∃ (k : Nat) (v0 v1 v2 : Value), k ≤ l.length ∧ g = l.length - k ∧ u5 = .int .i64 k ∧ C3 wr S v0 v1 v2 ∧ FracC wr (.agg #[v0, v1, v2]) (lsum (qs (l.take k))) ∧ C3 wr w.heap.size (.bool false) (.slice none 0 0) (.slice none 0 0) ∧ Below w.heap.size w wr)
  case atStart => exact ⟨0, _, _, _, Nat.zero_le _, rfl, rfl, hT, HV.out, HR3.out, HB.out⟩
  case round =>
    obtain ⟨k, v0, v1, v2, hk, hg, rfl, hs, hf, hr, hbr⟩ := hrel
    obtain ⟨s0, b1, m1, j1, b2, m2, j2, rfl, rfl, rfl⟩ := C3.frac hf
    obtain ⟨w2, hw2⟩ : ∃ w2, w2 = wr := ⟨_, rfl⟩
    subst hw2
    have HS := Lib.hid hs
    have HR := Lib.hid hr
    have HF := Lib.hid hf
    have HBR := Lib.hid hbr
    clear hT HV HR3 HB hf
    obtain ⟨_, s1, s2, s3, s4, s5, s6⟩ := hs
    obtain ⟨_, q1, q2, q3, q4, q5, q6⟩ := hr
    by_cases hkl : k < l.length
    · obtain ⟨xa, xb, c1, c2, c3, hxa, hxb⟩ := (ha.below hbr).at' k hkl
      obtain ⟨c1a, c1l, c1k, rfl, _⟩ := hxa.slen.1
      obtain ⟨c2a, c2l, c2k, rfl, _⟩ := hxb.slen.1
      have HO : Hid (okN l[k].n l[k].d) := Lib.hid (HOK.out l[k] (List.getElem_mem hkl))
      have HQ := Lib.hid (HFIT.out k hk)
      have HE : Hid (lsum (qs (l.take k)) + (l[k]'hkl).q = lsum (qs (l.take (k + 1)))) := Lib.hid (lsum_qs l k hkl).symm
      have HF1 := Lib.hid (HFIT.out (k + 1) hkl)
      generalize l[k]'hkl = x at *
      have HA : Hid (FracN w2 (.agg #[.bool x.neg, .slice c1a c1l c1k, .slice c2a c2l c2k]) x.neg x.n x.d) := Lib.hid ⟨_, _, rfl, hxa, hxb⟩
      have S0 := Lib.hid (And.intro s1 (And.intro s2 (And.intro s3 (And.intro c1 (And.intro c2 c3)))))
      have i1 : (0 : Int) ≤ (k : Int) := by omega
      have i2 : (k : Int) < (l.length : Nat) := by omega
      clear hxa hxb s1 s2 s3 s4 s5 s6 q1 q2 q3 q4 q5 q6 c1 c2 c3 hbr
      go_wp2_with fail
      go_cut [6, 7] (fun u6 u7 wy => ∃ (b6 : Nat) (t' : Bool) (x' y' : Value), u6 = .pointer (some ⟨b6, 0, none⟩) ∧ u7 = .int .i64 0 ∧ C3 wy b6 (.bool t') x' y' ∧ FracC wy (.agg #[.bool t', x', y']) (lsum (qs (l.take (k + 1)))) ∧ Below w2.heap.size w2 wy)
      case first =>
        go_region_held3 (fun w' => w'.cell? ⟨S, 0, none⟩ = some (.bool s0) ∧ w'.cell? ⟨S, 1, none⟩ = some (.slice b1 m1 j1) ∧ w'.cell? ⟨S, 2, none⟩ = some (.slice b2 m2 j2) ∧ w'.cell? (ptr va (k * 3)) = some (.bool x.neg) ∧ w'.cell? (ptr va (k * 3 + 1)) = some (.slice c1a c1l c1k) ∧ w'.cell? (ptr va (k * 3 + 2)) = some (.slice c2a c2l c2k) ∧ Below w2.heap.size w2 w') (first
          | with_reducible exact keep6a S0.out (below_drew _)
          | with_reducible exact keep6w (by assumption) (below_alloc _ _)
          | with_reducible exact keep6w (by assumption) (by assumption)
          | with_reducible exact keep6a S0.out (below_then hB31 (below_alloc _ _))
          | with_reducible exact keep6s S0.out hB31 (Nat.le_refl _) _ _ _) (first
          | (go_at_call 19; (with_reducible refine (r2add_acc _ _ (lsum (qs (l.take k))) (lsum (qs (l.take (k + 1)))) x _ (HF.out.below (keep6c (by assumption))) (HA.out.below (keep6c (by assumption))) HQ.out HO.out HE.out HF1.out).mono ?_); rintro e31 w31 ⟨v31, rfl, hv31, hb31⟩
             obtain ⟨t31, x31, y31, rfl, ⟨a311, l311, k311, rfl, _⟩, ⟨a312, l312, k312, rfl, _⟩⟩ := hv31.isF
             have hB31 := below_then (keep6c (by assumption)) hb31
             have hc5 := (fun (p : Addr) hp => hb31.cell (p := p) hp)
             have hf5 := (fun (p : Addr) hp => hb31.frozen (p := p) hp)
             have zq := hb31.size
             (try simp only [sizeA, sizeD] at zq)
             (try have z1 : w2.heap.size < w31.heap.size := (by omega))))
        all_goals
          have hE := keep6c (by assumption)
          go_wp2_with fail
          go_meet
          case rel =>
            first
              | exact ⟨_, _, _, _, rfl, rfl, C3.new w31 _ _ _ _, hv31.below (below_alloc _ _), hE⟩
              | exact ⟨_, _, _, _, rfl, rfl, (((C3.newB (b := w2.heap.size) w2 38 (.bool false) (.slice none 0 0) (.slice none 0 0) rfl).belowS (below_drew _)).belowS hb31).set _ _ _, hv31.set3 (((C3.newB (b := w2.heap.size) w2 38 (.bool false) (.slice none 0 0) (.slice none 0 0) rfl).belowS (below_drew _)).belowS hb31) (fun z => by simp) (fun z => by simp) _ _ _, hE⟩
      case rest =>
        obtain ⟨b6, t6, x6, y6, rfl, rfl, hC6, hv6, hb6⟩ := hcut
        obtain ⟨w3, hw3⟩ : ∃ w3, w3 = wc := ⟨_, rfl⟩
        subst hw3
        have hv6' := hv6
        obtain ⟨_, _, _, hF6, ⟨a61, l61, k61, rfl, _⟩, ⟨a62, l62, k62, rfl, _⟩⟩ := hv6'.isF
        injection hF6 with hF6
        injection hF6 with hF6
        simp only [List.cons.injEq, and_true, Value.bool.injEq] at hF6
        obtain ⟨rfl, rfl, rfl⟩ := hF6
        have HS3 := Lib.hid (HS.out.belowS hb6)
        have HR3 := Lib.hid (HR.out.belowS hb6)
        have HB3 := Lib.hid (below_then HBR.out hb6)
        obtain ⟨_, e1, e2, e3, _, _, _⟩ := id hC6
        obtain ⟨_, s1, s2, s3, s4, s5, s6⟩ := HS3.out
        go_wp2_with fail
        go_roundg (l.length - (k + 1))
        case measure => omega
        case rel => exact ⟨k + 1, _, _, _, hkl, rfl, by go_num, HS3.out.set _ _ _, hv6.set3 HS3.out (fun z => by simp) (fun z => by simp) _ _ _, HR3.out.set_other (by omega) _ _ _, below_set3 HB3.out (by omega) _ _ _⟩
    · obtain rfl : k = l.length := by omega
      have HF2 : Hid (FracC w2 (.agg #[.bool s0, .slice b1 m1 j1, .slice b2 m2 j2]) (lsum (qs l))) := Lib.hid (by have h5 := HF.out; rw [List.take_length] at h5; exact h5)
      clear HF
      go_wp2
      refine bodyPost_c3 rfl rfl Tryz.aggF Tryz.sizeF (HR.out.set _ _ _) rfl ?_
      exact ⟨_, rfl, HF2.out.set3 HR.out (fun z => by simp) (fun z => by simp) _ _ _, below_set3 hbr (Nat.le_refl _) _ _ _⟩
end Go.Proofs.YtlpdkbmmbdfoiaaGreat
namespace Go.Proofs.YtlpdkbmmbdfoiaaGreat
set_option linter.unusedVariables false
set_option linter.unusedSimpArgs false
open Go.RowKit

/-- The answer is b, the world is as it was, but for draws and new blocks. -/
def RSame (w0 : World) (p : Prop) (e : Ending) (w : World) : Prop := (∃ b, e = .returned (.bool b) ∧ (b = true ↔ p)) ∧ Below w0.heap.size w0 w
theorem list_ext_of {α : Type _} {a b : List α} (hl : a.length = b.length) (h : ∀ (j : Nat) (h1 : j < a.length) (h2 : j < b.length), a[j] = b[j]) : a = b := List.ext_getElem hl h
theorem NatV.at' {w : World} {v : Value} {l : List Nat} (h : NatV w v l) (j : Nat) (hj : j < l.length) : w.cell? (ptr v j) = some (.int .u32 (l[j] : Nat)) := h.cell j hj
set_option maxHeartbeats 1600000 in
theorem same_nat (va vb : Value) (a b : List Nat) (w : World) (ha : NatV w va a) (hb : NatV w vb b) :
    Calls Tryz.prog 140 #[va, vb] w (RSame w (a = b)) := by
  have sa := ha.sl
  have la := ha.len
  have sb := hb.sl
  have lb := hb.len
  have hle := sa.le
  have hle2 := sb.le
  rw [la] at hle
  rw [lb] at hle2
  have hlb : a.length ≤ 9223372036854775807 := by omega
  have hlb2 : b.length ≤ 9223372036854775807 := by omega
  clear hle hle2
  have hw : w.heap.size ≤ w.heap.size := Nat.le_refl _
  by_cases hlen : a.length = b.length
  · skip
    have hL := Lib.hid hlen
    rw [← hlen] at lb
    clear hlen
    go_enter Tryz.func140, Tryz.ntmps140
    go_wp2_with fail
    go_loopw [5] (fun u5 wr => ∃ (k : Nat), k ≤ a.length ∧ u5 = .int .i64 k ∧ (∀ (j : Nat) (h1 : j < a.length) (h2 : j < b.length), j < k → a[j] = b[j]) ∧ Below w.heap.size w wr) (fun u5 _ => a.length - (intOf u5).toNat)
    case atStart => exact ⟨0, Nat.zero_le _, rfl, fun j _ _ h => by omega, Below.refl _ _⟩
    case round =>
      obtain ⟨k, hk, rfl, hst, hbr⟩ := hrel
      have HST := Lib.hid hst
      clear hst
      by_cases hkl : k < a.length
      · have hkb : k < b.length := by rw [← hL.out]; exact hkl
        have hc := (ha.below hbr).at' k hkl
        have hd := (hb.below hbr).at' k hkb
        have HX : Hid (∀ (h1 : k < a.length) (h2 : k < b.length), a[k] = b[k] ↔ a[k]'hkl = b[k]'hkb) := Lib.hid (fun _ _ => Iff.rfl)
        have i1 : (0 : Int) ≤ (k : Int) := by omega
        have i2 : (k : Int) < (a.length : Nat) := by omega
        generalize ha' : a[k]'hkl = x at *
        generalize hb' : b[k]'hkb = y at *
        have HA := Lib.hid ha'
        have HB := Lib.hid hb'
        clear ha' hb'
        by_cases hxy : x = y
        · subst hxy
          have HST2 : Hid (∀ (j : Nat) (h1 : j < a.length) (h2 : j < b.length), j < k + 1 → a[j] = b[j]) := Lib.hid (fun j h1 h2 h3 => by
            rcases Nat.lt_or_ge j k with h4 | h4
            · exact HST.out j h1 h2 h4
            · obtain rfl : j = k := by omega
              rw [HA.out, HB.out])
          go_wp2_with fail
          go_quiet (fail)
          have hbd := below_then hbr (below_drewN (B := wr.heap.size) wr nq)
          go_wp2_with fail
          go_roundw
          case rel => exact ⟨k + 1, by omega, by go_num, HST2.out, hbd⟩
          case measure => simp [intOf]; omega
        · skip
          have hxy2 : ((x : Int) == (y : Int)) = false := by first | (simp; omega) | simpa using hxy
          go_wp2_with fail
          go_quiet (fail)
          have hbd := below_then hbr (below_drewN (B := wr.heap.size) wr nq)
          go_wp2_with fail
          go_ret
          exact ⟨⟨false, rfl, by simp; intro h; subst h; exact hxy (HA.out.symm.trans HB.out)⟩, hbd⟩
      · go_wp2_with fail
        go_ret
        refine ⟨⟨true, rfl, by simp; exact list_ext_of hL.out (fun j h1 h2 => HST.out j h1 h2 (by omega))⟩, hbr⟩
  · have hne : ((a.length : Int) == (b.length : Int)) = false := by simp; omega
    go_enter Tryz.func140, Tryz.ntmps140
    go_wp2_with fail
    go_ret
    exact ⟨⟨false, rfl, by simp; intro h; exact hlen (by rw [h])⟩, Below.refl _ _⟩
set_option maxHeartbeats 1600000 in
theorem same_ints (va vb : Value) (a b : List Int) (w : World) (ha : IntsV w va a) (hb : IntsV w vb b) :
    Calls Tryz.prog 85 #[va, vb] w (RSame w (a = b)) := by
  have sa := CellsV.sl ha
  have la : slen va = a.length := by have := CellsV.len ha; simpa using this
  have sb := CellsV.sl hb
  have lb : slen vb = b.length := by have := CellsV.len hb; simpa using this
  have hle := sa.le
  have hle2 := sb.le
  rw [la] at hle
  rw [lb] at hle2
  have hlb : a.length ≤ 9223372036854775807 := by omega
  have hlb2 : b.length ≤ 9223372036854775807 := by omega
  clear hle hle2
  have hw : w.heap.size ≤ w.heap.size := Nat.le_refl _
  by_cases hlen : a.length = b.length
  · skip
    have hL := Lib.hid hlen
    rw [← hlen] at lb
    clear hlen
    go_enter Tryz.func85, Tryz.ntmps85
    go_wp2_with fail
    go_loopw [5] (fun u5 wr => ∃ (k : Nat), k ≤ a.length ∧ u5 = .int .i64 k ∧ (∀ (j : Nat) (h1 : j < a.length) (h2 : j < b.length), j < k → a[j] = b[j]) ∧ Below w.heap.size w wr) (fun u5 _ => a.length - (intOf u5).toNat)
    case atStart => exact ⟨0, Nat.zero_le _, rfl, fun j _ _ h => by omega, Below.refl _ _⟩
    case round =>
      obtain ⟨k, hk, rfl, hst, hbr⟩ := hrel
      have HST := Lib.hid hst
      clear hst
      by_cases hkl : k < a.length
      · have hkb : k < b.length := by rw [← hL.out]; exact hkl
        have hc := (ha.below hbr).at' k hkl
        have hd := (hb.below hbr).at' k hkb
        have HX : Hid (∀ (h1 : k < a.length) (h2 : k < b.length), a[k] = b[k] ↔ a[k]'hkl = b[k]'hkb) := Lib.hid (fun _ _ => Iff.rfl)
        have i1 : (0 : Int) ≤ (k : Int) := by omega
        have i2 : (k : Int) < (a.length : Nat) := by omega
        generalize ha' : a[k]'hkl = x at *
        generalize hb' : b[k]'hkb = y at *
        have HA := Lib.hid ha'
        have HB := Lib.hid hb'
        clear ha' hb'
        by_cases hxy : x = y
        · subst hxy
          have HST2 : Hid (∀ (j : Nat) (h1 : j < a.length) (h2 : j < b.length), j < k + 1 → a[j] = b[j]) := Lib.hid (fun j h1 h2 h3 => by
            rcases Nat.lt_or_ge j k with h4 | h4
            · exact HST.out j h1 h2 h4
            · obtain rfl : j = k := by omega
              rw [HA.out, HB.out])
          go_wp2_with fail
          go_quiet (fail)
          have hbd := below_then hbr (below_drewN (B := wr.heap.size) wr nq)
          go_wp2_with fail
          go_roundw
          case rel => exact ⟨k + 1, by omega, by go_num, HST2.out, hbd⟩
          case measure => simp [intOf]; omega
        · skip
          have hxy2 : (x == y) = false := by first | (simp; omega) | simpa using hxy
          go_wp2_with fail
          go_quiet (fail)
          have hbd := below_then hbr (below_drewN (B := wr.heap.size) wr nq)
          go_wp2_with fail
          go_ret
          exact ⟨⟨false, rfl, by simp; intro h; subst h; exact hxy (HA.out.symm.trans HB.out)⟩, hbd⟩
      · go_wp2_with fail
        go_ret
        refine ⟨⟨true, rfl, by simp; exact list_ext_of hL.out (fun j h1 h2 => HST.out j h1 h2 (by omega))⟩, hbr⟩
  · have hne : ((a.length : Int) == (b.length : Int)) = false := by simp; omega
    go_enter Tryz.func85, Tryz.ntmps85
    go_wp2_with fail
    go_ret
    exact ⟨⟨false, rfl, by simp; intro h; exact hlen (by rw [h])⟩, Below.refl _ _⟩
end Go.Proofs.YtlpdkbmmbdfoiaaGreat
namespace Go.Proofs.YtlpdkbmmbdfoiaaGreat
set_option linter.unusedVariables false
set_option linter.unusedSimpArgs false
open Go.RowKit

@[go_sem] theorem slen_lit2 (a : Option Addr) (n c : Nat) : slen (.slice a n c) = n := rfl
theorem r2reduce_ok (va : Value) (x : RF) (w : World) (ha : FracN w va x.neg x.n x.d) (hx : x.ok) : Calls Tryz.prog 116 #[va] w (RF0 w x.q) :=
  (r2reduce_any va x.neg x.n x.d w ha).mono fun e w' h => by
    obtain ⟨v, er, rfl, h1, h2, _⟩ := h
    obtain ⟨rfl, h3⟩ := h2 hx
    exact ⟨v, rfl, h3, h1⟩
/-- The first limb of a denominator of one limb. -/
theorem den_one {d : Nat} (h : nlen d = 1) : d < 4294967296 ∧ ∀ (wx : World) (g : Value), NatC wx g d → wx.cell? (ptr g 0) = some (.int .u32 d) := by
  have h0 : d ≠ 0 := nlen_pos_iff.1 (by omega)
  have hb : d < 4294967296 := by have := nlen_le.1 (Nat.le_of_eq h); simpa [pw] using this
  refine ⟨hb, fun wx g hg => ?_⟩
  have h1 := hg.v
  have e : limbs d = [d] := by rw [limbs_pos h0, Nat.mod_eq_of_lt hb, Nat.div_eq_of_lt hb, limbs_zero]
  rw [e] at h1
  exact h1.cell 0 (by simp)
set_option maxRecDepth 100000 in
set_option maxHeartbeats 3200000 in
theorem rweight_any (va : Value) (l : List RF) (w : World) (ha : FracsN w va l) (hok : ∀ x ∈ l, x.ok) (hl : l.length ≤ 65536) :
    Calls Tryz.prog 175 #[va] w fun e w' => e = .returned (.int .i64 (wts (qs l) : Nat)) ∧ Below w.heap.size w w' := by
  have sa := ha.sl
  have la := ha.len
  have HOK := Lib.hid hok
  clear hok
  go_enter Tryz.func175, Tryz.ntmps175
  go_wp2_with fail
  go_loopw [3, 4] (fun u3 u4 wr => ∃ (k : Nat), k ≤ l.length ∧ u4 = .int .i64 k ∧ u3 = .int .i64 (wts (qs (l.take k)) : Nat) ∧ Below w.heap.size w wr) (fun _ u4 _ => l.length - (intOf u4).toNat)
  case atStart => exact ⟨0, Nat.zero_le _, rfl, by simp [qs, wts], Below.refl _ _⟩
  case round =>
    obtain ⟨k, hk, rfl, rfl, hbr⟩ := hrel
    by_cases hkl : k < l.length
    · obtain ⟨xa, xb, c1, c2, c3, hxa, hxb⟩ := (ha.below hbr).at' k hkl
      obtain ⟨c1a, c1l, c1k, rfl, _⟩ := hxa.slen.1
      obtain ⟨c2a, c2l, c2k, rfl, _⟩ := hxb.slen.1
      have HX := Lib.hid (HOK.out l[k] (List.getElem_mem hkl))
      have HTS := Lib.hid (wts_qs l k hkl)
      have hWj : wts (qs (l.take k)) ≤ 8192 * 65536 := by
        have h1 := wts_le (l.take k) (fun x h => HOK.out x (List.mem_of_mem_take h))
        rw [List.length_take] at h1; omega
      generalize l[k]'hkl = x at *
      generalize wts (qs (l.take k)) = W1 at *
      have HA : Hid (FracN wr (.agg #[.bool x.neg, .slice c1a c1l c1k, .slice c2a c2l c2k]) x.neg x.n x.d) := Lib.hid ⟨_, _, rfl, hxa, hxb⟩
      obtain ⟨hf1, hf2⟩ := RF.fits HX.out
      have hn0 := nbits_pos (n := x.q.num.natAbs)
      have hd0 := x.q.den_nz
      have hlp := nlen_pos_iff (d := x.q.num.natAbs)
      have hld := nlen_pos_iff (d := x.q.den)
      have HONE := Lib.hid (den_one (d := x.q.den))
      obtain ⟨bn, hbn⟩ : ∃ bn, nbits x.q.num.natAbs = bn := ⟨_, rfl⟩
      obtain ⟨bd, hbd⟩ : ∃ bd, nbits x.q.den = bd := ⟨_, rfl⟩
      obtain ⟨ln, hln⟩ : ∃ ln, nlen x.q.num.natAbs = ln := ⟨_, rfl⟩
      obtain ⟨ld, hld2⟩ : ∃ ld, nlen x.q.den = ld := ⟨_, rfl⟩
      rw [hbn] at hf1 hn0
      rw [hbd] at hf2
      rw [hln] at hlp
      rw [hld2] at hld
      have HBN := Lib.hid hbn
      have HBD := Lib.hid hbd
      have HLN := Lib.hid hln
      have HLD := Lib.hid hld2
      have hld0 : 0 < ld := hld.2 hd0
      have i1 : (0 : Int) ≤ (k : Int) := by omega
      have i2 : (k : Int) < (l.length : Nat) := by omega
      clear hbn hbd hln hld2 hxa hxb hld
      by_cases hz : x.q.num = 0
      · have hbz : bn = 0 := by have := hn0.1; omega
        have hlz : ln = 0 := by have := hlp.1; omega
        have HW := Lib.hid (wt_zero hz)
        have hlq : ¬ 0 < ln := by omega
        have HB0 := Lib.hid hbz
        clear hz hn0 hd0 hlp hlz hbz
        go_wp2_with (first
          | (go_at_call 116; (with_reducible refine (r2reduce_ok _ x _ HA.out HX.out).mono ?_); rintro e w7 ⟨v, rfl, hv, hb7⟩
             obtain ⟨xa2, xb2, rfl, hxa2, hxb2⟩ := hv
             obtain ⟨y1, y2, y3, rfl, _⟩ := id hxa2.v.sl
             obtain ⟨y4, y5, y6, rfl, _⟩ := id hxb2.v.sl
             have e2 : y2 = _ := hxa2.v.len.trans HLN.out
             have e5 : y5 = _ := hxb2.v.len.trans HLD.out
             subst e2 e5
             have hb9 := below_alloc w7 (.cells #[.bool (decide (x.q < 0)), .slice y1 y2 y3, .slice y4 y5 y6] 38)
             have hC9 := C3.new w7 38 (.bool (decide (x.q < 0))) (.slice y1 y2 y3) (.slice y4 y5 y6)
             have HC9 := Lib.hid hC9
             have HXA := Lib.hid (hxa2.below hb9)
             have HXB := Lib.hid (hxb2.below hb9)
             have sB := hxb2.v.sl
             have hb8 := below_then (below_then hbr hb7) hb9
             obtain ⟨_, f0, f1, f2, _, _, _⟩ := id hC9
             clear hC9 hxa2 hxb2 hb9)
          | (go_at_call 207; first
             | ((with_reducible refine (rbits_any _ _ _ HXA.out.nat).mono ?_); rintro e w8 ⟨rfl, hb10⟩; rw [HBN.out]
                have hb8 := below_then hb8 hb10
                have HXB := Lib.hid (HXB.out.below hb10)
                skip
                obtain ⟨_, f0, f1, f2, _, _, _⟩ := HC9.out.belowS hb10)
             | ((with_reducible refine (rbits_any _ _ _ HXB.out.nat).mono ?_); rintro e w9 ⟨rfl, hb11⟩; rw [HBD.out]
                have hb8 := below_then hb8 hb11)))
        go_roundw
        case rel => exact ⟨k + 1, hkl, by go_num, by rw [HTS.out, HW.out, HB0.out]; go_num, hb8⟩
        case measure => simp [intOf]; omega
      · have hbz : 0 < bn := hn0.2 (by omega)
        have hlz : 0 < ln := hlp.2 (by omega)
        by_cases hd : x.q.den = 1
        · have HW := Lib.hid (wt_int hz hd)
          have hl1 : ld = 1 := by rw [← HLD.out, hd]; decide +kernel
          have HC1 := Lib.hid (HONE.out (by rw [HLD.out]; exact hl1))
          have HDE : Hid (∀ (wx : World) (g : Value), NatC wx g x.q.den → wx.cell? (ptr g 0) = some (.int .u32 (1 : Nat))) := Lib.hid (fun wx g h => by have := HC1.out.2 wx g h; rwa [hd] at this)
          have hlq : ¬ 1 < ld := by omega
          clear hz hn0 hd0 hlp hd hl1
          go_wp2_with (first
            | (go_at_call 116; (with_reducible refine (r2reduce_ok _ x _ HA.out HX.out).mono ?_); rintro e w7 ⟨v, rfl, hv, hb7⟩
               obtain ⟨xa2, xb2, rfl, hxa2, hxb2⟩ := hv
               obtain ⟨y1, y2, y3, rfl, _⟩ := id hxa2.v.sl
               obtain ⟨y4, y5, y6, rfl, _⟩ := id hxb2.v.sl
               have e2 : y2 = _ := hxa2.v.len.trans HLN.out
               have e5 : y5 = _ := hxb2.v.len.trans HLD.out
               subst e2 e5
               have hb9 := below_alloc w7 (.cells #[.bool (decide (x.q < 0)), .slice y1 y2 y3, .slice y4 y5 y6] 38)
               have hC9 := C3.new w7 38 (.bool (decide (x.q < 0))) (.slice y1 y2 y3) (.slice y4 y5 y6)
               have HC9 := Lib.hid hC9
               have HXA := Lib.hid (hxa2.below hb9)
               have HXB := Lib.hid (hxb2.below hb9)
               have sB := hxb2.v.sl
               have hb8 := below_then (below_then hbr hb7) hb9
               obtain ⟨_, f0, f1, f2, _, _, _⟩ := id hC9
               clear hC9 hxa2 hxb2 hb9)
            | (go_at_call 207; first
               | ((with_reducible refine (rbits_any _ _ _ HXA.out.nat).mono ?_); rintro e w8 ⟨rfl, hb10⟩; rw [HBN.out]
                  have hb8 := below_then hb8 hb10
                  have HXB := Lib.hid (HXB.out.below hb10)
                  have hden := HDE.out _ _ HXB.out
                  obtain ⟨_, f0, f1, f2, _, _, _⟩ := HC9.out.belowS hb10)
               | ((with_reducible refine (rbits_any _ _ _ HXB.out.nat).mono ?_); rintro e w9 ⟨rfl, hb11⟩; rw [HBD.out]
                  have hb8 := below_then hb8 hb11)))
          go_roundw
          case rel => exact ⟨k + 1, hkl, by go_num, by rw [HTS.out, HW.out, HBN.out]; go_num, hb8⟩
          case measure => simp [intOf]; omega
        · have HW := Lib.hid (wt_frac hz hd)
          by_cases hl1 : ld = 1
          · have HC1 := Lib.hid (HONE.out (by rw [HLD.out]; exact hl1))
            obtain ⟨dn, hdn⟩ : ∃ dn, x.q.den = dn := ⟨_, rfl⟩
            have hd2 : 1 < dn := by omega
            have hd3 : dn < 4294967296 := by have := HC1.out.1; omega
            have HDE : Hid (∀ (wx : World) (g : Value), NatC wx g x.q.den → wx.cell? (ptr g 0) = some (.int .u32 dn)) := Lib.hid (fun wx g h => by have := HC1.out.2 wx g h; rwa [hdn] at this)
            have hlq : ¬ 1 < ld := by omega
            clear hz hn0 hd0 hlp hd hdn hl1
            go_wp2_with (first
              | (go_at_call 116; (with_reducible refine (r2reduce_ok _ x _ HA.out HX.out).mono ?_); rintro e w7 ⟨v, rfl, hv, hb7⟩
                 obtain ⟨xa2, xb2, rfl, hxa2, hxb2⟩ := hv
                 obtain ⟨y1, y2, y3, rfl, _⟩ := id hxa2.v.sl
                 obtain ⟨y4, y5, y6, rfl, _⟩ := id hxb2.v.sl
                 have e2 : y2 = _ := hxa2.v.len.trans HLN.out
                 have e5 : y5 = _ := hxb2.v.len.trans HLD.out
                 subst e2 e5
                 have hb9 := below_alloc w7 (.cells #[.bool (decide (x.q < 0)), .slice y1 y2 y3, .slice y4 y5 y6] 38)
                 have hC9 := C3.new w7 38 (.bool (decide (x.q < 0))) (.slice y1 y2 y3) (.slice y4 y5 y6)
                 have HC9 := Lib.hid hC9
                 have HXA := Lib.hid (hxa2.below hb9)
                 have HXB := Lib.hid (hxb2.below hb9)
                 have sB := hxb2.v.sl
                 have hb8 := below_then (below_then hbr hb7) hb9
                 obtain ⟨_, f0, f1, f2, _, _, _⟩ := id hC9
                 clear hC9 hxa2 hxb2 hb9)
              | (go_at_call 207; first
                 | ((with_reducible refine (rbits_any _ _ _ HXA.out.nat).mono ?_); rintro e w8 ⟨rfl, hb10⟩; rw [HBN.out]
                    have hb8 := below_then hb8 hb10
                    have HXB := Lib.hid (HXB.out.below hb10)
                    have hden := HDE.out _ _ HXB.out
                    obtain ⟨_, f0, f1, f2, _, _, _⟩ := HC9.out.belowS hb10)
                 | ((with_reducible refine (rbits_any _ _ _ HXB.out.nat).mono ?_); rintro e w9 ⟨rfl, hb11⟩; rw [HBD.out]
                    have hb8 := below_then hb8 hb11)))
            go_roundw
            case rel => exact ⟨k + 1, hkl, by go_num, by rw [HTS.out, HW.out, HBN.out, HBD.out]; go_num, hb8⟩
            case measure => simp [intOf]; omega
          · have hl2 : 1 < ld := by omega
            clear hz hn0 hd0 hlp hd
            go_wp2_with (first
              | (go_at_call 116; (with_reducible refine (r2reduce_ok _ x _ HA.out HX.out).mono ?_); rintro e w7 ⟨v, rfl, hv, hb7⟩
                 obtain ⟨xa2, xb2, rfl, hxa2, hxb2⟩ := hv
                 obtain ⟨y1, y2, y3, rfl, _⟩ := id hxa2.v.sl
                 obtain ⟨y4, y5, y6, rfl, _⟩ := id hxb2.v.sl
                 have e2 : y2 = _ := hxa2.v.len.trans HLN.out
                 have e5 : y5 = _ := hxb2.v.len.trans HLD.out
                 subst e2 e5
                 have hb9 := below_alloc w7 (.cells #[.bool (decide (x.q < 0)), .slice y1 y2 y3, .slice y4 y5 y6] 38)
                 have hC9 := C3.new w7 38 (.bool (decide (x.q < 0))) (.slice y1 y2 y3) (.slice y4 y5 y6)
                 have HC9 := Lib.hid hC9
                 have HXA := Lib.hid (hxa2.below hb9)
                 have HXB := Lib.hid (hxb2.below hb9)
                 have sB := hxb2.v.sl
                 have hb8 := below_then (below_then hbr hb7) hb9
                 obtain ⟨_, f0, f1, f2, _, _, _⟩ := id hC9
                 clear hC9 hxa2 hxb2 hb9)
              | (go_at_call 207; first
                 | ((with_reducible refine (rbits_any _ _ _ HXA.out.nat).mono ?_); rintro e w8 ⟨rfl, hb10⟩; rw [HBN.out]
                    have hb8 := below_then hb8 hb10
                    have HXB := Lib.hid (HXB.out.below hb10)
                    skip
                    obtain ⟨_, f0, f1, f2, _, _, _⟩ := HC9.out.belowS hb10)
                 | ((with_reducible refine (rbits_any _ _ _ HXB.out.nat).mono ?_); rintro e w9 ⟨rfl, hb11⟩; rw [HBD.out]
                    have hb8 := below_then hb8 hb11)))
            go_roundw
            case rel => exact ⟨k + 1, hkl, by go_num, by rw [HTS.out, HW.out, HBN.out, HBD.out]; go_num, hb8⟩
            case measure => simp [intOf]; omega
    · obtain rfl : k = l.length := by omega
      rw [List.take_length] at *
      go_wp2_with fail
      go_ret
      exact ⟨rfl, hbr⟩
end Go.Proofs.YtlpdkbmmbdfoiaaGreat
namespace Go.Proofs.YtlpdkbmmbdfoiaaGreat
set_option linter.unusedVariables false
set_option linter.unusedSimpArgs false
open Go.RowKit

set_option maxRecDepth 100000 in
set_option maxHeartbeats 1600000 in
theorem rplain_any (va : Value) (x : RF) (w : World) (ha : FracN w va x.neg x.n x.d) : Calls Tryz.prog 195 #[va] w (RSame w (plainP x)) := by
  obtain ⟨xn, xd, rfl, hxn, hxd⟩ := id ha
  obtain ⟨an, an1, kn, rfl, _⟩ := hxn.slen.1
  obtain ⟨ad, ad1, kd, rfl, _⟩ := hxd.slen.1
  have hbx := below_alloc w (.cells #[.bool x.neg, .slice an an1 kn, .slice ad ad1 kd] 38)
  have HA := Lib.hid (ha.below hbx)
  have hC := C3.new w 38 (.bool x.neg) (.slice an an1 kn) (.slice ad ad1 kd)
  obtain ⟨_, c0, c1, c2, _, _, _⟩ := hC
  obtain ⟨ln, hln⟩ : ∃ ln, nlen x.q.num.natAbs = ln := ⟨_, rfl⟩
  obtain ⟨ld, hld⟩ : ∃ ld, nlen x.q.den = ld := ⟨_, rfl⟩
  have HP : Hid (x.ok → (plainP x ↔ ¬ x.q < 0 ∧ ln ≤ 4 ∧ ld ≤ 4)) := Lib.hid (fun h => by
    unfold plainP
    rw [hln, hld]
    exact ⟨fun h1 => h1.2, fun h1 => ⟨h, h1⟩⟩)
  have HLN := Lib.hid hln
  have HLD := Lib.hid hld
  clear ha hxn hxd hln hld
  by_cases hx : x.ok
  · have HX := Lib.hid hx
    clear hx
    by_cases h1 : x.q < 0
    · have hd1 : decide (x.q < 0) = true := decide_eq_true h1
      have HB := Lib.hid (fun h => ((HP.out HX.out).1 h).1 h1)
      clear h1
      go_enter Tryz.func195, Tryz.ntmps195
      go_wp2_with (first
        | (go_at_call 116; (with_reducible refine (r2reduce_ok _ x _ HA.out HX.out).mono ?_); rintro e w7 ⟨v, rfl, hv, hb7⟩
           obtain ⟨xa2, xb2, rfl, hxa2, hxb2⟩ := hv
           obtain ⟨y1, y2, y3, rfl, _⟩ := id hxa2.v.sl
           obtain ⟨y4, y5, y6, rfl, _⟩ := id hxb2.v.sl
           have e2 : y2 = ln := hxa2.v.len.trans HLN.out
           have e5 : y5 = ld := hxb2.v.len.trans HLD.out
           subst e2 e5
           have hb9 := below_alloc w7 (.cells #[.bool (decide (x.q < 0)), .slice y1 y2 y3, .slice y4 y5 y6] 38)
           have hC9 := C3.new w7 38 (.bool (decide (x.q < 0))) (.slice y1 y2 y3) (.slice y4 y5 y6)
           have hb8 := fun (b : Bool) => below_then (below_then hbx hb7) (below_alloc w7 (.cells #[.bool b, .slice y1 y2 y3, .slice y4 y5 y6] 38))
           obtain ⟨_, f0, f1, f2, _, _, _⟩ := hC9))
      go_ret
      exact ⟨⟨_, rfl, by simp, fun h => absurd h HB.out⟩, hb8 _⟩
    · have hd1 : decide (x.q < 0) = false := decide_eq_false h1
      have HPP := Lib.hid (HP.out HX.out)
      have H1 := Lib.hid h1
      clear h1
      by_cases g2 : ln ≤ 4
      · by_cases g3 : ld ≤ 4
        · have HG := Lib.hid (HPP.out.2 ⟨H1.out, g2, g3⟩)
          go_enter Tryz.func195, Tryz.ntmps195
          go_wp2_with (first
            | (go_at_call 116; (with_reducible refine (r2reduce_ok _ x _ HA.out HX.out).mono ?_); rintro e w7 ⟨v, rfl, hv, hb7⟩
               obtain ⟨xa2, xb2, rfl, hxa2, hxb2⟩ := hv
               obtain ⟨y1, y2, y3, rfl, _⟩ := id hxa2.v.sl
               obtain ⟨y4, y5, y6, rfl, _⟩ := id hxb2.v.sl
               have e2 : y2 = ln := hxa2.v.len.trans HLN.out
               have e5 : y5 = ld := hxb2.v.len.trans HLD.out
               subst e2 e5
               have hb9 := below_alloc w7 (.cells #[.bool (decide (x.q < 0)), .slice y1 y2 y3, .slice y4 y5 y6] 38)
               have hC9 := C3.new w7 38 (.bool (decide (x.q < 0))) (.slice y1 y2 y3) (.slice y4 y5 y6)
               have hb8 := fun (b : Bool) => below_then (below_then hbx hb7) (below_alloc w7 (.cells #[.bool b, .slice y1 y2 y3, .slice y4 y5 y6] 38))
               obtain ⟨_, f0, f1, f2, _, _, _⟩ := hC9))
          go_ret
          exact ⟨⟨_, rfl, fun _ => HG.out, fun _ => by simp; omega⟩, hb8 _⟩
        · have HB := Lib.hid (fun h => g3 (HPP.out.1 h).2.2)
          go_enter Tryz.func195, Tryz.ntmps195
          go_wp2_with (first
            | (go_at_call 116; (with_reducible refine (r2reduce_ok _ x _ HA.out HX.out).mono ?_); rintro e w7 ⟨v, rfl, hv, hb7⟩
               obtain ⟨xa2, xb2, rfl, hxa2, hxb2⟩ := hv
               obtain ⟨y1, y2, y3, rfl, _⟩ := id hxa2.v.sl
               obtain ⟨y4, y5, y6, rfl, _⟩ := id hxb2.v.sl
               have e2 : y2 = ln := hxa2.v.len.trans HLN.out
               have e5 : y5 = ld := hxb2.v.len.trans HLD.out
               subst e2 e5
               have hb9 := below_alloc w7 (.cells #[.bool (decide (x.q < 0)), .slice y1 y2 y3, .slice y4 y5 y6] 38)
               have hC9 := C3.new w7 38 (.bool (decide (x.q < 0))) (.slice y1 y2 y3) (.slice y4 y5 y6)
               have hb8 := fun (b : Bool) => below_then (below_then hbx hb7) (below_alloc w7 (.cells #[.bool b, .slice y1 y2 y3, .slice y4 y5 y6] 38))
               obtain ⟨_, f0, f1, f2, _, _, _⟩ := hC9))
          go_ret
          exact ⟨⟨_, rfl, by simp; omega, fun h => absurd h HB.out⟩, hb8 _⟩
      · have HB := Lib.hid (fun h => g2 (HPP.out.1 h).2.1)
        go_enter Tryz.func195, Tryz.ntmps195
        go_wp2_with (first
          | (go_at_call 116; (with_reducible refine (r2reduce_ok _ x _ HA.out HX.out).mono ?_); rintro e w7 ⟨v, rfl, hv, hb7⟩
             obtain ⟨xa2, xb2, rfl, hxa2, hxb2⟩ := hv
             obtain ⟨y1, y2, y3, rfl, _⟩ := id hxa2.v.sl
             obtain ⟨y4, y5, y6, rfl, _⟩ := id hxb2.v.sl
             have e2 : y2 = ln := hxa2.v.len.trans HLN.out
             have e5 : y5 = ld := hxb2.v.len.trans HLD.out
             subst e2 e5
             have hb9 := below_alloc w7 (.cells #[.bool (decide (x.q < 0)), .slice y1 y2 y3, .slice y4 y5 y6] 38)
             have hC9 := C3.new w7 38 (.bool (decide (x.q < 0))) (.slice y1 y2 y3) (.slice y4 y5 y6)
             have hb8 := fun (b : Bool) => below_then (below_then hbx hb7) (below_alloc w7 (.cells #[.bool b, .slice y1 y2 y3, .slice y4 y5 y6] 38))
             obtain ⟨_, f0, f1, f2, _, _, _⟩ := hC9))
        go_ret
        exact ⟨⟨_, rfl, by simp, fun h => absurd h HB.out⟩, hb8 _⟩
  · have HX := Lib.hid hx
    have HB : Hid (¬ plainP x) := Lib.hid (fun h => hx h.1)
    clear hx
    go_enter Tryz.func195, Tryz.ntmps195
    go_wp2_with (go_at_call 116; (with_reducible refine (r2reduce_any _ x.neg x.n x.d _ HA.out).mono ?_); rintro e w7 ⟨v, er, rfl, hb7, _, hv⟩
                 obtain ⟨rfl, rfl⟩ := hv HX.out
                 unfold zeroF
                 have hb8 := below_then (below_then hbx hb7) (below_alloc w7 (.cells #[.bool false, .slice none 0 0, .slice none 0 0] 38)))
    go_ret
    exact ⟨⟨_, rfl, by simp, fun h => absurd h HB.out⟩, hb8⟩
set_option maxRecDepth 100000 in
set_option maxHeartbeats 1600000 in
theorem rplains_any (va : Value) (l : List RF) (n : Nat) (w : World) (ha : FracsN w va l) (hn : n ≤ 65536) :
    Calls Tryz.prog 147 #[va, .int .i64 n] w (RSame w (rowP l n)) := by
  have sa := ha.sl
  have la := ha.len
  have hle := sa.le
  rw [la] at hle
  have hlb : l.length ≤ 9223372036854775807 := by omega
  clear hle
  by_cases hln : l.length = n
  · subst hln
    go_enter Tryz.func147, Tryz.ntmps147
    go_wp2_with fail
    go_loopw [5] (fun u5 wr => ∃ (k : Nat), k ≤ l.length ∧ u5 = .int .i64 k ∧ (∀ x ∈ l.take k, plainP x) ∧ Below w.heap.size w wr) (fun u5 _ => l.length - (intOf u5).toNat)
    case atStart => exact ⟨0, Nat.zero_le _, rfl, by simp, Below.refl _ _⟩
    case round =>
      obtain ⟨k, hk, rfl, hpl, hb⟩ := hrel
      have HPL := Lib.hid hpl
      clear hpl
      by_cases hkl : k < l.length
      · obtain ⟨xa, xb, c1, c2, c3, hxa, hxb⟩ := (ha.below hb).at' k hkl
        obtain ⟨c1a, c1l, c1k, rfl, _⟩ := hxa.slen.1
        obtain ⟨c2a, c2l, c2k, rfl, _⟩ := hxb.slen.1
        have HBADx : Hid (¬ plainP l[k] → ¬ rowP l l.length) := Lib.hid (fun h h' => h (h'.1 _ (List.getElem_mem hkl)))
        have HNEXT : Hid (plainP l[k] → ∀ x ∈ l.take (k + 1), plainP x) := Lib.hid (fun h x hx => by
          rw [take_snoc l k hkl, List.mem_append, List.mem_singleton] at hx
          rcases hx with hx | rfl
          · exact HPL.out x hx
          · exact h)
        generalize l[k]'hkl = x at *
        have HA : Hid (FracN wr (.agg #[.bool x.neg, .slice c1a c1l c1k, .slice c2a c2l c2k]) x.neg x.n x.d) := Lib.hid ⟨_, _, rfl, hxa, hxb⟩
        have i1 : (0 : Int) ≤ (k : Int) := by omega
        have i2 : (k : Int) < (l.length : Nat) := by omega
        clear hxa hxb
        by_cases hp : plainP x
        · have HGOOD := Lib.hid (HNEXT.out hp)
          have HP := Lib.hid hp
          clear hp
          go_wp2_with (go_at_call 195; (with_reducible refine (rplain_any _ x _ HA.out).mono ?_); rintro e9 w9 ⟨⟨b9, rfl, hb9⟩, hbel9⟩; obtain rfl : b9 = true := hb9.2 HP.out; clear hb9)
          go_roundw
          case rel => exact ⟨k + 1, hkl, by go_num, HGOOD.out, below_then hb hbel9⟩
          case measure => simp [intOf]; omega
        · have HBAD := Lib.hid (HBADx.out hp)
          have HP := Lib.hid hp
          clear hp
          go_wp2_with (go_at_call 195; (with_reducible refine (rplain_any _ x _ HA.out).mono ?_); rintro e9 w9 ⟨⟨b9, rfl, hb9⟩, hbel9⟩; obtain rfl : b9 = false := Bool.eq_false_iff.2 (fun h => HP.out (hb9.1 h)); clear hb9)
          go_ret
          exact ⟨⟨_, rfl, by simp, fun h => absurd h HBAD.out⟩, below_then hb hbel9⟩
      · obtain rfl : k = l.length := by omega
        have HALL : Hid (∀ x ∈ l, plainP x) := Lib.hid (by have := HPL.out; rwa [List.take_length] at this)
        have HOK9 : Hid (∀ x ∈ l, x.ok) := Lib.hid (fun x hx => (HALL.out x hx).1)
        go_wp2_with (go_at_call 175; (with_reducible refine (rweight_any _ l _ (ha.below hb) HOK9.out hn).mono ?_); rintro e9 w9 ⟨rfl, hbel9⟩)
        go_ret
        refine ⟨⟨_, rfl, ?_⟩, below_then hb hbel9⟩
        unfold rowP
        have h9 := HALL.out
        simp
        exact ⟨fun h => ⟨h9, by omega⟩, fun h => by omega⟩
  · have hb : (((l.length : Nat) : Int) != (n : Nat)) = true := by simp; omega
    have HB : Hid (¬ rowP l n) := Lib.hid (fun h => hln h.2.1)
    clear hln
    go_enter Tryz.func147, Tryz.ntmps147
    go_wp2_with fail
    go_ret
    exact ⟨⟨_, rfl, by simp, fun h => absurd h HB.out⟩, Below.refl _ _⟩
end Go.Proofs.YtlpdkbmmbdfoiaaGreat
