/-
  A call of a Go function as one step of a region that draws its order: its contract. No program is named here.
  Ahead of it: package fraction: zero, times, Valid, lowest.
-/
import Derived.Test.YtlpdkbmmbdfoiaaGreatCBlk
import Derived.Test.YtlpdkbmmbdfoiaaGreatCOwn
import Derived.Deep.RegionLaw
namespace Go.Proofs.YtlpdkbmmbdfoiaaGreat
set_option linter.unusedVariables false
set_option linter.unusedSimpArgs false
open Go.RowKit

/-- v reads as the fraction with this sign, numerator and denominator. -/
def FracN (w : World) (v : Value) (neg : Bool) (n d : Nat) : Prop := ∃ a b, v = .agg #[.bool neg, a, b] ∧ NatN w a n ∧ NatN w b d
/-- v reads as the canonical form of q. -/
def FracC (w : World) (v : Value) (q : Rat) : Prop := ∃ a b, v = .agg #[.bool (decide (q < 0)), a, b] ∧ NatC w a q.num.natAbs ∧ NatC w b q.den
theorem FracC.raw {w : World} {v : Value} {q : Rat} (h : FracC w v q) : FracN w v (decide (q < 0)) q.num.natAbs q.den := by
  obtain ⟨a, b, rfl, ha, hb⟩ := h; exact ⟨a, b, rfl, ha.nat, hb.nat⟩
theorem FracN.below {w w' : World} {v : Value} {s : Bool} {n d : Nat} (h : FracN w v s n d) (hb : Below w.heap.size w w') : FracN w' v s n d := by
  obtain ⟨a, b, rfl, h1, h2⟩ := h; exact ⟨a, b, rfl, h1.below hb, h2.below hb⟩
theorem FracC.below {w w' : World} {v : Value} {q : Rat} (h : FracC w v q) (hb : Below w.heap.size w w') : FracC w' v q := by
  obtain ⟨a, b, rfl, h1, h2⟩ := h; exact ⟨a, b, rfl, h1.below hb, h2.below hb⟩
theorem below_alloc (w : World) (o : Obj) : Below w.heap.size w (w.alloc o) := (Below.refl w.heap.size w).alloc (Nat.le_refl _) o
theorem beq_bits (n : Nat) : ((nbits n : Int) == 0) = decide (n = 0) := by
  by_cases h : n = 0
  · simp [h, nbits_zero]
  · have := nbits_pos.2 h
    rw [decide_eq_false h]
    exact beq_eq_false_iff_ne.2 (by omega)

set_option maxHeartbeats 400000 in
theorem zero_any (v : Value) (s : Bool) (n d : Nat) (w : World) (h : FracN w v s n d) :
    Calls Tryz.prog 186 #[v] w fun e w' => e = .returned (.bool (decide (n = 0))) ∧ Below w.heap.size w w' := by
  obtain ⟨a, b, rfl, ha, hb⟩ := h
  go_enter Tryz.func186, Tryz.ntmps186
  go_wp2_with (go_at_call 156; refine (bits_any _ n _ (ha.below (below_alloc _ _))).mono ?_; rintro e w' ⟨rfl, rfl⟩)
  go_ret
  exact ⟨by rw [← beq_bits]; rfl, below_alloc _ _⟩

set_option maxHeartbeats 400000 in
theorem times_any (va vb : Value) (m n : Nat) (w : World) (ha : NatN w va m) (hb : NatN w vb n) (hm : nlen m ≤ 256) (hn : nlen n ≤ 256) :
    Calls Tryz.prog 157 #[va, vb] w (RNat w (m * n)) := by
  have h1 : nlen m ≤ 512 := by omega
  have h2 : nlen n ≤ 512 := by omega
  have h3 : nlen (m * n) ≤ 512 := by
    rw [nlen_le] at *
    have := Nat.mul_lt_mul'' hm hn
    rw [← pw_add] at this
    exact this
  have H1 := Lib.hid h1
  have H2 := Lib.hid h2
  have H3 := Lib.hid h3
  clear h1 h2 h3 hm hn
  go_enter Tryz.func157, Tryz.ntmps157
  go_wp2_with (go_at_call 199; (with_reducible refine (mul_any _ _ m n _ ha hb H1.out H2.out).mono ?_); rintro e w1 ⟨r, er, rfl, hr, hbl⟩)
  obtain ⟨rfl, hr2⟩ := hr.1 H3.out
  go_wp2
  go_ret
  exact ⟨_, rfl, hr2, hbl⟩

/-- Whether a numerator and a denominator are allowed. -/
def okN (n d : Nat) : Prop := d ≠ 0 ∧ nbits d ≤ 4096 ∧ nbits n ≤ 4096
instance (n d : Nat) : Decidable (okN n d) := inferInstanceAs (Decidable (_ ∧ _ ∧ _))
set_option maxHeartbeats 400000 in
theorem valid_any (v : Value) (s : Bool) (n d : Nat) (w : World) (h : FracN w v s n d) :
    Calls Tryz.prog 79 #[v] w fun e w' => e = .returned (.bool (decide (okN n d))) ∧ Below w.heap.size w w' := by
  obtain ⟨a, b, rfl, ha, hb⟩ := h
  have hbp := nbits_pos (n := d)
  generalize hx : nbits d = x at *
  have HX := Lib.hid hx
  clear hx
  go_enter Tryz.func79, Tryz.ntmps79
  go_wp2_with (go_at_call 156; first
    | ((with_reducible refine (bits_any a n _ (ha.below (below_alloc _ _))).mono ?_); rintro e w' ⟨rfl, rfl⟩)
    | ((with_reducible refine (bits_any b d _ (hb.below (below_alloc _ _))).mono ?_); rintro e w' ⟨rfl, rfl⟩; rw [HX.out]))
  · next h0 =>
    go_ret
    refine ⟨?_, below_alloc _ _⟩
    rw [decide_eq_false (fun h => h.1 h0)]; rfl
  · next h0 h1 =>
    go_ret
    refine ⟨?_, below_alloc _ _⟩
    have : decide (okN n d) = decide ((nbits n : Int) ≤ 4096) := by
      by_cases hb : nbits n ≤ 4096
      · rw [decide_eq_true (show okN n d from ⟨h0, by rw [HX.out]; omega, hb⟩), decide_eq_true (by omega)]
      · rw [decide_eq_false (fun h : okN n d => hb h.2.2), decide_eq_false (by omega)]
    rw [this]; rfl
  · next h0 h1 =>
    go_ret
    refine ⟨?_, below_alloc _ _⟩
    rw [decide_eq_false (fun h => by have := h.2.1; rw [HX.out] at this; omega)]; rfl

theorem Tryz.aggF (w : World) : (isAgg 38).run Tryz.prog w = .ok true w := by go_simp
theorem Tryz.sizeF (w : World) : (sizeOf 38).run Tryz.prog w = .ok 3 w := by go_simp
def nilV : Value := .slice none 0 0
def zeroF : Value := .agg #[.bool false, .slice none 0 0, .slice none 0 0]
/-- A fraction with an error: q and OK, or the zero value and ErrSize. -/
def RFrac (w0 : World) (q : Rat) (e : Ending) (w : World) : Prop :=
  ∃ v er, e = .returned (.tuple #[v, .int .i64 er]) ∧ Below w0.heap.size w0 w ∧ (fits q → er = 0 ∧ FracC w v q) ∧ (¬ fits q → er = 2 ∧ v = zeroF)

theorem NatV.over {w : World} {v : Value} {l : List Nat} (h : NatV w v l) {p : Addr} {x : Value} (hp : w.cell? p = some x) (hx : ∀ z, x ≠ .int .u32 z) (u : Value) : NatV (w.setCell p u) v l :=
  ⟨h.sl, h.len, fun j hj => by
    have h1 := h.cell j hj
    rw [World.cell?_setCell_other]
    · exact h1
    · intro e
      rw [← e, hp] at h1
      injection h1 with h1
      exact hx _ h1, h.lm⟩
theorem NatV.set3 {w : World} {v : Value} {l : List Nat} {b : Nat} {v0 v1 v2 : Value} (h : NatV w v l) (hc : C3 w b v0 v1 v2) (h0 : ∀ z, v0 ≠ .int .u32 z) (h1 : ∀ z, v1 ≠ .int .u32 z) (h2 : ∀ z, v2 ≠ .int .u32 z) (u0 u1 u2 : Value) :
    NatV (((w.setCell ⟨b, 0, none⟩ u0).setCell ⟨b, 1, none⟩ u1).setCell ⟨b, 2, none⟩ u2) v l := by
  refine ((h.over hc.c0 h0 _).over (x := v1) ?_ h1 _).over (x := v2) ?_ h2 _
  · rw [World.cell?_setCell_other]
    · exact hc.c1
    · simp
  · rw [World.cell?_setCell_other, World.cell?_setCell_other]
    · exact hc.c2
    · simp
    · simp
theorem NatC.set3 {w : World} {v : Value} {n : Nat} {b : Nat} {s : Bool} {x y : Value} (h : NatC w v n) (hc : C3 w b (.bool s) x y) (hx : ∀ z, x ≠ .int .u32 z) (hy : ∀ z, y ≠ .int .u32 z) (u0 u1 u2 : Value) :
    NatC (((w.setCell ⟨b, 0, none⟩ u0).setCell ⟨b, 1, none⟩ u1).setCell ⟨b, 2, none⟩ u2) v n := ⟨h.v.set3 hc (fun z => by simp) hx hy _ _ _, h.2⟩
theorem FracC.set3 {w : World} {v : Value} {q : Rat} {b : Nat} {s : Bool} {x y : Value} (h : FracC w v q) (hc : C3 w b (.bool s) x y) (hx : ∀ z, x ≠ .int .u32 z) (hy : ∀ z, y ≠ .int .u32 z) (u0 u1 u2 : Value) :
    FracC (((w.setCell ⟨b, 0, none⟩ u0).setCell ⟨b, 1, none⟩ u1).setCell ⟨b, 2, none⟩ u2) v q := by
  obtain ⟨xa, xb, rfl, ha, hb⟩ := h
  exact ⟨xa, xb, rfl, ha.set3 hc hx hy _ _ _, hb.set3 hc hx hy _ _ _⟩
theorem nbits_dec (n : Nat) : decide (0 < nbits n) = (true && decide (0 < n)) := by
  have := nbits_pos (n := n)
  by_cases h : n = 0
  · subst h; rfl
  · rw [decide_eq_true (this.2 h), decide_eq_true (Nat.pos_of_ne_zero h)]; rfl
theorem fits_fq (s : Bool) (n d : Nat) (hd : d ≠ 0) : fits (fq s n d) ↔ nbits (n / Nat.gcd n d) ≤ 4096 ∧ nbits (d / Nat.gcd n d) ≤ 4096 := by
  unfold fits; rw [fq_natAbs _ _ _ hd, fq_den _ _ _ hd]
theorem fracC_fq {w : World} {xa xb : Value} {s t : Bool} {n d : Nat} (hd : d ≠ 0) (ha : NatC w xa (n / Nat.gcd n d)) (hb : NatC w xb (d / Nat.gcd n d)) (ht : t = (s && decide (0 < n / Nat.gcd n d))) :
    FracC w (.agg #[.bool t, xa, xb]) (fq s n d) := by
  refine ⟨xa, xb, by rw [fq_neg _ _ _ hd, ht], ?_, ?_⟩
  · rw [fq_natAbs _ _ _ hd]; exact ha
  · rw [fq_den _ _ _ hd]; exact hb

set_option maxHeartbeats 800000 in
theorem lowest_one (s : Bool) (va vb : Value) (n d : Nat) (w : World) (ha : NatN w va n) (hb : NatN w vb d) (hd : d ≠ 0) (hn5 : nlen n ≤ 512) (hd5 : nlen d ≤ 512) (hg : Nat.gcd n d = 1) :
    Calls Tryz.prog 142 #[.bool s, va, vb] w (RFrac w (fq s n d)) := by
  have HN := Lib.hid hn5
  have HD := Lib.hid hd5
  have HG := Lib.hid hg
  have h1 : nbits 1 = 1 := by decide
  have H1 := Lib.hid h1
  clear hn5 hd5 hg h1
  rcases s with _ | _
  case true =>
    go_enter Tryz.func142, Tryz.ntmps142
    go_wp2_with (first
      | (go_at_call 192; (with_reducible refine (gcd_any _ _ n d _ (ha.below (below_alloc _ _)) (hb.below (below_alloc _ _)) HN.out HD.out).mono ?_); rintro e w1 ⟨g, rfl, hg1, hb1⟩; rw [HG.out] at hg1)
      | (go_at_call 156; first
        | ((with_reducible refine (bits_any g 1 _ hg1.nat).mono ?_); rintro e w' ⟨rfl, rfl⟩; rw [H1.out])))
    have hbz := (below_alloc _ _).trans (hb1.mono (below_alloc _ _).size)
    have hxa := ha.below hbz
    have hxb := hb.below hbz
    have hC := (C3.new w _ _ _ _).belowS hb1
    clear hb1 ha hb hg1
    have hq1 : n = n / Nat.gcd n d := by rw [HG.out, Nat.div_one]
    have hq2 : d = d / Nat.gcd n d := by rw [HG.out, Nat.div_one]
    rw [hq1] at hxa
    rw [hq2] at hxb
    clear hq1 hq2
    have hF := fits_fq true n d hd
    generalize hN1 : n / Nat.gcd n d = N1 at *
    generalize hD1 : d / Nat.gcd n d = D1 at *
    have HN1 := Lib.hid hN1
    have HD1 := Lib.hid hD1
    have HC := Lib.hid hC
    have HBZ := Lib.hid hbz
    have HIF := Lib.hid hF
    obtain ⟨_, c0, c1, c2, f0, f1, f2⟩ := hC
    clear hN1 hD1 hF hbz
    by_cases hfit : nbits N1 ≤ 4096 ∧ nbits D1 ≤ 4096
    · have HFI := Lib.hid (HIF.out.2 hfit)
      obtain ⟨hf1, hf2⟩ := hfit
      go_wp2_with (first
        | (go_at_call 156; first
          | ((with_reducible refine (bits_any va N1 _ hxa).mono ?_); rintro e w' ⟨rfl, rfl⟩)
          | ((with_reducible refine (bits_any vb D1 _ hxb).mono ?_); rintro e w' ⟨rfl, rfl⟩)))
      all_goals go_wp2_with (go_at_call 194; first
         | ((with_reducible refine (trim_any va N1 _ hxa).mono ?_); rintro e w1 ⟨ra, rfl, hra, hb1⟩; obtain ⟨a1, l1, k1, rfl, _⟩ := hra.v.sl)
         | ((with_reducible refine (trim_any vb D1 _ (hxb.below hb1)).mono ?_); rintro e w2 ⟨rb, rfl, hrb, hb2⟩; obtain ⟨a2, l2, k2, rfl, _⟩ := hrb.v.sl
            have hra2 := hra.below hb2
            have hC2 := (HC.out.belowS hb1).belowS hb2
            have HC2 := Lib.hid hC2
            have HBZ2 := Lib.hid (HBZ.out.trans ((hb1.trans (hb2.mono hb1.size)).mono HBZ.out.size))
            obtain ⟨_, d0, d1, d2, e0, e1, e2⟩ := hC2))
      all_goals
        try simp only [Exit.inBlock, Exit.then]
        refine bodyPost_c3 rfl rfl Tryz.aggF Tryz.sizeF (HC2.out.set _ _ _) rfl ?_
        refine ⟨_, 0, rfl, below_set3 HBZ2.out (Nat.le_refl _) _ _ _, fun _ => ⟨rfl, FracC.set3 (fracC_fq hd (HN1.out ▸ hra2) (HD1.out ▸ hrb) ?_) HC2.out (fun z => by simp) (fun z => by simp) _ _ _⟩, fun h => absurd HFI.out h⟩
        rw [HN1.out]; first | rfl | exact nbits_dec N1
    · have HFI := Lib.hid (fun h => hfit (HIF.out.1 h))
      go_wp2_with (first
        | (go_at_call 156; first
          | ((with_reducible refine (bits_any va N1 _ hxa).mono ?_); rintro e w' ⟨rfl, rfl⟩)
          | ((with_reducible refine (bits_any vb D1 _ hxb).mono ?_); rintro e w' ⟨rfl, rfl⟩)))
      all_goals
        refine bodyPost_c3 rfl rfl Tryz.aggF Tryz.sizeF (HC.out.set _ _ _) rfl ?_
        exact ⟨_, 2, rfl, below_set3 HBZ.out (Nat.le_refl _) _ _ _, fun h => absurd h HFI.out, fun _ => ⟨rfl, rfl⟩⟩
  case false =>
    go_enter Tryz.func142, Tryz.ntmps142
    go_wp2_with (first
      | (go_at_call 192; (with_reducible refine (gcd_any _ _ n d _ (ha.below (below_alloc _ _)) (hb.below (below_alloc _ _)) HN.out HD.out).mono ?_); rintro e w1 ⟨g, rfl, hg1, hb1⟩; rw [HG.out] at hg1)
      | (go_at_call 156; first
        | ((with_reducible refine (bits_any g 1 _ hg1.nat).mono ?_); rintro e w' ⟨rfl, rfl⟩; rw [H1.out])))
    have hbz := (below_alloc _ _).trans (hb1.mono (below_alloc _ _).size)
    have hxa := ha.below hbz
    have hxb := hb.below hbz
    have hC := (C3.new w _ _ _ _).belowS hb1
    clear hb1 ha hb hg1
    have hq1 : n = n / Nat.gcd n d := by rw [HG.out, Nat.div_one]
    have hq2 : d = d / Nat.gcd n d := by rw [HG.out, Nat.div_one]
    rw [hq1] at hxa
    rw [hq2] at hxb
    clear hq1 hq2
    have hF := fits_fq false n d hd
    generalize hN1 : n / Nat.gcd n d = N1 at *
    generalize hD1 : d / Nat.gcd n d = D1 at *
    have HN1 := Lib.hid hN1
    have HD1 := Lib.hid hD1
    have HC := Lib.hid hC
    have HBZ := Lib.hid hbz
    have HIF := Lib.hid hF
    obtain ⟨_, c0, c1, c2, f0, f1, f2⟩ := hC
    clear hN1 hD1 hF hbz
    by_cases hfit : nbits N1 ≤ 4096 ∧ nbits D1 ≤ 4096
    · have HFI := Lib.hid (HIF.out.2 hfit)
      obtain ⟨hf1, hf2⟩ := hfit
      go_wp2_with (first
        | (go_at_call 156; first
          | ((with_reducible refine (bits_any va N1 _ hxa).mono ?_); rintro e w' ⟨rfl, rfl⟩)
          | ((with_reducible refine (bits_any vb D1 _ hxb).mono ?_); rintro e w' ⟨rfl, rfl⟩)))
      all_goals go_wp2_with (go_at_call 194; first
         | ((with_reducible refine (trim_any va N1 _ hxa).mono ?_); rintro e w1 ⟨ra, rfl, hra, hb1⟩; obtain ⟨a1, l1, k1, rfl, _⟩ := hra.v.sl)
         | ((with_reducible refine (trim_any vb D1 _ (hxb.below hb1)).mono ?_); rintro e w2 ⟨rb, rfl, hrb, hb2⟩; obtain ⟨a2, l2, k2, rfl, _⟩ := hrb.v.sl
            have hra2 := hra.below hb2
            have hC2 := (HC.out.belowS hb1).belowS hb2
            have HC2 := Lib.hid hC2
            have HBZ2 := Lib.hid (HBZ.out.trans ((hb1.trans (hb2.mono hb1.size)).mono HBZ.out.size))
            obtain ⟨_, d0, d1, d2, e0, e1, e2⟩ := hC2))
      all_goals
        try simp only [Exit.inBlock, Exit.then]
        refine bodyPost_c3 rfl rfl Tryz.aggF Tryz.sizeF (HC2.out.set _ _ _) rfl ?_
        refine ⟨_, 0, rfl, below_set3 HBZ2.out (Nat.le_refl _) _ _ _, fun _ => ⟨rfl, FracC.set3 (fracC_fq hd (HN1.out ▸ hra2) (HD1.out ▸ hrb) ?_) HC2.out (fun z => by simp) (fun z => by simp) _ _ _⟩, fun h => absurd HFI.out h⟩
        rw [HN1.out]; first | rfl | exact nbits_dec N1
    · have HFI := Lib.hid (fun h => hfit (HIF.out.1 h))
      go_wp2_with (first
        | (go_at_call 156; first
          | ((with_reducible refine (bits_any va N1 _ hxa).mono ?_); rintro e w' ⟨rfl, rfl⟩)
          | ((with_reducible refine (bits_any vb D1 _ hxb).mono ?_); rintro e w' ⟨rfl, rfl⟩)))
      all_goals
        refine bodyPost_c3 rfl rfl Tryz.aggF Tryz.sizeF (HC.out.set _ _ _) rfl ?_
        exact ⟨_, 2, rfl, below_set3 HBZ.out (Nat.le_refl _) _ _ _, fun h => absurd h HFI.out, fun _ => ⟨rfl, rfl⟩⟩

set_option maxHeartbeats 1600000 in
theorem lowest_more (s : Bool) (va vb : Value) (n d : Nat) (w : World) (ha : NatN w va n) (hb : NatN w vb d) (hd : d ≠ 0) (hn5 : nlen n ≤ 512) (hd5 : nlen d ≤ 512) (hg : 1 < Nat.gcd n d) :
    Calls Tryz.prog 142 #[.bool s, va, vb] w (RFrac w (fq s n d)) := by
  have HN := Lib.hid hn5
  have HD := Lib.hid hd5
  have hgb : 1 < nbits (Nat.gcd n d) := nbits_gt_one.2 hg
  have HG0 : Hid (Nat.gcd n d ≠ 0) := by have : Nat.gcd n d ≠ 0 := by omega
                                         exact Lib.hid this
  have HG5 : Hid (nlen (Nat.gcd n d) ≤ 512) := Lib.hid (Nat.le_trans (nlen_mono (Nat.le_of_dvd (Nat.pos_of_ne_zero hd) (Nat.gcd_dvd_right n d))) hd5)
  clear hn5 hd5 hg
  rcases s with _ | _
  case true =>
    go_enter Tryz.func142, Tryz.ntmps142
    go_wp2_with (first
      | (go_at_call 192; (with_reducible refine (gcd_any _ _ n d _ (ha.below (below_alloc _ _)) (hb.below (below_alloc _ _)) HN.out HD.out).mono ?_); rintro e w1 ⟨g, rfl, hg1, hb1⟩
         have hC := (C3.new w _ _ _ _).belowS hb1
         have hbz := (below_alloc _ _).trans (hb1.mono (below_alloc _ _).size)
         have hxa := ha.below hbz
         have hxb := hb.below hbz)
      | (go_at_call 156; first
        | ((with_reducible refine (bits_any g (Nat.gcd n d) _ hg1.nat).mono ?_); rintro e w' ⟨rfl, rfl⟩))
      | (go_at_call 193; first
        | ((with_reducible refine (div_any va g n (Nat.gcd n d) _ hxa hg1.nat HG0.out HN.out HG5.out).mono ?_); rintro e w3 ⟨q1, r1, rfl, hq1, hr1, hbl1⟩
           have hg3 := hg1.below hbl1
           have hxb3 := hxb.below hbl1)
        | ((with_reducible refine (div_any vb g d (Nat.gcd n d) _ hxb3 hg3.nat HG0.out HD.out HG5.out).mono ?_); rintro e w4 ⟨q2, r2, rfl, hq2, hr2, hbl2⟩
           have hq14 := hq1.nat.below hbl2
           have hq24 := hq2.nat
           have hC4 := (hC.belowS hbl1).belowS hbl2
           have hbz4 := hbz.trans ((hbl1.trans (hbl2.mono hbl1.size)).mono hbz.size))))
    clear hC hbz hxa hxb hb1 ha hb hg1 hg3 hxb3 hbl1 hbl2 hq1 hq2 hr1 hr2
    have hxa := hq14
    have hxb := hq24
    have hC := hC4
    have hbz := hbz4
    clear hq14 hq24 hC4 hbz4 hgb
    have hF := fits_fq true n d hd
    generalize hN1 : n / Nat.gcd n d = N1 at *
    generalize hD1 : d / Nat.gcd n d = D1 at *
    have HN1 := Lib.hid hN1
    have HD1 := Lib.hid hD1
    have HC := Lib.hid hC
    have HBZ := Lib.hid hbz
    have HIF := Lib.hid hF
    obtain ⟨_, c0, c1, c2, f0, f1, f2⟩ := hC
    clear hN1 hD1 hF hbz
    by_cases hfit : nbits N1 ≤ 4096 ∧ nbits D1 ≤ 4096
    · have HFI := Lib.hid (HIF.out.2 hfit)
      obtain ⟨hf1, hf2⟩ := hfit
      go_wp2_with (first
        | (go_at_call 156; first
          | ((with_reducible refine (bits_any q1 N1 _ hxa).mono ?_); rintro e w' ⟨rfl, rfl⟩)
          | ((with_reducible refine (bits_any q2 D1 _ hxb).mono ?_); rintro e w' ⟨rfl, rfl⟩)))
      all_goals go_wp2_with (go_at_call 194; first
         | ((with_reducible refine (trim_any q1 N1 _ hxa).mono ?_); rintro e w1 ⟨ra, rfl, hra, hb1⟩; obtain ⟨a1, l1, k1, rfl, _⟩ := hra.v.sl)
         | ((with_reducible refine (trim_any q2 D1 _ (hxb.below hb1)).mono ?_); rintro e w2 ⟨rb, rfl, hrb, hb2⟩; obtain ⟨a2, l2, k2, rfl, _⟩ := hrb.v.sl
            have hra2 := hra.below hb2
            have hC2 := (HC.out.belowS hb1).belowS hb2
            have HC2 := Lib.hid hC2
            have HBZ2 := Lib.hid (HBZ.out.trans ((hb1.trans (hb2.mono hb1.size)).mono HBZ.out.size))
            obtain ⟨_, d0, d1, d2, e0, e1, e2⟩ := hC2))
      all_goals
        try simp only [Exit.inBlock, Exit.then]
        refine bodyPost_c3 rfl rfl Tryz.aggF Tryz.sizeF (HC2.out.set _ _ _) rfl ?_
        refine ⟨_, 0, rfl, below_set3 HBZ2.out (Nat.le_refl _) _ _ _, fun _ => ⟨rfl, FracC.set3 (fracC_fq hd (HN1.out ▸ hra2) (HD1.out ▸ hrb) ?_) HC2.out (fun z => by simp) (fun z => by simp) _ _ _⟩, fun h => absurd HFI.out h⟩
        rw [HN1.out]; first | rfl | exact nbits_dec N1
    · have HFI := Lib.hid (fun h => hfit (HIF.out.1 h))
      go_wp2_with (first
        | (go_at_call 156; first
          | ((with_reducible refine (bits_any q1 N1 _ hxa).mono ?_); rintro e w' ⟨rfl, rfl⟩)
          | ((with_reducible refine (bits_any q2 D1 _ hxb).mono ?_); rintro e w' ⟨rfl, rfl⟩)))
      all_goals
        refine bodyPost_c3 rfl rfl Tryz.aggF Tryz.sizeF (HC.out.set _ _ _) rfl ?_
        exact ⟨_, 2, rfl, below_set3 HBZ.out (Nat.le_refl _) _ _ _, fun h => absurd h HFI.out, fun _ => ⟨rfl, rfl⟩⟩
  case false =>
    go_enter Tryz.func142, Tryz.ntmps142
    go_wp2_with (first
      | (go_at_call 192; (with_reducible refine (gcd_any _ _ n d _ (ha.below (below_alloc _ _)) (hb.below (below_alloc _ _)) HN.out HD.out).mono ?_); rintro e w1 ⟨g, rfl, hg1, hb1⟩
         have hC := (C3.new w _ _ _ _).belowS hb1
         have hbz := (below_alloc _ _).trans (hb1.mono (below_alloc _ _).size)
         have hxa := ha.below hbz
         have hxb := hb.below hbz)
      | (go_at_call 156; first
        | ((with_reducible refine (bits_any g (Nat.gcd n d) _ hg1.nat).mono ?_); rintro e w' ⟨rfl, rfl⟩))
      | (go_at_call 193; first
        | ((with_reducible refine (div_any va g n (Nat.gcd n d) _ hxa hg1.nat HG0.out HN.out HG5.out).mono ?_); rintro e w3 ⟨q1, r1, rfl, hq1, hr1, hbl1⟩
           have hg3 := hg1.below hbl1
           have hxb3 := hxb.below hbl1)
        | ((with_reducible refine (div_any vb g d (Nat.gcd n d) _ hxb3 hg3.nat HG0.out HD.out HG5.out).mono ?_); rintro e w4 ⟨q2, r2, rfl, hq2, hr2, hbl2⟩
           have hq14 := hq1.nat.below hbl2
           have hq24 := hq2.nat
           have hC4 := (hC.belowS hbl1).belowS hbl2
           have hbz4 := hbz.trans ((hbl1.trans (hbl2.mono hbl1.size)).mono hbz.size))))
    clear hC hbz hxa hxb hb1 ha hb hg1 hg3 hxb3 hbl1 hbl2 hq1 hq2 hr1 hr2
    have hxa := hq14
    have hxb := hq24
    have hC := hC4
    have hbz := hbz4
    clear hq14 hq24 hC4 hbz4 hgb
    have hF := fits_fq false n d hd
    generalize hN1 : n / Nat.gcd n d = N1 at *
    generalize hD1 : d / Nat.gcd n d = D1 at *
    have HN1 := Lib.hid hN1
    have HD1 := Lib.hid hD1
    have HC := Lib.hid hC
    have HBZ := Lib.hid hbz
    have HIF := Lib.hid hF
    obtain ⟨_, c0, c1, c2, f0, f1, f2⟩ := hC
    clear hN1 hD1 hF hbz
    by_cases hfit : nbits N1 ≤ 4096 ∧ nbits D1 ≤ 4096
    · have HFI := Lib.hid (HIF.out.2 hfit)
      obtain ⟨hf1, hf2⟩ := hfit
      go_wp2_with (first
        | (go_at_call 156; first
          | ((with_reducible refine (bits_any q1 N1 _ hxa).mono ?_); rintro e w' ⟨rfl, rfl⟩)
          | ((with_reducible refine (bits_any q2 D1 _ hxb).mono ?_); rintro e w' ⟨rfl, rfl⟩)))
      all_goals go_wp2_with (go_at_call 194; first
         | ((with_reducible refine (trim_any q1 N1 _ hxa).mono ?_); rintro e w1 ⟨ra, rfl, hra, hb1⟩; obtain ⟨a1, l1, k1, rfl, _⟩ := hra.v.sl)
         | ((with_reducible refine (trim_any q2 D1 _ (hxb.below hb1)).mono ?_); rintro e w2 ⟨rb, rfl, hrb, hb2⟩; obtain ⟨a2, l2, k2, rfl, _⟩ := hrb.v.sl
            have hra2 := hra.below hb2
            have hC2 := (HC.out.belowS hb1).belowS hb2
            have HC2 := Lib.hid hC2
            have HBZ2 := Lib.hid (HBZ.out.trans ((hb1.trans (hb2.mono hb1.size)).mono HBZ.out.size))
            obtain ⟨_, d0, d1, d2, e0, e1, e2⟩ := hC2))
      all_goals
        try simp only [Exit.inBlock, Exit.then]
        refine bodyPost_c3 rfl rfl Tryz.aggF Tryz.sizeF (HC2.out.set _ _ _) rfl ?_
        refine ⟨_, 0, rfl, below_set3 HBZ2.out (Nat.le_refl _) _ _ _, fun _ => ⟨rfl, FracC.set3 (fracC_fq hd (HN1.out ▸ hra2) (HD1.out ▸ hrb) ?_) HC2.out (fun z => by simp) (fun z => by simp) _ _ _⟩, fun h => absurd HFI.out h⟩
        rw [HN1.out]; first | rfl | exact nbits_dec N1
    · have HFI := Lib.hid (fun h => hfit (HIF.out.1 h))
      go_wp2_with (first
        | (go_at_call 156; first
          | ((with_reducible refine (bits_any q1 N1 _ hxa).mono ?_); rintro e w' ⟨rfl, rfl⟩)
          | ((with_reducible refine (bits_any q2 D1 _ hxb).mono ?_); rintro e w' ⟨rfl, rfl⟩)))
      all_goals
        refine bodyPost_c3 rfl rfl Tryz.aggF Tryz.sizeF (HC.out.set _ _ _) rfl ?_
        exact ⟨_, 2, rfl, below_set3 HBZ.out (Nat.le_refl _) _ _ _, fun h => absurd h HFI.out, fun _ => ⟨rfl, rfl⟩⟩
theorem lowest_any (s : Bool) (va vb : Value) (n d : Nat) (w : World) (ha : NatN w va n) (hb : NatN w vb d) (hd : d ≠ 0) (hn5 : nlen n ≤ 512) (hd5 : nlen d ≤ 512) :
    Calls Tryz.prog 142 #[.bool s, va, vb] w (RFrac w (fq s n d)) := by
  have h0 : Nat.gcd n d ≠ 0 := fun h => hd (Nat.gcd_eq_zero_iff.1 h).2
  rcases Nat.lt_or_ge 1 (Nat.gcd n d) with h | h
  · exact lowest_more s va vb n d w ha hb hd hn5 hd5 h
  · exact lowest_one s va vb n d w ha hb hd hn5 hd5 (by omega)
end Go.Proofs.YtlpdkbmmbdfoiaaGreat
namespace Go.Proofs.YtlpdkbmmbdfoiaaGreat
set_option linter.unusedVariables false
open Go.RowKit
theorem step_call {P : Program} {ops : Array Oper} {o : Oper} {a : Act} {w : World} {K : Act → World → Prop} {Q : Exit → Act → World → Prop} {E : Prop} (hg : o.guard = none) (f : FuncId) (argv : Array Value)
    (hrun : (execOp a.eval o).run P w = .ok (.enter f argv) w) {R : Ending → World → Prop} (hc : Calls P f argv w R) (h : ∀ e w', R e w' → ∃ v, e = .returned v ∧ K (a.put o.dst v) w') :
    if Region.wanted o (yielded ops a.tmps) = true then Oper.wp P o a w K Q else E := by
  rw [if_pos (by simp [Region.wanted, hg])]
  unfold Oper.wp
  rw [hrun, Oper.upon_enter]
  refine hc.mono fun e w' hr => ?_
  obtain ⟨v, rfl, hk⟩ := h e w' hr
  exact hk
end Go.Proofs.YtlpdkbmmbdfoiaaGreat
