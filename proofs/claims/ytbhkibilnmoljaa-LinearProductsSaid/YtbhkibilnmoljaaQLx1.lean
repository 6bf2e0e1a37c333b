/-
  package drydocklaw05: order, matrix.
  Ahead of it: package drydockref02: Order, Same, Sign of any fractions.
-/
import Derived.Test.YtbhkibilnmoljaaQLi15
import Derived.Test.YtbhkibilnmoljaaQRb5
namespace Go.Proofs.Ytbhkibilnmoljaa
set_option linter.unusedVariables false
set_option linter.unusedSimpArgs false
open Go.RowKit

theorem cmpN_swap (a b : Nat) : cmpN b a = -cmpN a b := by
  unfold cmpN
  rcases Nat.lt_trichotomy a b with h | h | h
  · rw [if_neg (by omega), if_pos h, if_pos h]; rfl
  · subst h; rw [if_neg (by omega), if_neg (by omega)]; rfl
  · rw [if_pos h, if_neg (by omega), if_pos h]
theorem nlen_prod {n e : Nat} (he : e ≠ 0) : (n = 0 → nlen (n * e) = 0) ∧ (n ≠ 0 → 0 < nlen (n * e)) :=
  ⟨fun h => nlen_eq_zero.2 (by rw [h, Nat.zero_mul]), fun h => nlen_pos_iff.2 (Nat.mul_ne_zero h he)⟩
set_option maxRecDepth 100000 in
set_option maxHeartbeats 1600000 in
theorem r2order_any (va vb : Value) (s t : Bool) (n d m e : Nat) (w : World) (ha : FracN w va s n d) (hb : FracN w vb t m e) (h1 : okN n d) (h2 : okN m e) :
    Calls Try.prog 46 #[va, vb] w fun en w' => en = .returned (.int .i64 (cmpR (fq s n d) (fq t m e))) ∧ Below w.heap.size w w' := by
  obtain ⟨xn, xd, rfl, hxn, hxd⟩ := ha
  obtain ⟨yn, yd, rfl, hyn, hyd⟩ := hb
  obtain ⟨an, ln, kn, rfl, _⟩ := hxn.slen.1
  obtain ⟨ad, ld, kd, rfl, _⟩ := hxd.slen.1
  obtain ⟨am, lm, km, rfl, _⟩ := hyn.slen.1
  obtain ⟨ae, le, ke, rfl, _⟩ := hyd.slen.1
  have l1 := Lib.hid (okN_nlen h1)
  have l2 := Lib.hid (okN_nlen h2)
  have z1 := nlen_prod (n := n) h2.1
  have z2 := nlen_prod (n := m) h1.1
  have HR := Lib.hid (cmpR_eq s t n d m e h1.1 h2.1)
  have HSW := Lib.hid (cmpN_swap (n * e) (m * d))
  clear h1 h2
  obtain ⟨L1, hL1⟩ : ∃ L, nlen (n * e) = L := ⟨_, rfl⟩
  obtain ⟨L2, hL2⟩ : ∃ L, nlen (m * d) = L := ⟨_, rfl⟩
  rw [hL1] at z1
  rw [hL2] at z2
  have HL1 := Lib.hid hL1
  have HL2 := Lib.hid hL2
  have hX : (s = false) ∨ (s = true ∧ n = 0 ∧ L1 = 0) ∨ (s = true ∧ n ≠ 0 ∧ 0 < L1) := by
    cases s
    · exact Or.inl rfl
    · by_cases h : n = 0
      · exact Or.inr (Or.inl ⟨rfl, h, z1.1 h⟩)
      · exact Or.inr (Or.inr ⟨rfl, h, z1.2 h⟩)
  have hY : (t = false) ∨ (t = true ∧ m = 0 ∧ L2 = 0) ∨ (t = true ∧ m ≠ 0 ∧ 0 < L2) := by
    cases t
    · exact Or.inl rfl
    · by_cases h : m = 0
      · exact Or.inr (Or.inl ⟨rfl, h, z2.1 h⟩)
      · exact Or.inr (Or.inr ⟨rfl, h, z2.2 h⟩)
  have HX0 := Lib.hid hX
  have HY0 := Lib.hid hY
  clear hL1 hL2 z1 z2 hX hY
  go_enter Try.func46, Try.ntmps46
  go_wp2_with fail
  obtain ⟨W, hW⟩ : ∃ W, W = ((w.alloc (.cells #[.bool s, .slice an ln kn, .slice ad ld kd] 30)).alloc (.cells #[.bool t, .slice am lm km, .slice ae le ke] 30)) := ⟨_, rfl⟩
  obtain ⟨bx, byy, hbw⟩ := two_boxes w 30 _ _ _ _ _ _ W hW
  rw [← hW]
  clear hW
  have hd2 := below_drew (B := W.heap.size) W
  have hD := below_then hbw hd2
  have hbx3 := bx.belowS hd2
  have hby3 := byy.belowS hd2
  have HX3 := Lib.hid hbx3
  have HY3 := Lib.hid hby3
  obtain ⟨_, q1, q2, q3, q4, q5, q6⟩ := hbx3
  obtain ⟨_, r1, r2, r3, r4, r5, r6⟩ := hby3
  have g1 := hxn.below hD
  have g2 := hxd.below hD
  have g3 := hyn.below hD
  have g4 := hyd.below hD
  clear bx byy hd2
  have tok1 : True := trivial
  go_region_held3 (fun w' => w'.cell? ⟨w.heap.size, 1, none⟩ = some (.slice an ln kn) ∧ w'.cell? ⟨w.heap.size, 2, none⟩ = some (.slice ad ld kd) ∧ w'.cell? ⟨w.heap.size + 1, 1, none⟩ = some (.slice am lm km) ∧ w'.cell? ⟨w.heap.size + 1, 2, none⟩ = some (.slice ae le ke)) (exact ⟨q2, q3, r2, r3⟩) (first
    | (go_at_call 40; have _t := tok1; clear tok1 _t; (with_reducible refine (r2times_any _ _ n e _ g1 g4 l1.out.1 l2.out.2).mono ?_); rintro e9 w3 ⟨p1, rfl, hp1, hp2⟩
       have X4 := HX3.out.belowS hp2
       have Y4 := HY3.out.belowS hp2
       have HX4 := Lib.hid X4
       have HY4 := Lib.hid Y4
       obtain ⟨_, q1, q2, q3, q4, q5, q6⟩ := X4
       obtain ⟨_, r1, r2, r3, r4, r5, r6⟩ := Y4)
    | (go_at_call 40; (with_reducible refine (r2times_any _ _ m d _ (g3.below hp2) (g2.below hp2) l2.out.1 l1.out.2).mono ?_); rintro e9 w4 ⟨p3, rfl, hp3, hp4⟩
       have hp24 := below_then hp2 hp4
       have hp14 := hp1.below hp4
       have X5 := HX4.out.belowS hp4
       have Y5 := HY4.out.belowS hp4
       have HX5 := Lib.hid X5
       have HY5 := Lib.hid Y5
       obtain ⟨_, q1, q2, q3, q4, q5, q6⟩ := X5
       obtain ⟨_, r1, r2, r3, r4, r5, r6⟩ := Y5))
  have hdw : Below w.heap.size w w4 := hD.trans (hp24.mono hD.size)
  have HP1 := Lib.hid hp14
  have HP3 := Lib.hid hp3
  have sp1 := hp14.v.sl
  have lp1 : slen p1 = L1 := hp14.v.len.trans HL1.out
  have sp3 := hp3.v.sl
  have lp3 : slen p3 = L2 := hp3.v.len.trans HL2.out
  have k1 := HX5.out.c0
  have k2 := HY5.out.c0
  clear hp24 hp14 hp1 hp3 hp2 hp4 hD g1 g2 g3 g4 HX3 HY3 HX4 HY4 q1 q2 q3 q4 q5 q6 r1 r2 r3 r4 r5 r6 hbw
  rcases HX0.out with rfl | ⟨rfl, hn0, hl0⟩ | ⟨rfl, hn0, hl0⟩ <;> rcases HY0.out with rfl | ⟨rfl, hm0, hk0⟩ | ⟨rfl, hm0, hk0⟩ <;> (
    try subst hl0
    try subst hk0
    clear HX0 HY0
    go_wp2_with (go_at_call 42; first
      | ((with_reducible refine (rcmp_any p1 p3 (n * e) (m * d) _ HP1.out.nat HP3.out.nat).mono ?_); rintro e9 w9 ⟨rfl, hb9⟩; have hdw := below_then hdw hb9)
      | ((with_reducible refine (rcmp_any p3 p1 (m * d) (n * e) _ HP3.out.nat HP1.out.nat).mono ?_); rintro e9 w9 ⟨rfl, hb9⟩; rw [HSW.out]; have hdw := below_then hdw hb9))
    all_goals
      go_ret
      exact ⟨by rw [HR.out]; simp [*], hdw⟩)
theorem cmpR_beq (p q : Rat) : (cmpR p q == 0) = decide (p = q) := by
  have := cmpR_self_iff p q
  by_cases h : p = q
  · rw [decide_eq_true h, this.2 h]; rfl
  · rw [decide_eq_false h]
    have h2 : cmpR p q ≠ 0 := fun e => h (this.1 e)
    simpa using h2
set_option maxHeartbeats 800000 in
theorem r2same_any (va vb : Value) (s t : Bool) (n d m e : Nat) (w : World) (ha : FracN w va s n d) (hb : FracN w vb t m e) (h1 : okN n d) (h2 : okN m e) :
    Calls Try.prog 24 #[va, vb] w fun en w' => en = .returned (.bool (decide (fq s n d = fq t m e))) ∧ Below w.heap.size w w' := by
  have hA := ha
  have hB := hb
  obtain ⟨xn, xd, rfl, hxn, hxd⟩ := ha
  obtain ⟨yn, yd, rfl, hyn, hyd⟩ := hb
  obtain ⟨an, ln, kn, rfl, _⟩ := hxn.slen.1
  obtain ⟨ad, ld, kd, rfl, _⟩ := hxd.slen.1
  obtain ⟨am, lm, km, rfl, _⟩ := hyn.slen.1
  obtain ⟨ae, le, ke, rfl, _⟩ := hyd.slen.1
  have K1 := Lib.hid h1
  have K2 := Lib.hid h2
  have HE := Lib.hid (cmpR_beq (fq s n d) (fq t m e))
  clear h1 h2
  go_enter Try.func24, Try.ntmps24
  go_wp2_with fail
  obtain ⟨W, hW⟩ : ∃ W, W = ((w.alloc (.cells #[.bool s, .slice an ln kn, .slice ad ld kd] 30)).alloc (.cells #[.bool t, .slice am lm km, .slice ae le ke] 30)) := ⟨_, rfl⟩
  obtain ⟨bx, byy, hbw⟩ := two_boxes w 30 _ _ _ _ _ _ W hW
  rw [← hW]
  clear hW
  obtain ⟨_, q1, q2, q3, q4, q5, q6⟩ := bx
  obtain ⟨_, r1, r2, r3, r4, r5, r6⟩ := byy
  go_wp2_with (go_at_call 46; (with_reducible refine (r2order_any _ _ s t n d m e _ (hA.below hbw) (hB.below hbw) K1.out K2.out).mono ?_); rintro e9 w9 ⟨rfl, hb9⟩)
  go_ret
  exact ⟨by rw [← HE.out]; rfl, below_then hbw hb9⟩
set_option maxHeartbeats 800000 in
theorem r2sign_any (va : Value) (s : Bool) (n d : Nat) (w : World) (ha : FracN w va s n d) (h1 : okN n d) :
    Calls Try.prog 17 #[va] w fun en w' => en = .returned (.int .i64 (cmpR (fq s n d) 0)) ∧ Below w.heap.size w w' := by
  have hA := ha
  obtain ⟨xn, xd, rfl, hxn, hxd⟩ := ha
  obtain ⟨an, ln, kn, rfl, _⟩ := hxn.slen.1
  obtain ⟨ad, ld, kd, rfl, _⟩ := hxd.slen.1
  have K1 := Lib.hid h1
  have K0 : Hid (okN (0 : Rat).num.natAbs (0 : Rat).den) := Lib.hid (by decide +kernel)
  have HE : Hid (cmpR (fq s n d) (fq false 0 1) = cmpR (fq s n d) 0) := Lib.hid (by rw [show fq false 0 1 = 0 from fq_zero false 1 (by decide)])
  clear h1
  go_enter Try.func17, Try.ntmps17
  go_wp2_with fail
  have bx := C3.new w 30 (.bool s) (.slice an ln kn) (.slice ad ld kd)
  have hbx := below_alloc w (.cells #[.bool s, .slice an ln kn, .slice ad ld kd] 30)
  generalize hW : w.alloc (.cells #[.bool s, .slice an ln kn, .slice ad ld kd] 30) = W at *
  clear hW
  have hd2 := below_drew (B := W.heap.size) W
  have hD := below_then hbx hd2
  have hbx3 := bx.belowS hd2
  have HX3 := Lib.hid hbx3
  obtain ⟨_, q1, q2, q3, q4, q5, q6⟩ := hbx3
  clear bx hd2
  go_region_held3 (fun w' => w'.cell? ⟨w.heap.size, 0, none⟩ = some (.bool s) ∧ w'.cell? ⟨w.heap.size, 1, none⟩ = some (.slice an ln kn) ∧ w'.cell? ⟨w.heap.size, 2, none⟩ = some (.slice ad ld kd)) (exact ⟨q1, q2, q3⟩) (first
    | (go_at_call 12; (with_reducible refine (r2int_zero _).mono ?_); rintro e9 w3 ⟨v3, rfl, hv3, hb3⟩
       obtain ⟨_, q1, q2, q3, q4, q5, q6⟩ := HX3.out.belowS hb3)
    | (go_at_call 46; (with_reducible refine (r2order_any _ _ s _ n d _ _ _ ((hA.below hD).below hb3) hv3.raw K1.out K0.out).mono ?_); rintro e9 w4 ⟨rfl, hb4⟩
       obtain ⟨_, q1, q2, q3, q4, q5, q6⟩ := HX3.out.belowS (below_then hb3 hb4)))
  go_wp2
  go_ret
  exact ⟨by rw [← HE.out]; rfl, below_then (below_then hD hb3) hb4⟩
end Go.Proofs.Ytbhkibilnmoljaa
namespace Go.Proofs.Ytbhkibilnmoljaa
set_option linter.unusedVariables false
set_option linter.unusedSimpArgs false
open Go.RowKit

/-- v reads as a list of small integers. -/
def I8V (w : World) (v : Value) (l : List Int) : Prop := CellsV w v (l.map (Value.int .i8)) ∧ ∀ x ∈ l, -128 ≤ x ∧ x ≤ 127
theorem I8V.below {w w' : World} {v : Value} {l : List Int} (h : I8V w v l) (hb : Below w.heap.size w w') : I8V w' v l := ⟨h.1.below hb, h.2⟩
/-- The fraction of a small integer. -/
def elQ (x : Int) : Rat := fq (decide (x.tmod 16 < 0)) (x.tmod 16).natAbs (1 + ((x % 256).toNat / 32))
/-- The element of a list of small integers, 0 behind its end. -/
def elL (l : List Int) (k : Nat) : Rat := if h : k < l.length then elQ (l[k]) else 0
/-- The matrix of small numbers. -/
def smallM (c : Nat) (l : List Int) : Mx := fun i j => elL l (i * c + j)
theorem order_any (x : Nat) (w : World) (hx : x < 256) : Calls Try.prog 9 #[.int .u8 x] w fun e w' => e = .returned (.int .i64 ((1 + x % 5 : Nat))) ∧ w = w' := by
  have h1 : ((x : Int)) ≤ 255 := by omega
  have h2 : (0 : Int) ≤ (x : Int) := by omega
  go_enter Try.func9, Try.ntmps9
  go_wp2
  go_ret
  exact ⟨by congr 1, rfl⟩
theorem wrap_i8 : ∀ k : Fin 256, IntKind.i64.wrap (((k.val : Int) - 128).tmod 16) = ((k.val : Int) - 128).tmod 16 ∧ IntKind.i64.wrap (1 + IntKind.i64.wrap (IntKind.u8.wrap ((k.val : Int) - 128) / 32)) = ((1 + (((k.val : Int) - 128) % 256).toNat / 32 : Nat) : Int) ∧
    -16 ≤ ((k.val : Int) - 128).tmod 16 ∧ ((k.val : Int) - 128).tmod 16 ≤ 16 ∧ (((k.val : Int) - 128) % 256).toNat / 32 ≤ 8 := by decide +kernel
theorem i8_facts (x : Int) (h1 : -128 ≤ x) (h2 : x ≤ 127) : IntKind.i64.wrap (x.tmod 16) = x.tmod 16 ∧ IntKind.i64.wrap (1 + IntKind.i64.wrap (IntKind.u8.wrap x / 32)) = ((1 + (x % 256).toNat / 32 : Nat) : Int) ∧ -16 ≤ x.tmod 16 ∧ x.tmod 16 ≤ 16 ∧ (x % 256).toNat / 32 ≤ 8 := by
  obtain ⟨n, hn⟩ : ∃ n : Nat, x + 128 = n := ⟨(x + 128).toNat, by omega⟩
  have h := wrap_i8 ⟨n, by omega⟩
  have hx : (n : Int) - 128 = x := by omega
  simp only [hx] at h
  exact h
theorem r2make_i8 (x : Int) (h1 : -128 ≤ x) (h2 : x ≤ 127) (w : World) : Calls Try.prog 32 #[.int .i64 (IntKind.i64.wrap (x.tmod 16)), .int .i64 (IntKind.i64.wrap (1 + IntKind.i64.wrap (IntKind.u8.wrap x / 32)))] w (RF0 w (elQ x)) := by
  obtain ⟨e1, e2, e3, e4, e5⟩ := i8_facts x h1 h2
  rw [e1, e2]
  refine (r2make_any _ _ w (by omega) (by omega) (by omega) (by omega) (by omega)).mono fun _ _ h => h.eq ?_
  rw [decide_eq_false (show ¬ ((1 + (x % 256).toNat / 32 : Nat) : Int) < 0 by omega)]
  unfold elQ
  cases decide (x.tmod 16 < 0) <;> rfl
/-- A matrix in the making: its rows. -/
structure MkM (w : World) (B : Nat) (v : Value) (rs : List Value) (c : Nat) (A : Mx) : Prop where
  ra : OwnR w 26 B 1 v rs.length rs
  rows : ∀ (j : Nat) (h : j < rs.length), FrRow w 30 B rs[j] (rowL c (A j))
  sz : B ≤ w.heap.size
section
variable {w w' : World} {B c : Nat} {v v' r : Value} {rs : List Value} {A : Mx}
theorem MkM.below (h : MkM w B v rs c A) (hb : Below w.heap.size w w') : MkM w' B v rs c A :=
  ⟨h.ra.moves (Moves.below (B := B) hb) (Nat.le_refl _), fun j hj => (h.rows j hj).moves (Moves.below (B := B) hb) (Nat.le_refl _), Nat.le_trans h.sz hb.size⟩
theorem MkM.push (h : MkM w B v rs c A) (hr : FrRow w 30 B r (rowL c (A rs.length))) (hv : OwnR w' 26 B 1 v' (rs ++ [r]).length (rs ++ [r])) (hg : w.grownBy w' v.ownBlock) (hn : NoLimb w v) :
    MkM w' B v' (rs ++ [r]) c A ∧ Below B w w' := by
  obtain ⟨ra, rows, sz⟩ := h
  have hb : Below B w w' := below_of_grown hg sz (fun k hk => (ra.block k hk).1)
  refine ⟨⟨hv, fun j h1 => ?_, Nat.le_trans sz hb.size⟩, hb⟩
  rcases Nat.lt_or_ge j rs.length with hj | hj
  · rw [List.getElem_append_left hj]
    obtain ⟨ys, y1, y2⟩ := id (rows j hj)
    exact (rows j hj).grown hg hn (y1.kinds ra (by decide))
  · obtain rfl : j = rs.length := by simp at h1; omega
    have e1 : (rs ++ [r])[rs.length]'h1 = r := by simp
    obtain ⟨zs, z1, z2⟩ := id hr
    rw [e1]
    exact hr.grown hg hn (z1.kinds ra (by decide))
theorem MkM.mat (h : MkM w B v rs c A) : MatF w v rs.length c A :=
  ⟨h.ra.sl, h.ra.len, fun i hi => ⟨rs[i], h.ra.cell i hi, (h.rows i hi).fracs⟩⟩
end
set_option maxRecDepth 100000 in
set_option maxHeartbeats 3200000 in
theorem matrix_any (vl : Value) (l : List Int) (r c : Nat) (w : World) (hl : I8V w vl l) (hr1 : 1 ≤ r) (hr : r ≤ 5) (hc1 : 1 ≤ c) (hc : c ≤ 5) :
    Calls Try.prog 10 #[.int .i64 r, .int .i64 c, vl] w fun e w' => ∃ v, e = .returned v ∧ MatF w' v r c (smallM c l) ∧ Below w.heap.size w w' := by
  obtain ⟨i3, hi3, hz3, hs3, hy3⟩ := info_parts Try.infoF
  have hAP := append1_fr (P := Try.prog) 26 30 i3 Try.underlying26 hi3 hz3 hs3 hy3
  obtain ⟨i4, hi4, hz4, hs4, hy4⟩ := info_parts Try.infoRow
  have hAR := append1_one (P := Try.prog) 24 26 i4 _ 24 Try.underlying24 hi4 hz4 hs4 hy4 (by decide) rfl (fun z => by simp)
  clear hi3 hz3 hs3 hy3 hi4 hz4 hs4 hy4
  have sl := hl.1.sl
  have ll : slen vl = l.length := by have := hl.1.len; simpa using this
  have hle := sl.le
  rw [ll] at hle
  have hlb : l.length ≤ 9223372036854775807 := by omega
  have HL := Lib.hid hl
  clear hl hle
  go_enter Try.func10, Try.ntmps10
  go_wp2_with fail
  go_loopg [7, 8] (r) (fun g u7 u8 wr => ∃ (i : Nat) (rs : List Value), i ≤ r ∧ g = r - i ∧ u8 = .int .i64 i ∧ rs.length = i ∧ MkM wr w.heap.size u7 rs c (smallM c l) ∧ Below w.heap.size w wr)
  case atStart => exact ⟨0, [], Nat.zero_le _, rfl, rfl, rfl, ⟨OwnR.nil _ _ _ _, fun j h => by simp at h, Nat.le_refl _⟩, Below.refl _ _⟩
  case round =>
    obtain ⟨i, rs, hin, hg, rfl, hrs, hm, hbr⟩ := hrel
    obtain ⟨w2, hw2⟩ : ∃ w2, w2 = wr := ⟨_, rfl⟩
    subst hw2
    have HG := Lib.hid hg
    have HRS := Lib.hid hrs
    have HM := Lib.hid hm
    have HB2 := Lib.hid hbr
    have svr := hm.ra.sl
    clear hg hrs hm
    by_cases hir : i < r
    · have hprod : i * c ≤ 20 := by
        have : i * c ≤ 4 * 5 := Nat.mul_le_mul (by omega) hc
        omega
      obtain ⟨ic, hic⟩ : ∃ x, i * c = x := ⟨_, rfl⟩
      have hici : (i : Int) * (c : Int) = (ic : Nat) := by rw [← hic]; simp
      rw [hic] at hprod
      have HIC := Lib.hid hic
      have HICI := Lib.hid hici
      clear hic
      go_wp2_with fail
      go_loopg [9, 10] (c) (fun g u9 u10 wi => ∃ (k : Nat), k ≤ c ∧ g = c - k ∧ u10 = .int .i64 k ∧ FrRow wi 30 w2.heap.size u9 (rowL k (smallM c l i)) ∧ Below w2.heap.size w2 wi)
      case atStart => exact ⟨0, Nat.zero_le _, rfl, rfl, FrRow.nil _ _ _, Below.refl _ _⟩
      case round =>
        obtain ⟨k, hk, hgk, rfl, hfr, hbi⟩ := hrel
        obtain ⟨wb, hwb⟩ : ∃ wb, wb = wr := ⟨_, rfl⟩
        subst hwb
        have HGK := Lib.hid hgk
        have HFR := Lib.hid hfr
        have HBI := Lib.hid hbi
        have srow := hfr.sl
        clear hgk hfr
        obtain ⟨kk, hkk⟩ : ∃ x, ic + k = x := ⟨_, rfl⟩
        have hkki : (ic : Int) + (k : Int) = (kk : Nat) := by rw [← hkk]; simp
        have hkb : kk ≤ 30 := by omega
        have HKK := Lib.hid hkk
        clear hkk
        by_cases hkn : k < c
        · by_cases hkl : kk < l.length
          · obtain ⟨x, hx⟩ : ∃ x, l[kk] = x := ⟨_, rfl⟩
            have hxm : x ∈ l := hx ▸ List.getElem_mem hkl
            obtain ⟨x1, x2⟩ := HL.out.2 x hxm
            have hcl : wb.cell? (ptr vl kk) = some (.int .i8 x) := by
              have h := (HL.out.1.below (hbr.trans (hbi.mono hbr.size))).cell kk (by rw [List.length_map]; exact hkl)
              rw [List.getElem_map, hx] at h
              exact h
            have S0 := Lib.hid (And.intro hcl hcl)
            have HX := Lib.hid hx
            have i1 : (0 : Int) ≤ (kk : Int) := by omega
            have i2 : (kk : Int) < (l.length : Nat) := by omega
            clear hx hxm hcl
            go_wp2_with (first
              | (go_at_call 12; (with_reducible refine (r2int_zero _).mono ?_); rintro e13 w13 ⟨v13, rfl, hv13, hb13⟩
                 obtain ⟨t13, x13, y13, rfl, ⟨a131, l131, k131, rfl, q131⟩, ⟨a132, l132, k132, rfl, q132⟩⟩ := hv13.isF
                 have hb14 := below_then hb13 (below_alloc w13 (.cells #[.bool t13, .slice a131 l131 k131, .slice a132 l132 k132] 30))
                 have h1314 := hb13.size
                 have HC1 := Lib.hid (C3.new w13 30 (.bool t13) (.slice a131 l131 k131) (.slice a132 l132 k132))))
            obtain ⟨wz, hwz⟩ : ∃ wz, wz = w13.alloc (.cells #[.bool t13, .slice a131 l131 k131, .slice a132 l132 k132] 30) := ⟨_, rfl⟩
            rw [← hwz] at hb14 HC1 ⊢
            clear hwz
            have S1 := Lib.hid (kp2a S0.out hb14)
            go_region_held3 (fun w' => w'.cell? (ptr vl kk) = some (.int .i8 x) ∧ w'.cell? (ptr vl kk) = some (.int .i8 x) ∧ Below wb.heap.size wb w') (first
              | with_reducible exact S1.out
              | with_reducible exact kp2w (by assumption) (below_drew _)
              | with_reducible exact kp2a S0.out (below_then hb14 (below_drew _))
              | with_reducible exact kp2w (by assumption) (by assumption)
              | with_reducible exact kp2s S0.out hB31 (by assumption) _ _ _) (first
              | (go_at_call 32; (with_reducible refine (r2make_i8 x x1 x2 _).mono ?_); rintro e31 w31 ⟨v31, rfl, hv31, hb31⟩
                 obtain ⟨t31, x31, y31, rfl, ⟨a311, l311, k311, rfl, _⟩, ⟨a312, l312, k312, rfl, _⟩⟩ := hv31.isF
                 have hB31 := below_then (kp2c (by assumption)) hb31
                 have HC3 := Lib.hid (HC1.out.belowS (below_then (below_drew _) hb31))
                 obtain ⟨_, c0, c1, c2, f0, f1, f2⟩ := HC3.out))
            have hE := kp2c (by assumption)
            have hv5 := hv31.set3 HC3.out (fun z => by simp) (fun z => by simp) (.bool t31) (.slice a311 l311 k311) (.slice a312 l312 k312)
            have hC5 := HC3.out.set (.bool t31) (.slice a311 l311 k311) (.slice a312 l312 k312)
            have HEL : Hid (smallM c l i k = elQ x) := Lib.hid (by unfold smallM elL; rw [HIC.out, HKK.out, dif_pos hkl, HX.out])
            clear c0 c1 c2 f0 f1 f2
            obtain ⟨w5, hw5⟩ : ∃ w5, w5 = (((w31.setCell ⟨w13.heap.size, 0, none⟩ (.bool t31)).setCell ⟨w13.heap.size, 1, none⟩ (.slice a311 l311 k311)).setCell ⟨w13.heap.size, 2, none⟩ (.slice a312 l312 k312)) := ⟨_, rfl⟩
            rw [← hw5] at hE hv5 hC5 ⊢
            clear hw5
            obtain ⟨_, c0, c1, c2, f0, f1, f2⟩ := hC5
            have hfr5 := HFR.out.moves (Moves.below (B := w2.heap.size) (hE.mono (Nat.le_refl _))) (Nat.le_refl _)
            have hsz5 : w2.heap.size ≤ w5.heap.size := Nat.le_trans HBI.out.size hE.size
            have hrl : (rowL k (smallM c l i)).length ≤ 1000 := by rw [rowL_length]; omega
            go_wp2_with (first
              | (at_builtin; refine hAP w5 rfl _ _ rfl w2.heap.size _ u9 (rowL k (smallM c l i)) rfl hfr5 _ _ _ (elQ x) hv5 rfl hrl hsz5 ?_; intro v4' w50 ho50 hg50 hn50 hq50 sv50
                 have hg5 : Below w2.heap.size w5 w50 := below_of_grown hg50 hsz5 (fun k hk => (hfr5.block k hk).1)
                 have HO50 := Lib.hid ho50))
            go_roundg (c - (k + 1))
            case measure => (have := HGK.out; omega)
            case rel => exact ⟨k + 1, by omega, rfl, by go_num, by rw [← rowL_snoc, HEL.out]; exact HO50.out, (below_then HBI.out hE).trans hg5⟩
          · have HEL : Hid (smallM c l i k = 0) := Lib.hid (by unfold smallM elL; rw [HIC.out, HKK.out, dif_neg hkl])
            have hrl : (rowL k (smallM c l i)).length ≤ 1000 := by rw [rowL_length]; omega
            go_wp2_with (first
              | (go_at_call 12; (with_reducible refine (r2int_zero _).mono ?_); rintro e13 w13 ⟨v13, rfl, hv13, hb13⟩
                 obtain ⟨t13, x13, y13, rfl, ⟨a131, l131, k131, rfl, q131⟩, ⟨a132, l132, k132, rfl, q132⟩⟩ := hv13.isF
                 have hb14 := below_then hb13 (below_alloc w13 (.cells #[.bool t13, .slice a131 l131 k131, .slice a132 l132 k132] 30))
                 have hv14 := hv13.below (below_alloc w13 (.cells #[.bool t13, .slice a131 l131 k131, .slice a132 l132 k132] 30))
                 have hfr5 := HFR.out.moves (Moves.below (B := w2.heap.size) hb14) (Nat.le_refl _)
                 have sz1 : (w13.alloc (.cells #[.bool t13, .slice a131 l131 k131, .slice a132 l132 k132] 30)).heap.size = w13.heap.size + 1 := by simp
                 have SZ1 := Lib.hid sz1
                 have hsz5 : w2.heap.size ≤ (w13.alloc (.cells #[.bool t13, .slice a131 l131 k131, .slice a132 l132 k132] 30)).heap.size := Nat.le_trans HBI.out.size hb14.size
                 clear sz1)
              | (at_builtin; refine hAP (w13.alloc (.cells #[.bool t13, .slice a131 l131 k131, .slice a132 l132 k132] 30)) rfl _ _ rfl w2.heap.size _ u9 (rowL k (smallM c l i)) rfl hfr5 _ _ _ 0 hv14 (by rw [SZ1.out]; rfl) hrl hsz5 ?_; intro v4' w50 ho50 hg50 hn50 hq50 sv50
                 have hg5 : Below w2.heap.size (w13.alloc (.cells #[.bool t13, .slice a131 l131 k131, .slice a132 l132 k132] 30)) w50 := below_of_grown hg50 hsz5 (fun k hk => (hfr5.block k hk).1)
                 have HO50 := Lib.hid ho50))
            go_roundg (c - (k + 1))
            case measure => (have := HGK.out; omega)
            case rel => exact ⟨k + 1, by omega, rfl, by go_num, by rw [← rowL_snoc, HEL.out]; exact HO50.out, (below_then HBI.out hb14).trans hg5⟩
        · obtain rfl : k = c := by omega
          obtain ⟨a11, l11, k11, rfl, _⟩ := id srow
          have hm5 := HM.out.below hbi
          have hra := hm5.ra
          have hsz5 := hm5.sz
          have hlen : rs.length ≤ 1000 := by rw [HRS.out]; omega
          have HM5 := Lib.hid hm5
          have HR5 : Hid (FrRow wb 30 w.heap.size (.slice a11 l11 k11) (rowL k (smallM k l rs.length))) := Lib.hid (by rw [HRS.out]; exact HFR.out.mono HB2.out.size)
          clear hm5
          go_wp2_with (first
            | (at_builtin; refine hAR _ rfl _ _ rfl w.heap.size _ u7 rs rfl hra (.slice a11 l11 k11) rfl (fun z => by simp) rfl hlen hsz5 ?_; intro v5' w21 ho21 hg21 hn21 hq21 sv21
               have hG := HM5.out.push HR5.out ho21 hg21 hn21
               have HG5 := Lib.hid hG
               clear hG))
          go_roundg (r - (i + 1))
          case measure => (have := HG.out; omega)
          case rel => exact ⟨i + 1, _, by omega, rfl, by go_num, by rw [List.length_append, HRS.out]; rfl, HG5.out.1, (below_then2 HB2.out hbi HB2.out.size).trans HG5.out.2⟩
    · obtain rfl : i = r := by omega
      go_wp2_with fail
      go_ret
      exact ⟨_, rfl, by have h := HM.out.mat; rw [HRS.out] at h; exact h, hbr⟩
end Go.Proofs.Ytbhkibilnmoljaa
