/-
  package drydockmake: New, Next.
  Ahead of it: package drydockref02: Make, Int, times, fits, Mul.
-/
import Derived.Test.YtoldfpkafcefnaaQRb1
import Derived.RegionTactic
import Derived.ChangeAlike
namespace Go.Proofs.Ytoldfpkafcefnaa
set_option linter.unusedVariables false
set_option linter.unusedSimpArgs false
open Go.RowKit

set_option maxHeartbeats 800000 in
theorem r2make_any (a b : Int) (w : World) (ha1 : -9223372036854775808 ≤ a) (ha2 : a < 9223372036854775808) (hb1 : -9223372036854775808 ≤ b) (hb2 : b < 9223372036854775808) (hb : b ≠ 0) :
    Calls Try.prog 30 #[.int .i64 a, .int .i64 b] w (RF0 w (fq (!decide (a < 0) == decide (b < 0)) a.natAbs b.natAbs)) := by
  have HA := Lib.hid (And.intro ha1 ha2)
  have HB := Lib.hid (And.intro hb1 hb2)
  have hbn : b.natAbs ≠ 0 := by omega
  have HBN := Lib.hid hbn
  have h1 : ∀ z : Int, -9223372036854775808 ≤ z → z < 9223372036854775808 → nlen z.natAbs ≤ 512 := fun z _ _ => nlen_le.2 (Nat.lt_of_lt_of_le (show z.natAbs < pw 2 by have : pw 2 = 18446744073709551616 := rfl; omega) (pw_le (by omega)))
  have H1 := Lib.hid (h1 a ha1 ha2)
  have H2 := Lib.hid (h1 b hb1 hb2)
  have HA6 : Hid (a.natAbs < 18446744073709551616) := Lib.hid (by omega)
  have HB6 : Hid (b.natAbs < 18446744073709551616) := Lib.hid (by omega)
  have h9 : (b == 0) = false := by simpa using hb
  clear ha1 ha2 hb1 hb2 hbn h1 hb
  go_enter Try.func30, Try.ntmps30
  go_wp2_with (first
    | (go_at_call 52; first
      | ((with_reducible refine (size_any a _ HA.out.1 HA.out.2).mono ?_); rintro e w' ⟨rfl, rfl⟩)
      | ((with_reducible refine (size_any b _ HB.out.1 HB.out.2).mono ?_); rintro e w' ⟨rfl, rfl⟩))
    | (go_at_call 51; first
      | ((with_reducible refine (rmake_any a.natAbs HA6.out _).mono ?_); rintro e w1 ⟨x, rfl, hx, hx1⟩)
      | ((with_reducible refine (rmake_any b.natAbs HB6.out _).mono ?_); rintro e w2 ⟨y, rfl, hy, hy1⟩; have hx2 := hx.below hy1))
    | (go_at_call 50; (with_reducible refine (r2lowest_any _ x y a.natAbs b.natAbs _ hx2.nat hy.nat HBN.out H1.out H2.out).mono ?_); rintro e w3 ⟨v, rfl, hv, hv1⟩
       obtain ⟨t, x1, y1, rfl, ⟨a1, l1, k1, rfl, _⟩, ⟨a2, l2, k2, rfl, _⟩⟩ := hv.isF
       have hC := (((C3.new w 50 (.bool false) (.slice none 0 0) (.slice none 0 0)).belowS hx1).belowS hy1).belowS hv1
       have HC := Lib.hid hC
       have hbz := below_then (below_then (below_then (below_alloc w (.cells #[.bool false, .slice none 0 0, .slice none 0 0] 50)) hx1) hy1) hv1
       obtain ⟨_, d0, d1, d2, e0, e1, e2⟩ := hC))
  refine bodyPost_c3 rfl rfl Try.aggF Try.sizeF (HC.out.set _ _ _) rfl ?_
  exact ⟨_, rfl, hv.set3 HC.out (fun z => by simp) (fun z => by simp) _ _ _, below_set3 hbz (Nat.le_refl _) _ _ _⟩

theorem RF0.eq {w0 : World} {q q' : Rat} {e : Ending} {w : World} (h : RF0 w0 q e w) (hq : q = q') : RF0 w0 q' e w := hq ▸ h
/-- Make, of small natural numbers. -/
theorem r2make_nat (a b : Nat) (w : World) (ha : a < 4294967296) (hb : b < 4294967296) (hb0 : b ≠ 0) :
    Calls Try.prog 30 #[.int .i64 a, .int .i64 b] w (RF0 w (fq false a b)) :=
  (r2make_any a b w (by omega) (by omega) (by omega) (by omega) (by omega)).mono fun _ _ h => h.eq (by
    rw [decide_eq_false (show ¬ ((a : Nat) : Int) < 0 by omega), decide_eq_false (show ¬ ((b : Nat) : Int) < 0 by omega)]; rfl)
theorem r2make_01 (w : World) : Calls Try.prog 30 #[.int .i64 0, .int .i64 1] w (RF0 w 0) :=
  (r2make_nat 0 1 w (by decide) (by decide) (by decide)).mono fun _ _ h => h.eq (by decide)
theorem r2make_11 (w : World) : Calls Try.prog 30 #[.int .i64 1, .int .i64 1] w (RF0 w 1) :=
  (r2make_nat 1 1 w (by decide) (by decide) (by decide)).mono fun _ _ h => h.eq (by decide)
theorem r2make_n1 (n : Nat) (w : World) (hn : n < 4294967296) : Calls Try.prog 30 #[.int .i64 n, .int .i64 1] w (RF0 w (fq false n 1)) :=
  r2make_nat n 1 w hn (by decide) (by decide)
set_option maxHeartbeats 800000 in
theorem r2int_zero (w : World) : Calls Try.prog 27 #[.int .i64 0] w (RF1 w 0) := by
  go_enter Try.func27, Try.ntmps27
  go_wp2_with (go_at_call 30; (with_reducible refine (r2make_01 _).mono ?_); rintro e w1 ⟨v, rfl, hv, hb1⟩
               obtain ⟨t9, x9, y9, rfl, ⟨a1, l91, k1, rfl, _⟩, ⟨a2, l92, k2, rfl, _⟩⟩ := hv.isF
               have hr := ((C3.new w 50 (.bool false) (.slice none 0 0) (.slice none 0 0)).belowS hb1).allocS (.cells #[.bool t9, .slice a1 l91 k1, .slice a2 l92 k2] 50)
               have hv2 := hv.below (below_alloc w1 (.cells #[.bool t9, .slice a1 l91 k1, .slice a2 l92 k2] 50))
               have hb2 := below_then (below_then (below_alloc w (.cells #[.bool false, .slice none 0 0, .slice none 0 0] 50)) hb1) (below_alloc w1 (.cells #[.bool t9, .slice a1 l91 k1, .slice a2 l92 k2] 50))
               have HR := Lib.hid hr
               obtain ⟨_, d1, d2, d3, d4, d5, d6⟩ := hr)
  refine bodyPost_c1 rfl rfl Try.aggF Try.sizeF (HR.out.set _ _ _) rfl ?_
  exact ⟨_, rfl, hv2.set3 HR.out (fun z => by simp) (fun z => by simp) _ _ _, below_set3 hb2 (Nat.le_refl _) _ _ _⟩
set_option maxHeartbeats 800000 in
theorem r2int_one (w : World) : Calls Try.prog 27 #[.int .i64 1] w (RF1 w 1) := by
  go_enter Try.func27, Try.ntmps27
  go_wp2_with (go_at_call 30; (with_reducible refine (r2make_11 _).mono ?_); rintro e w1 ⟨v, rfl, hv, hb1⟩
               obtain ⟨t9, x9, y9, rfl, ⟨a1, l91, k1, rfl, _⟩, ⟨a2, l92, k2, rfl, _⟩⟩ := hv.isF
               have hr := ((C3.new w 50 (.bool false) (.slice none 0 0) (.slice none 0 0)).belowS hb1).allocS (.cells #[.bool t9, .slice a1 l91 k1, .slice a2 l92 k2] 50)
               have hv2 := hv.below (below_alloc w1 (.cells #[.bool t9, .slice a1 l91 k1, .slice a2 l92 k2] 50))
               have hb2 := below_then (below_then (below_alloc w (.cells #[.bool false, .slice none 0 0, .slice none 0 0] 50)) hb1) (below_alloc w1 (.cells #[.bool t9, .slice a1 l91 k1, .slice a2 l92 k2] 50))
               have HR := Lib.hid hr
               obtain ⟨_, d1, d2, d3, d4, d5, d6⟩ := hr)
  refine bodyPost_c1 rfl rfl Try.aggF Try.sizeF (HR.out.set _ _ _) rfl ?_
  exact ⟨_, rfl, hv2.set3 HR.out (fun z => by simp) (fun z => by simp) _ _ _, below_set3 hb2 (Nat.le_refl _) _ _ _⟩
set_option maxHeartbeats 800000 in
theorem r2int_nat (n : Nat) (w : World) (hn : n < 4294967296) : Calls Try.prog 27 #[.int .i64 n] w (RF1 w (fq false n 1)) := by
  have HN := Lib.hid hn
  clear hn
  go_enter Try.func27, Try.ntmps27
  go_wp2_with (go_at_call 30; (with_reducible refine (r2make_n1 n _ HN.out).mono ?_); rintro e w1 ⟨v, rfl, hv, hb1⟩
               obtain ⟨t9, x9, y9, rfl, ⟨a1, l91, k1, rfl, _⟩, ⟨a2, l92, k2, rfl, _⟩⟩ := hv.isF
               have hr := ((C3.new w 50 (.bool false) (.slice none 0 0) (.slice none 0 0)).belowS hb1).allocS (.cells #[.bool t9, .slice a1 l91 k1, .slice a2 l92 k2] 50)
               have hv2 := hv.below (below_alloc w1 (.cells #[.bool t9, .slice a1 l91 k1, .slice a2 l92 k2] 50))
               have hb2 := below_then (below_then (below_alloc w (.cells #[.bool false, .slice none 0 0, .slice none 0 0] 50)) hb1) (below_alloc w1 (.cells #[.bool t9, .slice a1 l91 k1, .slice a2 l92 k2] 50))
               have HR := Lib.hid hr
               obtain ⟨_, d1, d2, d3, d4, d5, d6⟩ := hr)
  refine bodyPost_c1 rfl rfl Try.aggF Try.sizeF (HR.out.set _ _ _) rfl ?_
  exact ⟨_, rfl, hv2.set3 HR.out (fun z => by simp) (fun z => by simp) _ _ _, below_set3 hb2 (Nat.le_refl _) _ _ _⟩
end Go.Proofs.Ytoldfpkafcefnaa
namespace Go.Proofs.Ytoldfpkafcefnaa
set_option linter.unusedVariables false
set_option linter.unusedSimpArgs false
open Go.RowKit

/-- The block b is a tape of the bytes l, read up to at. -/
structure TapeAt (w : World) (b : Nat) (l : List Nat) (at' : Nat) : Prop where
  lt : b < w.heap.size
  ex : ∃ v, w.cell? ⟨b, 0, none⟩ = some v ∧ CellsV w v (l.map fun x : Nat => Value.int .u8 (x : Nat))
  c1 : w.cell? ⟨b, 1, none⟩ = some (.int .i64 (at' : Nat))
  f1 : w.frozen? ⟨b, 1, none⟩ = false
  len : l.length ≤ 400
  le : at' ≤ 400
  byte : ∀ x ∈ l, x < 256
/-- A tape that was read on: one cell, a number, may have turned. -/
def Ticks (b : Nat) (w w' : World) : Prop := (∃ k, w' = w.drewN k) ∨ ∃ k k' a, w' = ((w.drewN k).setCell ⟨b, 1, none⟩ (.int .i64 a)).drewN k'
def RNext (w0 : World) (b : Nat) (l : List Nat) (n : Nat) (e : Ending) (w : World) : Prop := ∃ x a : Nat, e = .returned (.int .i64 (x : Nat)) ∧ x < n ∧ TapeAt w b l a ∧ Ticks b w0 w
theorem TapeAt.drawn {w : World} {b : Nat} {l : List Nat} {a : Nat} (h : TapeAt w b l a) (k : Nat) : TapeAt (w.drewN k) b l a := by
  obtain ⟨lt, ⟨v, e1, e2⟩, c1, f1, h1, h2, h3⟩ := h
  have hb := below_drewN (B := w.heap.size) w k
  exact ⟨Nat.lt_of_lt_of_le lt hb.size, ⟨v, cell_below hb e1, e2.below hb⟩, cell_below hb c1, by rw [hb.frozen lt]; exact f1, h1, h2, h3⟩
set_option maxHeartbeats 800000 in
theorem next_zero (b : Nat) (l : List Nat) (a n : Nat) (w : World) (h : TapeAt w b l a) (hn : 1 ≤ n) (hn2 : n ≤ 65536) (hz : l.length ≤ a ∨ n < 2) :
    Calls Try.prog 29 #[.pointer (some ⟨b, 0, none⟩), .int .i64 n] w (RNext w b l n) := by
  obtain ⟨v, e1, e2⟩ := h.ex
  have c1 := h.c1
  have f1 := h.f1
  have sv := CellsV.sl e2
  have lv : slen v = l.length := by have := CellsV.len e2; simpa using this
  have hll := h.len
  have hle := h.le
  by_cases h1 : l.length ≤ a
  · have hd : decide (((l.length : Nat) : Int) ≤ (a : Nat)) = true := decide_eq_true (by omega)
    go_enter Try.func29, Try.ntmps29
    go_wp2
    go_quiet (fail)
    go_wp2
    go_ret
    exact ⟨0, a, rfl, hn, h.drawn _, Or.inl ⟨_, rfl⟩⟩
  · have hd : decide (((l.length : Nat) : Int) ≤ (a : Nat)) = false := decide_eq_false (by omega)
    have h2 : n < 2 := hz.resolve_left h1
    have hd2 : decide ((n : Int) < 2) = true := decide_eq_true (by omega)
    go_enter Try.func29, Try.ntmps29
    go_wp2
    go_quiet (fail)
    go_wp2
    go_ret
    exact ⟨0, a, rfl, hn, h.drawn _, Or.inl ⟨_, rfl⟩⟩
theorem cell_tick {w : World} {b : Nat} {a0 : Int} {p : Addr} {x : Value} (hc : w.cell? ⟨b, 1, none⟩ = some (.int .i64 a0)) (hp : w.cell? p = some x) (hx : ∀ z, x ≠ .int .i64 z) (u : Value) : (w.setCell ⟨b, 1, none⟩ u).cell? p = some x := by
  rw [World.cell?_setCell_other]
  · exact hp
  · intro e
    rw [← e, hc] at hp
    injection hp with hp
    exact hx _ hp.symm
theorem TapeAt.tick {w : World} {b : Nat} {l : List Nat} {a : Nat} (h : TapeAt w b l a) (a' : Nat) (ha : a' ≤ 400) : TapeAt (w.setCell ⟨b, 1, none⟩ (.int .i64 (a' : Nat))) b l a' := by
  obtain ⟨lt, ⟨v, e1, e2⟩, c1, f1, h1, h2, h3⟩ := h
  refine ⟨by simpa [World.setCell] using lt, ⟨v, ?_, e2.sl, e2.len, fun j hj => cell_tick c1 (e2.cell j hj) (fun z => by simp) _⟩, ?_, ?_, h1, ha, h3⟩
  · rw [World.cell?_setCell_other _ _ _ _ (by simp)]; exact e1
  · exact World.cell?_setCell_same _ _ _ c1
  · go_simp
set_option maxHeartbeats 800000 in
theorem next_more (b : Nat) (l : List Nat) (a n : Nat) (w : World) (h : TapeAt w b l a) (hn2 : n ≤ 65536) (h1 : a < l.length) (h2 : 2 ≤ n) :
    Calls Try.prog 29 #[.pointer (some ⟨b, 0, none⟩), .int .i64 n] w (RNext w b l n) := by
  obtain ⟨v, e1, e2⟩ := h.ex
  have c1 := h.c1
  have f1 := h.f1
  have sv := CellsV.sl e2
  have lv : slen v = l.length := by have := CellsV.len e2; simpa using this
  have hll := h.len
  have hd : decide (((l.length : Nat) : Int) ≤ (a : Nat)) = false := decide_eq_false (by omega)
  have hd2 : decide ((n : Int) < 2) = false := decide_eq_false (by omega)
  have HT := Lib.hid h
  go_enter Try.func29, Try.ntmps29
  go_wp2
  go_quiet (fail)
  have hT1 := HT.out.drawn nq
  obtain ⟨v2, e11, e12⟩ := hT1.ex
  have c2 := hT1.c1
  have f2 := hT1.f1
  clear hd hd2 c1 f1
  go_wp2
  have hT2 : TapeAt ((w.drewN nq).setCell ⟨b, 1, none⟩ (.int .i64 ((a : Int) + 1))) b l (a + 1) := by
    have := hT1.tick (a + 1) (by omega)
    rwa [show (((a + 1 : Nat)) : Int) = (a : Int) + 1 from by omega] at this
  obtain ⟨v3, e13, e14⟩ := hT2.ex
  have c3 := hT2.c1
  have s3 := CellsV.sl e14
  have l3 : slen v3 = l.length := by have := CellsV.len e14; simpa using this
  have hx := e14.cell a (by simpa using h1)
  rw [List.getElem_map] at hx
  have hxb := h.byte l[a] (List.getElem_mem h1)
  have HTK : Hid (∀ k, Ticks b w (((w.drewN nq).setCell ⟨b, 1, none⟩ (.int .i64 ((a : Int) + 1))).drewN k)) := Lib.hid (fun k => Or.inr ⟨_, _, _, rfl⟩)
  generalize l[a]'h1 = x at *
  generalize (w.drewN nq).setCell ⟨b, 1, none⟩ (.int .i64 ((a : Int) + 1)) = W2 at *
  have i1 : IntKind.i64.wrap ((((a + 1 : Nat)) : Int) - 1) = (a : Int) := by rw [IntWalk.i64_in _ (by omega)]; omega
  have i2 : (0 : Int) ≤ (a : Int) := by omega
  have i3 : (a : Int) < (l.length : Nat) := by omega
  have i4 : Int.tmod (x : Int) (n : Int) = ((x % n : Nat) : Int) := by rw [Int.tmod_eq_emod_of_nonneg (by omega)]; omega
  go_quiet (fail)
  go_wp2
  go_ret
  exact ⟨x % n, a + 1, by first | rfl | (congr 2), Nat.mod_lt _ (by omega), hT2.drawn _, HTK.out _⟩
/-- Next gives a number below n. -/
theorem next_any (b : Nat) (l : List Nat) (a n : Nat) (w : World) (h : TapeAt w b l a) (hn : 1 ≤ n) (hn2 : n ≤ 65536) :
    Calls Try.prog 29 #[.pointer (some ⟨b, 0, none⟩), .int .i64 n] w (RNext w b l n) := by
  rcases Nat.lt_or_ge a l.length with h1 | h1
  · rcases Nat.lt_or_ge n 2 with h2 | h2
    · exact next_zero b l a n w h hn hn2 (Or.inr h2)
    · exact next_more b l a n w h hn2 h1 h2
  · exact next_zero b l a n w h hn hn2 (Or.inl h1)
theorem Ticks.cell {b : Nat} {w w' : World} (h : Ticks b w w') {a0 : Int} (hc : w.cell? ⟨b, 1, none⟩ = some (.int .i64 a0)) {p : Addr} {x : Value} (hp : w.cell? p = some x) (hx : ∀ z, x ≠ .int .i64 z) : w'.cell? p = some x := by
  rcases h with ⟨k, rfl⟩ | ⟨k, k', a, rfl⟩
  · exact cell_below (below_drewN w k) hp
  · refine cell_below (below_drewN _ k') ?_
    exact cell_tick (cell_below (below_drewN w k) hc) (cell_below (below_drewN w k) hp) hx _
theorem Ticks.size {b : Nat} {w w' : World} (h : Ticks b w w') : w.heap.size ≤ w'.heap.size := by
  rcases h with ⟨k, rfl⟩ | ⟨k, k', a, rfl⟩
  · exact (below_drewN (B := w.heap.size) w k).size
  · have h1 := (below_drewN (B := w.heap.size) w k).size
    have h2 := (below_drewN (B := w.heap.size) ((w.drewN k).setCell ⟨b, 1, none⟩ (.int .i64 a)) k').size
    have h3 : ((w.drewN k).setCell ⟨b, 1, none⟩ (.int .i64 a)).heap.size = (w.drewN k).heap.size := by simp [World.setCell]
    omega
theorem Ticks.below {b B : Nat} {w w' : World} (h : Ticks b w w') (hB : B ≤ b) (hs : B ≤ w.heap.size) : Below B w w' := by
  rcases h with ⟨k, rfl⟩ | ⟨k, k', a, rfl⟩
  · exact below_drewN w k
  · exact ((below_drewN w k).setCell (p := ⟨b, 1, none⟩) hB _).trans (below_drewN _ k')
theorem NatV.tick {b : Nat} {w w' : World} {l0 : List Nat} {a : Nat} (ht : TapeAt w b l0 a) (h : Ticks b w w') {v : Value} {l : List Nat} (hv : NatV w v l) : NatV w' v l :=
  ⟨hv.sl, hv.len, fun j hj => h.cell ht.c1 (hv.cell j hj) (fun z => by simp), hv.lm⟩
theorem NatC.tick {b : Nat} {w w' : World} {l0 : List Nat} {a : Nat} (ht : TapeAt w b l0 a) (h : Ticks b w w') {v : Value} {n : Nat} (hv : NatC w v n) : NatC w' v n := ⟨hv.v.tick ht h, hv.2⟩
theorem FracC.tick {b : Nat} {w w' : World} {l0 : List Nat} {a : Nat} (ht : TapeAt w b l0 a) (h : Ticks b w w') {v : Value} {q : Rat} (hv : FracC w v q) : FracC w' v q := by
  obtain ⟨x, y, rfl, h1, h2⟩ := hv; exact ⟨x, y, rfl, h1.tick ht h, h2.tick ht h⟩
theorem FracsC.tick {b : Nat} {w w' : World} {l0 : List Nat} {a : Nat} (ht : TapeAt w b l0 a) (h : Ticks b w w') {v : Value} {l : List Rat} (hv : FracsC w v l) : FracsC w' v l :=
  ⟨hv.sl, hv.len, fun j hj => by
    obtain ⟨x, y, h1, h2, h3, h4, h5⟩ := hv.at' j hj
    obtain ⟨a1, n1, c1, rfl, _⟩ := h4.v.sl
    obtain ⟨a2, n2, c2, rfl, _⟩ := h5.v.sl
    exact ⟨_, _, h.cell ht.c1 h1 (fun z => by simp), h.cell ht.c1 h2 (fun z => by simp), h.cell ht.c1 h3 (fun z => by simp), h4.tick ht h, h5.tick ht h⟩⟩
end Go.Proofs.Ytoldfpkafcefnaa
