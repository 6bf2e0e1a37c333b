/-
  Small lemmas that chain and phase share: make of one-cell elements, marks, small integers.
-/
import Derived.Test.YtlpdkbmmbdfoiaaGreatFTk
import Derived.Test.YtlpdkbmmbdfoiaaGreatFTa4
import Derived.Test.YtlpdkbmmbdfoiaaGreatFNa1
import Derived.Test.YtlpdkbmmbdfoiaaGreatFOwR
set_option linter.unusedVariables false
set_option linter.unusedSimpArgs false
namespace Go.Proofs.YtlpdkbmmbdfoiaaGreat
open Go.RowKit
def zvg (q : Rat) : Prop := 0 ≤ q ∧ zua q.num.natAbs ≤ 32 ∧ zua q.den ≤ 32
theorem zvg.fits {q : Rat} (h : zvg q) : fits q := ⟨Nat.le_trans h.2.1 (by decide), Nat.le_trans h.2.2 (by decide)⟩
theorem reduce_can (va : Value) (q : Rat) (w : World) (ha : zqa w va q) (hf : fits q) : Calls Tryz.prog 89 #[va] w (RF0 w q) := by
 refine (zef va _ _ _ w ha.raw).mono ?_
 rintro e w' ⟨v, er, rfl, hb, h1, _⟩
 obtain ⟨rfl, h2⟩ := h1 (zuc hf)
 rw [zvb] at h2
 exact ⟨v, rfl, h2, hb⟩
set_option maxHeartbeats 1600000 in
theorem finlim_ok (va : Value) (q : Rat) (w : World) (ha : zqa w va q) (hl : zvg q) : Calls Tryz.prog 135 #[va] w (fun e w' => e = .returned (.bool true) ∧ Below w.heap.size w w') := by
 obtain ⟨t1, x1, y1, rfl, ⟨a11, l11, k11, rfl, _⟩, ⟨a12, l12, k12, rfl, _⟩⟩ := ha.isF
 have hba := zca w (.cells #[.bool t1, .slice a11 l11 k11, .slice a12 l12 k12] 38)
 have HC := zH (C3.new w 38 (.bool t1) (.slice a11 l11 k11) (.slice a12 l12 k12))
 have HA := zH (ha.below hba)
 have HB := zH hba
 have HF := zH hl.fits
 have HN : Hid (decide (q < 0) = false) := zH (decide_eq_false (Rat.not_lt.2 hl.1))
 have hn1 : decide (((zua q.num.natAbs : Nat) : Int) ≤ 32) = true := decide_eq_true (by have := hl.2.1; omega)
 have hn2 : decide (((zua q.den : Nat) : Int) ≤ 32) = true := decide_eq_true (by have := hl.2.2; omega)
 obtain ⟨_, c0, c1, c2, _, _, _⟩ := HC.out
 clear ha hba hl
 go_enter Tryz.func135, Tryz.ntmps135
 go_upto_region 2 with (first
  |(go_at_call 89; (with_reducible refine (reduce_can _ q _ HA.out HF.out).mono ?_); rintro e3 w3 ⟨v3, rfl, hv3, hb3⟩
    obtain ⟨x3, y3, rfl, n1, n2⟩ := id hv3
    rw [HN.out] at hv3 ⊢
    obtain ⟨a31, l31, k31, rfl, _⟩ := id n1.v.sl
    obtain ⟨a32, l32, k32, rfl, _⟩ := id n2.v.sl
    have hba := zca w3 (.cells #[.bool false, .slice a31 l31 k31, .slice a32 l32 k32] 38)
    have HC3 := zH (C3.new w3 38 (.bool false) (.slice a31 l31 k31) (.slice a32 l32 k32))
    have HN1 := zH (n1.below hba).nat
    have HN2 := zH (n2.below hba).nat
    have HB3 := zH (zaa HB.out (zaa hb3 hba))
    clear c0 c1 c2 hv3 hb3 hba n1 n2))
 obtain ⟨b3, hb3⟩ : ∃ b, w3.heap.size = b := ⟨_, rfl⟩
 rw [hb3] at HC3 ⊢
 clear hb3
 generalize w3.alloc (.cells #[.bool false, .slice a31 l31 k31, .slice a32 l32 k32] 38) = W3 at *
 obtain ⟨_, c0, c1, c2, _, _, _⟩ := HC3.out
 go_wp2_with (first
  |(go_at_call 156; (with_reducible refine (zva _ q.num.natAbs _ HN1.out).mono ?_); rintro e4 w4 ⟨rfl, rfl⟩)
  |(go_at_call 156; (with_reducible refine (zva _ q.den _ HN2.out).mono ?_); rintro e5 w5 ⟨rfl, rfl⟩))
 go_ret
 exact ⟨rfl, HB3.out⟩
set_option maxHeartbeats 1600000 in
theorem ztf (va : Value) (q : Rat) (w : World) (ha : zqa w va q) : Calls Tryz.prog 136 #[va] w (fun e w' => e = .returned (.bool (decide (0 < zua q.num.natAbs))) ∧ Below w.heap.size w w') := by
 obtain ⟨x1, y1, rfl, n1, n2⟩ := id ha
 obtain ⟨a11, l11, k11, rfl, _⟩ := id n1.v.sl
 obtain ⟨a12, l12, k12, rfl, _⟩ := id n2.v.sl
 have hba := zca w (.cells #[.bool (decide (q < 0)), .slice a11 l11 k11, .slice a12 l12 k12] 38)
 have HN1 := zH (n1.below hba).nat
 have HB := zH hba
 obtain ⟨_, c0, c1, c2, _, _, _⟩ := C3.new w 38 (.bool (decide (q < 0))) (.slice a11 l11 k11) (.slice a12 l12 k12)
 clear ha hba n1 n2
 go_enter Tryz.func136, Tryz.ntmps136
 go_wp2_with (first
  |(go_at_call 156; (with_reducible refine (zva _ q.num.natAbs _ HN1.out).mono ?_); rintro e4 w4 ⟨rfl, rfl⟩))
 go_ret
 exact ⟨rfl, HB.out⟩
set_option maxRecDepth 100000 in
set_option maxHeartbeats 1600000 in
theorem fall_ok (va : Value) (l : List Rat) (w : World) (ha : zbb w va l) (hl : ∀ q ∈ l, zvg q) (hn : l.length ≤ 1000) :
 Calls Tryz.prog 134 #[va, .func (.func 135) #[] #[]] w (fun e w' => e = .returned (.bool true) ∧ Below w.heap.size w w') := by
 obtain ⟨xa, xn, xk, rfl, _⟩ := id ha.sl
 have sx := ha.sl
 have hxn : xn = l.length := ha.len
 obtain ⟨n, hnn⟩ : ∃ n, l.length = n := ⟨_, rfl⟩
 rw [hnn] at hxn hn
 subst hxn
 have HN := zH hnn
 have HA := zH ha
 have HL := zH hl
 clear hnn ha hl
 go_enter Tryz.func134, Tryz.ntmps134
 go_wp2_with fail
 go_loopg [9] (xn) (fun g u9 wr => ∃ (k : Nat), k ≤ xn ∧ g = xn - k ∧ u9 = .int .i64 k ∧ Below w.heap.size w wr)
 case atStart => exact ⟨0, Nat.zero_le _, rfl, rfl, Below.refl _ _⟩
 case round =>
  obtain ⟨k, hk, hg, rfl, hbr⟩ := hrel
  obtain ⟨wb, hwb⟩ : ∃ wb, wb = wr := ⟨_, rfl⟩
  subst hwb
  have HG := zH hg
  have HBR := zH hbr
  clear hg hbr
  by_cases hkl : k < xn
  ·have hk2 : k < l.length := by rw [HN.out]; exact hkl
   obtain ⟨ts, as1, ls1, ks1, as2, ls2, ks2, g1, g2, g3, hfs⟩ := (HA.out.below HBR.out).cellsAt (k := k) hk2
   have hlq : zvg (l.getD k 0) := by
    rw [List.getD_eq_getElem?_getD, List.getElem?_eq_getElem hk2]
    exact HL.out _ (List.getElem_mem hk2)
   have hba := zca wb (.cells #[.bool ts, .slice as1 ls1 ks1, .slice as2 ls2 ks2] 38)
   have HFS := zH (hfs.below hba)
   have HLQ := zH hlq
   have HB2 := zH (zaa HBR.out hba)
   obtain ⟨_, c0, c1, c2, _, _, _⟩ := C3.new wb 38 (.bool ts) (.slice as1 ls1 ks1) (.slice as2 ls2 ks2)
   have i1 : (0 : Int) ≤ (k : Int) := by omega
   have i2 : (k : Int) < (xn : Nat) := by omega
   clear hfs hlq hba
   go_wp2_with (first
    |(go_at_call 135; (with_reducible refine (finlim_ok _ _ _ HFS.out HLQ.out).mono ?_); rintro e4 w4 ⟨rfl, hb4⟩
      have HB4 := zH (zaa HB2.out hb4)
      clear hb4))
   go_roundg (xn - (k + 1))
   case measure => (have := HG.out; omega)
   case rel => exact ⟨k + 1, by omega, rfl, by go_num, HB4.out⟩
  ·obtain rfl : k = xn := by omega
   go_wp2_with fail
   go_ret
   exact ⟨rfl, HBR.out⟩
structure C4 (w : World) (b : Nat) (v0 v1 v2 v3 : Value) : Prop where
 lt : b < w.heap.size
 c0 : w.cell? ⟨b, 0, none⟩ = some v0
 c1 : w.cell? ⟨b, 1, none⟩ = some v1
 c2 : w.cell? ⟨b, 2, none⟩ = some v2
 c3 : w.cell? ⟨b, 3, none⟩ = some v3
 f0 : w.frozen? ⟨b, 0, none⟩ = false
 f1 : w.frozen? ⟨b, 1, none⟩ = false
 f2 : w.frozen? ⟨b, 2, none⟩ = false
 f3 : w.frozen? ⟨b, 3, none⟩ = false
theorem C4.of {w : World} {b : Nat} {v0 v1 v2 v3 : Value} {t : TypeId} (h : w.heap[b]? = some (.cells #[v0, v1, v2, v3] t (0, 0))) : C4 w b v0 v1 v2 v3 := by
 refine ⟨lt_of_block h, ?_, ?_, ?_, ?_, ?_, ?_, ?_, ?_⟩ <;> simp [World.cell?, World.frozen?, h]
theorem C4.new (w : World) (t : TypeId) (v0 v1 v2 v3 : Value) : C4 (w.alloc (.cells #[v0, v1, v2, v3] t)) w.heap.size v0 v1 v2 v3 :=
 C4.of (t := t) (by show (w.heap.push _)[w.heap.size]? = _; simp)
theorem C4.below {w w' : World} {B b : Nat} {v0 v1 v2 v3 : Value} (h : C4 w b v0 v1 v2 v3) (hb : Below B w w') (hB : b < B) : C4 w' b v0 v1 v2 v3 :=
 ⟨Nat.lt_of_lt_of_le h.lt hb.size, by rw [hb.cell hB]; exact h.c0, by rw [hb.cell hB]; exact h.c1, by rw [hb.cell hB]; exact h.c2, by rw [hb.cell hB]; exact h.c3, by rw [hb.frozen hB]; exact h.f0, by rw [hb.frozen hB]; exact h.f1, by rw [hb.frozen hB]; exact h.f2, by rw [hb.frozen hB]; exact h.f3⟩
theorem C4.belowS {w w' : World} {b : Nat} {v0 v1 v2 v3 : Value} (h : C4 w b v0 v1 v2 v3) (hb : Below w.heap.size w w') : C4 w' b v0 v1 v2 v3 := h.below hb h.lt
structure LQ where
 start : List Rat
 exit : List Rat
 rates : List (List Rat)
def zhm (w : World) (v : Value) (l : LQ) : Prop := ∃ nm s r e, v = .agg #[nm, s, r, e] ∧ zbb w s l.start ∧ MatC w r l.rates ∧ zbb w e l.exit
theorem zhm.below {w w' : World} {v : Value} {l : LQ} (h : zhm w v l) (hb : Below w.heap.size w w') : zhm w' v l := by
 obtain ⟨nm, s, r, e, rfl, h1, h2, h3⟩ := h
 exact ⟨nm, s, r, e, rfl, h1.below hb, h2.below hb, h3.below hb⟩
structure zxb (l : LQ) : Prop where
 n1 : 1 ≤ l.start.length
 n4 : l.start.length ≤ 4
 el : l.exit.length = l.start.length
 rl : l.rates.length = l.start.length
 st : ∀ q ∈ l.start, zvg q
 ex : ∀ q ∈ l.exit, zvg q
 row : ∀ (i : Nat) (h : i < l.rates.length), l.rates[i].length = l.start.length ∧ (∀ q ∈ l.rates[i], zvg q) ∧ l.rates[i].getD i 0 = 0
 sum : zgg l.start = 1
 ends : ∃ d : Nat → Nat, ∀ i, i < l.start.length → d i ≤ l.start.length ∧ (0 < l.exit.getD i 0 ∨ ∃ j, j < l.start.length ∧ 0 < (l.rates.getD i []).getD j 0 ∧ d j < d i)
theorem zvg.above {q : Rat} (h : zvg q) : decide (0 < zua q.num.natAbs) = decide (0 < q) := by
 rw [decide_eq_decide]
 constructor
 ·intro h1
  refine Classical.byContradiction fun h2 => ?_
  have h3 : q = 0 := Rat.le_antisymm (Rat.not_lt.1 h2) h.1
  rw [h3] at h1
  exact absurd h1 (by decide)
 ·intro h1
  refine Nat.pos_of_ne_zero fun h2 => ?_
  have h3 : q.num.natAbs < 2 ^ 0 := zwb.1 (Nat.le_of_eq h2)
  have h4 : q.num.natAbs = 0 := by simpa using h3
  have h5 : q = 0 := Rat.num_eq_zero.1 (Int.natAbs_eq_zero.1 h4)
  rw [h5] at h1
  exact absurd h1 (by decide)
@[go_sem] theorem slen_lit0 (a : Option Addr) (n c : Nat) : slen (.slice a n c) = n := rfl
@[go_sem] theorem int_beq_self0 (y : Int) : (y == y) = true := by simp
@[go_sem] theorem int_bne_self0 (y : Int) : (y != y) = false := by simp
theorem make_E2 {P : Program} (t e : TypeId) (i : TypeInfo) (z : Value) (by' : Nat) (h1 : P.underlying t = some (.slice e)) (h2 : P.info? e = some i) (h3 : i.zero = some z) (h4 : i.size = 1) (h5 : i.bytes = by') (hby : by' ≤ 32) (hz : z.cells = #[z])
 (w : World) {ops : Array Oper} {rest : List Oper} {o : Oper} {a : Act} {Q : Exit → Act → World → Prop} (hg : o.guard = none) (l c : Operand) (hop : o.op = Op.makeSlice t l c)
 (n : Nat) (hl : a.eval l = .int .i64 n) (hc : a.eval c = .int .i64 n) (hn : n ≤ 128)
 (hK : ∀ v w', zce w' e w.heap.size v (List.replicate n z) → Below w.heap.size w w' → wpList P ops Q rest (a.put o.dst v) w') :
 wpList P ops Q (o :: rest) a w :=
 zjh w hg l c t hop w.heap.size e i z h1 h2 h3 h4 hz n hl hc (by rw [h5]; exact Nat.le_trans (Nat.mul_le_mul hby hn) (by decide)) (by simp [maxLen]; omega) (Nat.le_refl _) (fun v w' h6 h7 _ => hK v w' h6 h7)
theorem zrn {l : List Bool} {k : Nat} (h : k < l.length) : l.getD k false = l[k] := by
 rw [List.getD_eq_getElem?_getD, List.getElem?_eq_getElem h]; rfl
theorem zge {x : Int} (h1 : 0 ≤ x) (h2 : x ≤ 1900) : IntKind.i64.wrap x = x := by
 unfold IntKind.wrap
 simp [IntKind.signed, IntKind.bits]
 omega
end Go.Proofs.YtlpdkbmmbdfoiaaGreat
