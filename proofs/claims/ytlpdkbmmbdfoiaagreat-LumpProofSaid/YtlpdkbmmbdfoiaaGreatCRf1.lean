/-
  package drydockref22: Partition, count.
  Ahead of it: package lump: count, alike.
-/
import Derived.Test.YtlpdkbmmbdfoiaaGreatCRa2
import Derived.Test.YtlpdkbmmbdfoiaaGreatCOwR
import Derived.Test.YtlpdkbmmbdfoiaaGreatCGn
import Derived.Test.YtlpdkbmmbdfoiaaGreatCRw3
namespace Go.Proofs.YtlpdkbmmbdfoiaaGreat
set_option linter.unusedVariables false
set_option linter.unusedSimpArgs false
open Go.RowKit

/-- count. -/
def RCount (w0 : World) (l : List Int) (e : Ending) (w : World) : Prop :=
  ∃ n b, e = .returned (.tuple #[.int .i64 (n : Nat), .bool b]) ∧ w0 = w ∧ (okB l → n = cnt l ∧ b = decide (0 < l.length)) ∧ (¬ okB l → b = false ∧ n = 0)
set_option maxHeartbeats 800000 in
theorem count_any (va : Value) (l : List Int) (w : World) (ha : IntsV w va l) :
    Calls Tryz.prog 65 #[va] w (RCount w l) := by
  have sa := CellsV.sl ha
  have la := ha.len
  have hle := sa.le
  rw [la] at hle
  have hlb : l.length ≤ 9223372036854775807 := by omega
  clear hle
  go_enter Tryz.func65, Tryz.ntmps65
  go_wp2_with fail
  go_loop [4, 9] (fun u4 u9 => ∃ (k : Nat), k ≤ l.length ∧ u9 = .int .i64 k ∧ u4 = .int .i64 (cnt (l.take k) : Nat) ∧ (∀ j b, j < k → l[j]? = some b → 0 ≤ b ∧ b ≤ (cnt (l.take j) : Int))) (fun _ u9 => l.length - (intOf u9).toNat)
  case atStart => exact ⟨0, Nat.zero_le _, rfl, rfl, fun j b h => by omega⟩
  case round =>
    obtain ⟨k, hk, rfl, rfl, hst⟩ := hrel
    have HST := Lib.hid hst
    clear hst
    have hck := cnt_le l k
    by_cases hkl : k < l.length
    · have hc := ha.at' k hkl
      have HG : Hid (l[k]? = some (l[k]'hkl)) := Lib.hid (List.getElem?_eq_getElem hkl)
      have HCT := Lib.hid (cnt_take l k hkl)
      generalize l[k]'hkl = b at *
      generalize hcn : cnt (l.take k) = n at *
      have HCN := Lib.hid hcn
      clear hcn
      by_cases hbad : b < 0 ∨ (n : Int) < b
      · have HB : Hid (¬ okB l) := Lib.hid (fun h => by have h6 := h k b HG.out; rw [HCN.out] at h6; omega)
        rcases hbad with h | h
        · go_wp2_with fail
          go_ret2
          exact ⟨0, false, rfl, rfl, fun h => absurd h HB.out, fun _ => ⟨rfl, rfl⟩⟩
        · by_cases h0 : b < 0
          · omega
          · go_wp2_with fail
            go_ret2
            exact ⟨0, false, rfl, rfl, fun h => absurd h HB.out, fun _ => ⟨rfl, rfl⟩⟩
      · have h1 : ¬ b < 0 := fun h => hbad (Or.inl h)
        have h2 : ¬ (n : Int) < b := fun h => hbad (Or.inr h)
        have HST2 : Hid (∀ j b', j < k + 1 → l[j]? = some b' → 0 ≤ b' ∧ b' ≤ (cnt (l.take j) : Int)) := Lib.hid (fun j b' hj hb' => by
          rcases Nat.lt_or_ge j k with h6 | h6
          · exact HST.out j b' h6 hb'
          · obtain rfl : j = k := by omega
            rw [HG.out] at hb'
            injection hb' with hb'
            subst hb'
            rw [HCN.out]; omega)
        clear hbad
        by_cases hbn : b = (n : Int)
        · have hbb : (b == (n : Int)) = true := by simp [hbn]
          have HE := Lib.hid hbn
          clear hbn
          go_wp2_with fail
          go_round
          case rel => exact ⟨k + 1, hkl, by go_num, by rw [HCT.out, if_pos HE.out]; go_num, HST2.out⟩
          case measure => simp [intOf]; omega
        · have hbb : (b == (n : Int)) = false := by simpa using hbn
          have HE := Lib.hid hbn
          clear hbn
          go_wp2_with fail
          go_round
          case rel => exact ⟨k + 1, hkl, by go_num, by rw [HCT.out, if_neg HE.out], HST2.out⟩
          case measure => simp [intOf]; omega
    · obtain rfl : k = l.length := by omega
      have HOK : Hid (okB l) := Lib.hid (fun k b h => HST.out k b (List.getElem?_eq_some_iff.1 h).1 h)
      rw [List.take_length] at *
      go_wp2_with fail
      go_ret2
      refine ⟨cnt l, decide (0 < l.length), ?_, rfl, fun _ => ⟨rfl, rfl⟩, fun h => absurd HOK.out h⟩
      congr 3

set_option maxRecDepth 100000 in
set_option maxHeartbeats 1600000 in
theorem alike_any (va vb : Value) (p q : List Rat) (own : Int) (w : World) (ha : FracsC w va p) (hb : FracsC w vb q) (hl : p.length = q.length) (hp : ∀ x ∈ p, fits x) (hq : ∀ x ∈ q, fits x) :
    Calls Tryz.prog 141 #[va, vb, .int .i64 own] w fun e w' => (∃ b, e = .returned (.bool b) ∧ (b = true ↔ ∀ (i : Nat) (x y : Rat), (i : Int) ≠ own → p[i]? = some x → q[i]? = some y → x = y)) ∧ Below w.heap.size w w' := by
  have sa := ha.sl
  have la := ha.len
  have sb := hb.sl
  have lb := hb.len
  have hle := sa.le
  rw [la] at hle
  rw [← hl] at lb
  have hlb : p.length ≤ 9223372036854775807 := by omega
  have HP := Lib.hid hp
  have HQ := Lib.hid hq
  have HL := Lib.hid hl
  clear hle hp hq hl
  go_enter Tryz.func141, Tryz.ntmps141
  go_wp2_with fail
  go_loopw [12] (fun u12 wr => ∃ (k : Nat), k ≤ p.length ∧ u12 = .int .i64 k ∧ (∀ (i : Nat) (x y : Rat), i < k → (i : Int) ≠ own → p[i]? = some x → q[i]? = some y → x = y) ∧ Below w.heap.size w wr) (fun u12 _ => p.length - (intOf u12).toNat)
  case atStart => exact ⟨0, Nat.zero_le _, rfl, fun i x y h => by omega, Below.refl _ _⟩
  case round =>
    obtain ⟨k, hk, rfl, hst, hbr⟩ := hrel
    have HST := Lib.hid hst
    clear hst
    by_cases hkl : k < p.length
    · have hkq : k < q.length := by rw [← HL.out]; exact hkl
      have hdr := below_drew (B := wr.heap.size) wr
      have hbd := below_then hbr hdr
      obtain ⟨a1, a2, c1, c2, c3, n1, n2⟩ := (ha.below hbd).at' k hkl
      obtain ⟨b1, b2, d1, d2, d3, m1, m2⟩ := (hb.below hbd).at' k hkq
      have HX : Hid (p[k]? = some (p[k]'hkl)) := Lib.hid (List.getElem?_eq_getElem hkl)
      have HY : Hid (q[k]? = some (q[k]'hkq)) := Lib.hid (List.getElem?_eq_getElem hkq)
      have F1 := Lib.hid (HP.out _ (List.getElem_mem hkl))
      have F2 := Lib.hid (HQ.out _ (List.getElem_mem hkq))
      generalize p[k]'hkl = x at *
      generalize q[k]'hkq = y at *
      have hX : FracC wr.drew (.agg #[.bool (decide (x < 0)), a1, a2]) x := ⟨_, _, rfl, n1, n2⟩
      have hY : FracC wr.drew (.agg #[.bool (decide (y < 0)), b1, b2]) y := ⟨_, _, rfl, m1, m2⟩
      clear n1 n2 m1 m2 hkq
      have i1 : (0 : Int) ≤ (k : Int) := by omega
      have i2 : ((k : Int)) < (p.length : Nat) := by omega
      go_wp2_with fail
      go_region_held3 (fun w' => w'.cell? (ptr va (k * 3)) = some (.bool (decide (x < 0))) ∧ w'.cell? (ptr va (k * 3 + 1)) = some a1 ∧ w'.cell? (ptr va (k * 3 + 2)) = some a2 ∧ w'.cell? (ptr vb (k * 3)) = some (.bool (decide (y < 0))) ∧ w'.cell? (ptr vb (k * 3 + 1)) = some b1 ∧ w'.cell? (ptr vb (k * 3 + 2)) = some b2) (exact ⟨c1, c2, c3, d1, d2, d3⟩) (first
        | (go_at_call 130; (with_reducible refine (cmp_can _ _ x y _ hX hY F1.out F2.out).mono ?_); rintro e9 w9 ⟨rfl, hb9⟩
           have c1 := cell_below hb9 c1
           have c2 := cell_below hb9 c2
           have c3 := cell_below hb9 c3
           have d1 := cell_below hb9 d1
           have d2 := cell_below hb9 d2
           have d3 := cell_below hb9 d3))
      have HC := Lib.hid (cmpR_self_iff x y)
      have hbr2 := below_then hbd hb9
      generalize cmpR x y = c at *
      clear c1 c2 c3 d1 d2 d3 hX hY
      have HNX : Hid (((k : Int) = own ∨ x = y) → ∀ (i : Nat) (x y : Rat), i < k + 1 → (i : Int) ≠ own → p[i]? = some x → q[i]? = some y → x = y) := Lib.hid (fun h i x' y' hi ho hx hy => by
        rcases Nat.lt_or_ge i k with h6 | h6
        · exact HST.out i x' y' h6 ho hx hy
        · obtain rfl : i = k := by omega
          rw [HX.out] at hx
          rw [HY.out] at hy
          injection hx with hx
          injection hy with hy
          subst hx hy
          exact h.resolve_left ho)
      by_cases ho : (k : Int) = own
      · have hob : ((k : Int) != own) = false := by simp [ho]
        have HR := Lib.hid (HNX.out (Or.inl ho))
        clear ho
        go_wp2
        go_roundw
        case rel => exact ⟨k + 1, hkl, by go_num, HR.out, hbr2⟩
        case measure => simp [intOf]; omega
      · have hob : ((k : Int) != own) = true := by simpa using ho
        by_cases hc : c = 0
        · have hcb : (c != 0) = false := by simp [hc]
          have HR := Lib.hid (HNX.out (Or.inr (HC.out.1 hc)))
          clear hc ho
          go_wp2
          go_roundw
          case rel => exact ⟨k + 1, hkl, by go_num, HR.out, hbr2⟩
          case measure => simp [intOf]; omega
        · have hcb : (c != 0) = true := by simpa using hc
          have HN : Hid (¬ ∀ (i : Nat) (x y : Rat), (i : Int) ≠ own → p[i]? = some x → q[i]? = some y → x = y) := Lib.hid (fun h => hc (HC.out.2 (h k x y ho HX.out HY.out)))
          clear hc ho
          go_wp2
          go_ret
          exact ⟨⟨false, rfl, fun h => (by cases h), fun h => absurd h HN.out⟩, hbr2⟩
    · obtain rfl : k = p.length := by omega
      go_wp2_with fail
      go_ret
      exact ⟨⟨true, rfl, fun _ i x y h1 h2 h3 => HST.out i x y (List.getElem?_eq_some_iff.1 h2).1 h1 h2 h3, fun _ => rfl⟩, hbr⟩
end Go.Proofs.YtlpdkbmmbdfoiaaGreat
namespace Go.Proofs.YtlpdkbmmbdfoiaaGreat
set_option linter.unusedVariables false
set_option linter.unusedSimpArgs false
open Go.RowKit

end Go.Proofs.YtlpdkbmmbdfoiaaGreat
