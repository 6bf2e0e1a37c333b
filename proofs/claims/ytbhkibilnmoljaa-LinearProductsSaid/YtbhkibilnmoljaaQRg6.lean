/-
  package drydockref05: Mul.
  Ahead of it: package drydockref05, of raw fractions: vector, Shape, Weights, add, mul. package drydockref05: Shape, Identity. package drydockref05: Identity. package drydockref05: Dot. package drydockref05: Apply.
-/
import Derived.Test.YtbhkibilnmoljaaQLp4
import Derived.Test.YtbhkibilnmoljaaQRb9
import Derived.Test.YtbhkibilnmoljaaQLx1
import Derived.Test.YtbhkibilnmoljaaQLi2
namespace Go.Proofs.Ytbhkibilnmoljaa
set_option linter.unusedVariables false
set_option linter.unusedSimpArgs false
open Go.RowKit

set_option maxRecDepth 100000 in
set_option maxHeartbeats 3200000 in
theorem rvector_any (va : Value) (l : List RF) (n : Nat) (w : World) (ha : FracsN w va l) :
    Calls Try.prog 57 #[va, .int .i64 n] w fun e w' => e = .returned (.bool (decide (vecP l n))) ∧ Below w.heap.size w w' := by
  have sa := ha.sl
  have la := ha.len
  have hle := sa.le
  rw [la] at hle
  have hlb : l.length ≤ 9223372036854775807 := by omega
  clear hle
  by_cases hln : l.length = n
  · subst hln
    go_enter Try.func57, Try.ntmps57
    go_wp2_with fail
    go_loopw [5] (fun u5 wr => ∃ (k : Nat), k ≤ l.length ∧ u5 = .int .i64 k ∧ (∀ x ∈ l.take k, x.ok) ∧ Below w.heap.size w wr) (fun u5 _ => l.length - (intOf u5).toNat)
    case atStart => exact ⟨0, Nat.zero_le _, rfl, fun x h => by simp at h, Below.refl _ _⟩
    case round =>
      obtain ⟨k, hk, rfl, hok, hb⟩ := hrel
      have HOK := Lib.hid hok
      clear hok
      by_cases hkl : k < l.length
      · obtain ⟨xa, xb, c1, c2, c3, hxa, hxb⟩ := (ha.below hb).at' k hkl
        obtain ⟨c1a, c1l, c1k, rfl, _⟩ := hxa.slen.1
        obtain ⟨c2a, c2l, c2k, rfl, _⟩ := hxb.slen.1
        obtain ⟨x, hx⟩ : ∃ x, l[k]'hkl = x := ⟨_, rfl⟩
        rw [hx] at c1 hxa hxb
        have HMEM : Hid (x ∈ l) := Lib.hid (by rw [← hx]; exact List.getElem_mem hkl)
        have HTK : Hid (l.take (k + 1) = l.take k ++ [x]) := Lib.hid (by rw [take_snoc l k hkl, hx])
        have hA : FracN wr (.agg #[.bool x.neg, .slice c1a c1l c1k, .slice c2a c2l c2k]) x.neg x.n x.d := ⟨_, _, rfl, hxa, hxb⟩
        clear hxa hxb hx
        by_cases hko : x.ok
        · have HX : Hid (okN x.n x.d) := Lib.hid hko
          clear hko
          go_wp2_with (go_at_call 37; (with_reducible refine (r2valid_ok _ x.neg x.n x.d _ hA HX.out).mono ?_); rintro e w7 ⟨rfl, hb7⟩)
          go_roundw
          case rel => exact ⟨k + 1, hkl, by go_num, fun y hy => by
            rw [HTK.out] at hy
            rcases List.mem_append.1 hy with h | h
            · exact HOK.out y h
            · have : y = x := by simpa using h
              rw [this]; exact HX.out, below_then hb hb7⟩
          case measure => simp [intOf]; omega
        · have HX : Hid (¬ okN x.n x.d) := Lib.hid hko
          have HBAD : Hid (¬ vecP l l.length) := Lib.hid (fun h => hko (h.1 x HMEM.out))
          clear hko
          go_wp2_with (go_at_call 37; (with_reducible refine (r2valid_no _ x.neg x.n x.d _ hA HX.out).mono ?_); rintro e w7 ⟨rfl, hb7⟩)
          go_ret
          exact ⟨by rw [decide_eq_false HBAD.out]; rfl, below_then hb hb7⟩
      · obtain rfl : k = l.length := by omega
        have HD : Hid (vecP l l.length) := Lib.hid (by
          have h := HOK.out
          rw [List.take_length] at h
          exact ⟨h, rfl⟩)
        go_wp2_with fail
        go_ret
        exact ⟨by rw [decide_eq_true HD.out]; rfl, hb⟩
  · have HBAD : Hid (¬ vecP l n) := Lib.hid (fun h => hln h.2)
    have hne : ((l.length : Int) != (n : Int)) = true := by simp; omega
    clear hln
    go_enter Try.func57, Try.ntmps57
    go_wp2_with fail
    go_ret
    exact ⟨by rw [decide_eq_false HBAD.out]; rfl, Below.refl _ _⟩
set_option maxRecDepth 100000 in
set_option maxHeartbeats 3200000 in
theorem rweights_any (va : Value) (m : List (List RF)) (w : World) (ha : MatN w va m) (hs : shapeP m) :
    Calls Try.prog 54 #[va] w fun e w' => e = .returned (.int .i64 (wtsM m : Nat)) ∧ Below w.heap.size w w' := by
  have sa := ha.sl
  have la := ha.len
  have hml : m.length ≤ 24 := hs.2.1
  have HOK : Hid (∀ l ∈ m, ∀ x ∈ l, x.ok) := Lib.hid fun l hl => (hs.2.2.2.2 l hl).1
  have HL : Hid (∀ l ∈ m, l.length ≤ 65536) := Lib.hid fun l hl => by rw [(hs.2.2.2.2 l hl).2]; have := hs.2.2.2.1; omega
  clear hs
  go_enter Try.func54, Try.ntmps54
  go_wp2_with fail
  go_loopw [3, 4] (fun u3 u4 wr => ∃ (k : Nat), k ≤ m.length ∧ u4 = .int .i64 k ∧ u3 = .int .i64 (wtsM (m.take k) : Nat) ∧ Below w.heap.size w wr) (fun _ u4 _ => m.length - (intOf u4).toNat)
  case atStart => exact ⟨0, Nat.zero_le _, rfl, rfl, Below.refl _ _⟩
  case round =>
    obtain ⟨k, hk, rfl, rfl, hb⟩ := hrel
    by_cases hkm : k < m.length
    · obtain ⟨rv, hrc, hrv⟩ := (ha.below hb).at' k hkm
      have hW : wtsM (m.take k) ≤ 536870912 * 24 := by
        have h1 := wtsM_le (m.take k) (fun l h => HOK.out l (List.mem_of_mem_take h)) (fun l h => HL.out l (List.mem_of_mem_take h))
        rw [List.length_take] at h1; omega
      have hlk := HL.out m[k] (List.getElem_mem hkm)
      have HOKL := Lib.hid (HOK.out m[k] (List.getElem_mem hkm))
      have hwl := wts_le m[k] HOKL.out
      have HTM := Lib.hid (wtsM_take m k hkm)
      generalize m[k]'hkm = l at *
      generalize wtsM (m.take k) = W0 at *
      obtain ⟨W1, hW1⟩ : ∃ W1, wts (qs l) = W1 := ⟨_, rfl⟩
      rw [hW1] at hwl
      have HW1 := Lib.hid hW1
      have hwl2 : W1 ≤ 8192 * 65536 := Nat.le_trans hwl (Nat.mul_le_mul_left _ hlk)
      have srv := hrv.sl
      clear hW1 hwl
      go_wp2_with (go_at_call 58; (with_reducible refine (rweight_any _ l _ hrv HOKL.out hlk).mono ?_); rw [HW1.out]; rintro e w7 ⟨rfl, hb7⟩)
      go_roundw
      case rel => exact ⟨k + 1, hkm, by go_num, by rw [HTM.out, HW1.out]; go_num, below_then hb hb7⟩
      case measure => simp [intOf]; omega
    · obtain rfl : k = m.length := by omega
      rw [List.take_length]
      go_wp2_with fail
      go_ret
      exact ⟨rfl, hb⟩
set_option maxRecDepth 100000 in
set_option maxHeartbeats 800000 in
theorem r5mul_raw (va vb : Value) (x y : RF) (w : World) (ha : FracN w va x.neg x.n x.d) (hb : FracN w vb y.neg y.n y.d) (hx : x.ok) (hy : y.ok) (hf : fits (x.q * y.q)) : Calls Try.prog 56 #[va, vb] w (RF1 w (x.q * y.q)) := by
  obtain ⟨a1, a2, rfl, n1, n2⟩ := id ha
  obtain ⟨b1, b2, rfl, m1, m2⟩ := id hb
  obtain ⟨x1, y1, z1, rfl, _⟩ := id n1.slen.1
  obtain ⟨x2, y2, z2, rfl, _⟩ := id n2.slen.1
  obtain ⟨x3, y3, z3, rfl, _⟩ := id m1.slen.1
  obtain ⟨x4, y4, z4, rfl, _⟩ := id m2.slen.1
  obtain ⟨s, hs⟩ : ∃ s, x.neg = s := ⟨_, rfl⟩
  obtain ⟨t, ht⟩ : ∃ t, y.neg = t := ⟨_, rfl⟩
  have HX : Hid (okN x.n x.d) := Lib.hid hx
  have HY : Hid (okN y.n y.d) := Lib.hid hy
  have HQ : Hid (x.q * y.q = fq s x.n x.d * fq t y.n y.d) := Lib.hid (by unfold RF.q; rw [hs, ht])
  have HF : Hid (fits (fq s x.n x.d * fq t y.n y.d)) := Lib.hid (by rw [← HQ.out]; exact hf)
  rw [hs] at ha ⊢
  rw [ht] at hb ⊢
  clear n1 n2 m1 m2 hx hy hf hs ht
  have k1 := below_alloc w (.cells #[.bool s, .slice x1 y1 z1, .slice x2 y2 z2] 30)
  have H3 := three_boxes w 30 (.bool s) (.slice x1 y1 z1) (.slice x2 y2 z2) (.bool t) (.slice x3 y3 z3) (.slice x4 y4 z4) (.bool false) (.slice none 0 0) (.slice none 0 0) _ rfl
  obtain ⟨hA, hB, hR, hbw⟩ := H3
  have HR := Lib.hid hR
  have HAP := Lib.hid (ha.below hbw)
  have HBQ := Lib.hid (hb.below hbw)
  obtain ⟨_, c0, c1, c2, _, _, _⟩ := id hA
  obtain ⟨_, d0, d1, d2, _, _, _⟩ := id hB
  clear hA hB hR ha hb
  go_enter Try.func56, Try.ntmps56
  go_wp2_with (go_at_call 13; (with_reducible refine (r2mul_raw _ _ s t x.n x.d y.n y.d _ HAP.out HBQ.out HX.out HY.out HF.out).mono ?_); rintro e6 w6 ⟨v6, rfl, hv6, hb6⟩
               obtain ⟨t9, x9, y9, rfl, ⟨a91, l91, k91, rfl, _⟩, ⟨a92, l92, k92, rfl, _⟩⟩ := hv6.isF
               have hv6 := hv6.below (below_alloc w6 (.cells #[.bool t9, .slice a91 l91 k91, .slice a92 l92 k92] 30))
               have HR6 := Lib.hid ((HR.out.belowS hb6).belowS (below_alloc w6 (.cells #[.bool t9, .slice a91 l91 k91, .slice a92 l92 k92] 30)))
               obtain ⟨_, g0, g1, g2, g3, g4, g5⟩ := HR6.out)
  rw [HQ.out]
  refine bodyPost_c1 rfl rfl Try.aggF Try.sizeF (HR6.out.set _ _ _) rfl ?_
  exact ⟨_, rfl, hv6.set3 HR6.out (fun z => by simp) (fun z => by simp) _ _ _, below_set3 (below_then (below_then hbw hb6) (below_alloc _ _)) (Nat.le_trans (Nat.le_succ _) (Nat.le_succ _)) _ _ _⟩
set_option maxRecDepth 100000 in
set_option maxHeartbeats 800000 in
theorem r5add_can (va vb : Value) (p q : Rat) (w : World) (ha : FracC w va p) (hb : FracC w vb q) (hp : fits p) (hq : fits q) (hf : fits (p + q)) : Calls Try.prog 55 #[va, vb] w (RF1 w (p + q)) := by
  obtain ⟨a1, a2, rfl, n1, n2⟩ := id ha
  obtain ⟨b1, b2, rfl, m1, m2⟩ := id hb
  obtain ⟨x1, y1, z1, rfl, _⟩ := id n1.v.sl
  obtain ⟨x2, y2, z2, rfl, _⟩ := id n2.v.sl
  obtain ⟨x3, y3, z3, rfl, _⟩ := id m1.v.sl
  obtain ⟨x4, y4, z4, rfl, _⟩ := id m2.v.sl
  obtain ⟨s, hs⟩ : ∃ s, decide (p < 0) = s := ⟨_, rfl⟩
  obtain ⟨t, ht⟩ : ∃ t, decide (q < 0) = t := ⟨_, rfl⟩
  have HX := Lib.hid hp
  have HY := Lib.hid hq
  have HF := Lib.hid hf
  rw [hs] at ha ⊢
  rw [ht] at hb ⊢
  clear n1 n2 m1 m2 hp hq hf hs ht
  have k1 := below_alloc w (.cells #[.bool s, .slice x1 y1 z1, .slice x2 y2 z2] 30)
  have H3 := three_boxes w 30 (.bool s) (.slice x1 y1 z1) (.slice x2 y2 z2) (.bool t) (.slice x3 y3 z3) (.slice x4 y4 z4) (.bool false) (.slice none 0 0) (.slice none 0 0) _ rfl
  obtain ⟨hA, hB, hR, hbw⟩ := H3
  have HR := Lib.hid hR
  have HAP := Lib.hid (ha.below hbw)
  have HBQ := Lib.hid (hb.below hbw)
  obtain ⟨_, c0, c1, c2, _, _, _⟩ := id hA
  obtain ⟨_, d0, d1, d2, _, _, _⟩ := id hB
  clear hA hB hR ha hb
  go_enter Try.func55, Try.ntmps55
  go_wp2_with (go_at_call 14; (with_reducible refine (r2add_can _ _ p q _ HAP.out HBQ.out HX.out HY.out HF.out).mono ?_); rintro e6 w6 ⟨v6, rfl, hv6, hb6⟩
               obtain ⟨t9, x9, y9, rfl, ⟨a91, l91, k91, rfl, _⟩, ⟨a92, l92, k92, rfl, _⟩⟩ := hv6.isF
               have hv6 := hv6.below (below_alloc w6 (.cells #[.bool t9, .slice a91 l91 k91, .slice a92 l92 k92] 30))
               have HR6 := Lib.hid ((HR.out.belowS hb6).belowS (below_alloc w6 (.cells #[.bool t9, .slice a91 l91 k91, .slice a92 l92 k92] 30)))
               obtain ⟨_, g0, g1, g2, g3, g4, g5⟩ := HR6.out)
  refine bodyPost_c1 rfl rfl Try.aggF Try.sizeF (HR6.out.set _ _ _) rfl ?_
  exact ⟨_, rfl, hv6.set3 HR6.out (fun z => by simp) (fun z => by simp) _ _ _, below_set3 (below_then (below_then hbw hb6) (below_alloc _ _)) (Nat.le_trans (Nat.le_succ _) (Nat.le_succ _)) _ _ _⟩
end Go.Proofs.Ytbhkibilnmoljaa
namespace Go.Proofs.Ytbhkibilnmoljaa
set_option linter.unusedVariables false
set_option linter.unusedSimpArgs false
open Go.RowKit

set_option maxRecDepth 100000 in
set_option maxHeartbeats 3200000 in
theorem rshape_any (va : Value) (m : List (List RF)) (w : World) (ha : MatN w va m) :
    Calls Try.prog 53 #[va] w (RShape w m) := by
  have sa := ha.sl
  have la := ha.len
  have hle := sa.le
  rw [la] at hle
  have hlb : m.length ≤ 9223372036854775807 := by omega
  clear hle
  by_cases h1 : m.length < 1
  · have HBAD : Hid (¬ shapeP m) := Lib.hid (fun h => by have := h.1; omega)
    go_enter Try.func53, Try.ntmps53
    go_wp2_with fail
    refine bodyPost_ret (v := .tuple #[.int .i64 0, .int .i64 0, .bool false]) (by simp [results, Try.results53, go_sem]) rfl ⟨?_, Below.refl _ _⟩
    rw [if_neg HBAD.out]
  · by_cases h2 : 24 < m.length
    · have HBAD : Hid (¬ shapeP m) := Lib.hid (fun h => by have := h.2.1; omega)
      go_enter Try.func53, Try.ntmps53
      go_wp2_with fail
      refine bodyPost_ret (v := .tuple #[.int .i64 0, .int .i64 0, .bool false]) (by simp [results, Try.results53, go_sem]) rfl ⟨?_, Below.refl _ _⟩
      rw [if_neg HBAD.out]
    · obtain ⟨r0, hc0, hr0⟩ := ha.at' 0 (by omega)
      have hd0 : m.headD [] = m[0]'(by omega) := by
        cases m with
        | nil => simp at h1
        | cons a m => rfl
      rw [← hd0] at hr0
      have sl0 := hr0.sl
      have ln0 := hr0.len
      obtain ⟨x, hx⟩ : ∃ x, m.headD [] = x := ⟨_, rfl⟩
      rw [hx] at hr0 ln0 hd0
      have HX := Lib.hid hx
      have i0 : 0 < m.length := by omega
      clear hd0 hr0 hx h1
      by_cases h3 : x.length < 1
      · have HBAD : Hid (¬ shapeP m) := Lib.hid (fun h => by have := h.2.2.1; rw [HX.out] at this; omega)
        go_enter Try.func53, Try.ntmps53
        go_wp2_with fail
        refine bodyPost_ret (v := .tuple #[.int .i64 0, .int .i64 0, .bool false]) (by simp [results, Try.results53, go_sem]) rfl ⟨?_, Below.refl _ _⟩
        rw [if_neg HBAD.out]
      · by_cases h4 : 24 < x.length
        · have HBAD : Hid (¬ shapeP m) := Lib.hid (fun h => by have := h.2.2.2.1; rw [HX.out] at this; omega)
          go_enter Try.func53, Try.ntmps53
          go_wp2_with fail
          refine bodyPost_ret (v := .tuple #[.int .i64 0, .int .i64 0, .bool false]) (by simp [results, Try.results53, go_sem]) rfl ⟨?_, Below.refl _ _⟩
          rw [if_neg HBAD.out]
        · go_enter Try.func53, Try.ntmps53
          go_wp2_with fail
          go_loopw [5] (fun u5 wr => ∃ (k : Nat), k ≤ m.length ∧ u5 = .int .i64 k ∧ (∀ l ∈ m.take k, vecP l x.length) ∧ Below w.heap.size w wr) (fun u5 _ => m.length - (intOf u5).toNat)
          case atStart => exact ⟨0, Nat.zero_le _, rfl, fun l h => by simp at h, Below.refl _ _⟩
          case round =>
            obtain ⟨k, hk, rfl, hok, hb⟩ := hrel
            have HOK := Lib.hid hok
            have hc0 := cell_below hb hc0
            clear hok
            by_cases hkl : k < m.length
            · obtain ⟨rk, hrc, hrk⟩ := (ha.below hb).at' k hkl
              obtain ⟨l, hl⟩ : ∃ l, m[k]'hkl = l := ⟨_, rfl⟩
              rw [hl] at hrk
              have HMEM : Hid (l ∈ m) := Lib.hid (by rw [← hl]; exact List.getElem_mem hkl)
              have HTK : Hid (m.take (k + 1) = m.take k ++ [l]) := Lib.hid (by rw [take_snoc m k hkl, hl])
              have i1 : x.length ≤ 65536 := by omega
              clear hl
              by_cases hv : vecP l x.length
              · have HV := Lib.hid hv
                clear hv
                go_wp2_with fail
                go_region_held3 (fun w' => w'.cell? (ptr va k) = some rk ∧ w'.cell? (ptr va 0) = some r0) (first
                  | exact ⟨hrc, hc0⟩
                  | with_reducible exact kc2 (by assumption) (by assumption)) (first
                  | (go_at_call 57; (with_reducible refine (rvector_any _ l x.length _ (hrk.below (by first | exact below_drew _ | exact Below.refl _ _))).mono ?_); rw [decide_eq_true HV.out]; rintro e w7 ⟨rfl, hb7⟩
                     have hb7 := (by first | exact below_then (below_drew _) hb7 | exact hb7 : Below wr.heap.size wr w7)))
                go_wp2_with fail
                go_roundw
                case rel => exact ⟨k + 1, hkl, by go_num, fun y hy => by
                  rw [HTK.out] at hy
                  rcases List.mem_append.1 hy with h | h
                  · exact HOK.out y h
                  · have : y = l := by simpa using h
                    rw [this]; exact HV.out, below_then hb hb7⟩
                case measure => simp [intOf]; omega
              · have HV := Lib.hid hv
                have HBAD : Hid (¬ shapeP m) := Lib.hid (fun h => hv (by have := h.2.2.2.2 l HMEM.out; rw [HX.out] at this; exact this))
                clear hv
                go_wp2_with fail
                go_region_held3 (fun w' => w'.cell? (ptr va k) = some rk ∧ w'.cell? (ptr va 0) = some r0) (first
                  | exact ⟨hrc, hc0⟩
                  | with_reducible exact kc2 (by assumption) (by assumption)) (first
                  | (go_at_call 57; (with_reducible refine (rvector_any _ l x.length _ (hrk.below (by first | exact below_drew _ | exact Below.refl _ _))).mono ?_); rw [decide_eq_false HV.out]; rintro e w7 ⟨rfl, hb7⟩
                     have hb7 := (by first | exact below_then (below_drew _) hb7 | exact hb7 : Below wr.heap.size wr w7)))
                go_wp2_with fail
                refine bodyPost_ret (v := .tuple #[.int .i64 0, .int .i64 0, .bool false]) (by simp [results, Try.results53, go_sem]) rfl ⟨?_, below_then hb hb7⟩
                rw [if_neg HBAD.out]
            · obtain rfl : k = m.length := by omega
              have HG : Hid (shapeP m) := Lib.hid (by
                have h := HOK.out
                rw [List.take_length] at h
                exact ⟨by omega, by omega, by rw [HX.out]; omega, by rw [HX.out]; omega, by rw [HX.out]; exact h⟩)
              go_wp2_with fail
              go_quiet (fail)
              have hbN := below_drewN (B := wr.heap.size) wr nq
              go_wp2_with fail
              refine bodyPost_ret (v := .tuple #[.int .i64 m.length, .int .i64 x.length, .bool true]) (by simp [results, Try.results53, go_sem]) rfl ⟨?_, below_then hb hbN⟩
              rw [if_pos HG.out, HX.out]
theorem rshape_ok (va : Value) (a : List (List RF)) (n m : Nat) (w : World) (ha : MatN w va a) (hs : shapeP a) (hn : a.length = n) (hm : cols a = m) :
    Calls Try.prog 53 #[va] w fun e w' => e = .returned (.tuple #[.int .i64 n, .int .i64 m, .bool true]) ∧ Below w.heap.size w w' :=
  (rshape_any va a w ha).mono fun e w' ⟨h1, h2⟩ => ⟨by
    rw [if_pos hs] at h1
    subst hn hm
    exact h1, h2⟩
theorem rshape_no (va : Value) (a : List (List RF)) (w : World) (ha : MatN w va a) (hs : ¬ shapeP a) :
    Calls Try.prog 53 #[va] w fun e w' => e = .returned (.tuple #[.int .i64 0, .int .i64 0, .bool false]) ∧ Below w.heap.size w w' :=
  (rshape_any va a w ha).mono fun e w' ⟨h1, h2⟩ => ⟨by rw [if_neg hs] at h1; exact h1, h2⟩
end Go.Proofs.Ytbhkibilnmoljaa
namespace Go.Proofs.Ytbhkibilnmoljaa
set_option linter.unusedVariables false
set_option linter.unusedSimpArgs false
open Go.RowKit

set_option maxRecDepth 100000 in
set_option maxHeartbeats 3200000 in
theorem rident_ok (n : Nat) (w : World) (hn1 : 1 ≤ n) (hn : n ≤ 24) :
    Calls Try.prog 30 #[.int .i64 n] w fun e w' => ∃ v, e = .returned (.tuple #[v, .int .i64 0]) ∧ MatF w' v n n oneM ∧ Below w.heap.size w w' := by
  obtain ⟨i3, hi3, hz3, hs3, hy3⟩ := info_parts Try.infoF
  have hAP := append1_fr (P := Try.prog) 26 30 i3 Try.underlying26 hi3 hz3 hs3 hy3
  obtain ⟨i4, hi4, hz4, hs4, hy4⟩ := info_parts Try.infoRow
  have hAR := append1_one (P := Try.prog) 24 26 i4 _ 24 Try.underlying24 hi4 hz4 hs4 hy4 (by decide) rfl (fun z => by simp)
  clear hi3 hz3 hs3 hy3 hi4 hz4 hs4 hy4
  go_enter Try.func30, Try.ntmps30
  go_wp2_with fail
  go_loopg [4, 5] (n) (fun g u4 u5 wr => ∃ (i : Nat) (rs : List Value), i ≤ n ∧ g = n - i ∧ u5 = .int .i64 i ∧ rs.length = i ∧ MkM wr w.heap.size u4 rs n oneM ∧ Below w.heap.size w wr)
  case atStart => exact ⟨0, [], Nat.zero_le _, rfl, rfl, rfl, ⟨OwnR.nil _ _ _ _, fun j h => by simp at h, Nat.le_refl _⟩, Below.refl _ _⟩
  case round =>
    obtain ⟨i, rs, hin, hg, rfl, hrs, hm, hbr⟩ := hrel
    obtain ⟨w2, hw2⟩ : ∃ w2, w2 = wr := ⟨_, rfl⟩
    subst hw2
    have HG := Lib.hid hg
    have HRS := Lib.hid hrs
    have HM := Lib.hid hm
    have HB2 := Lib.hid hbr
    have svr := hm.ra.sl
    clear hg hrs hm
    by_cases hir : i < n
    · have i1 : (0 : Int) ≤ (i : Int) := by omega
      go_wp2_with fail
      go_loopg [6, 7] (n) (fun g u6 u7 wi => ∃ (k : Nat), k ≤ n ∧ g = n - k ∧ u7 = .int .i64 k ∧ FrRow wi 30 w2.heap.size u6 (rowL k (oneM i)) ∧ Below w2.heap.size w2 wi)
      case atStart => exact ⟨0, Nat.zero_le _, rfl, rfl, FrRow.nil _ _ _, Below.refl _ _⟩
      case round =>
        obtain ⟨k, hk, hgk, rfl, hfr, hbi⟩ := hrel
        obtain ⟨wb, hwb⟩ : ∃ wb, wb = wr := ⟨_, rfl⟩
        subst hwb
        have HGK := Lib.hid hgk
        have HFR := Lib.hid hfr
        have HBI := Lib.hid hbi
        have srow := hfr.sl
        have hrl : (rowL k (oneM i)).length ≤ 1000 := by rw [rowL_length]; omega
        clear hgk hfr
        by_cases hkn : k < n
        · by_cases hik : i = k
          · have hit : ((i : Int) == (k : Int)) = true := by simp; omega
            have HEL : Hid (oneM i k = 1) := Lib.hid (by unfold oneM; rw [if_pos hik])
            clear hik
            go_wp2_with (first
              | (go_at_call 12; (with_reducible refine (r2int_one _).mono ?_); rintro e13 w13 ⟨v13, rfl, hv13, hb13⟩
                 obtain ⟨t13, x13, y13, rfl, ⟨a131, l131, k131, rfl, q131⟩, ⟨a132, l132, k132, rfl, q132⟩⟩ := hv13.isF
                 have hfr5 := HFR.out.moves (Moves.below (B := w2.heap.size) hb13) (Nat.le_refl _)
                 have hsz5 : w2.heap.size ≤ w13.heap.size := Nat.le_trans HBI.out.size hb13.size)
              | (at_builtin; refine hAP w13 rfl _ _ rfl w2.heap.size _ u6 (rowL k (oneM i)) rfl hfr5 _ _ _ 1 hv13 rfl hrl hsz5 ?_; intro v4' w50 ho50 hg50 hn50 hq50 sv50
                 have hg5 : Below w2.heap.size w13 w50 := below_of_grown hg50 hsz5 (fun k hk => (hfr5.block k hk).1)
                 have HO50 := Lib.hid ho50))
            go_roundg (n - (k + 1))
            case measure => (have := HGK.out; omega)
            case rel => exact ⟨k + 1, by omega, rfl, by go_num, by rw [← rowL_snoc, HEL.out]; exact HO50.out, (below_then2 HBI.out hb13 HBI.out.size).trans hg5⟩
          · have hit : ((i : Int) == (k : Int)) = false := by simp; omega
            have HEL : Hid (oneM i k = 0) := Lib.hid (by unfold oneM; rw [if_neg hik])
            clear hik
            go_wp2_with (first
              | (go_at_call 12; (with_reducible refine (r2int_zero _).mono ?_); rintro e13 w13 ⟨v13, rfl, hv13, hb13⟩
                 obtain ⟨t13, x13, y13, rfl, ⟨a131, l131, k131, rfl, q131⟩, ⟨a132, l132, k132, rfl, q132⟩⟩ := hv13.isF
                 have hfr5 := HFR.out.moves (Moves.below (B := w2.heap.size) hb13) (Nat.le_refl _)
                 have hsz5 : w2.heap.size ≤ w13.heap.size := Nat.le_trans HBI.out.size hb13.size)
              | (at_builtin; refine hAP w13 rfl _ _ rfl w2.heap.size _ u6 (rowL k (oneM i)) rfl hfr5 _ _ _ 0 hv13 rfl hrl hsz5 ?_; intro v4' w50 ho50 hg50 hn50 hq50 sv50
                 have hg5 : Below w2.heap.size w13 w50 := below_of_grown hg50 hsz5 (fun k hk => (hfr5.block k hk).1)
                 have HO50 := Lib.hid ho50))
            go_roundg (n - (k + 1))
            case measure => (have := HGK.out; omega)
            case rel => exact ⟨k + 1, by omega, rfl, by go_num, by rw [← rowL_snoc, HEL.out]; exact HO50.out, (below_then2 HBI.out hb13 HBI.out.size).trans hg5⟩
        · obtain rfl : n = k := by omega
          obtain ⟨a11, l11, k11, rfl, _⟩ := id srow
          have hm5 := HM.out.below hbi
          have hra := hm5.ra
          have hsz5 := hm5.sz
          have hlen : rs.length ≤ 1000 := by rw [HRS.out]; omega
          have HM5 := Lib.hid hm5
          have HR5 : Hid (FrRow wb 30 w.heap.size (.slice a11 l11 k11) (rowL n (oneM rs.length))) := Lib.hid (by rw [HRS.out]; exact HFR.out.mono HB2.out.size)
          clear hm5
          go_wp2_with (first
            | (at_builtin; refine hAR _ rfl _ _ rfl w.heap.size _ u4 rs rfl hra (.slice a11 l11 k11) rfl (fun z => by simp) rfl hlen hsz5 ?_; intro v5' w21 ho21 hg21 hn21 hq21 sv21
               have hG := HM5.out.push HR5.out ho21 hg21 hn21
               have HG5 := Lib.hid hG
               clear hG))
          go_roundg (n - (i + 1))
          case measure => (have := HG.out; omega)
          case rel => exact ⟨i + 1, _, by omega, rfl, by go_num, by rw [List.length_append, HRS.out]; rfl, HG5.out.1, (below_then2 HB2.out hbi HB2.out.size).trans HG5.out.2⟩
    · obtain rfl : n = i := by omega
      go_wp2_with fail
      go_ret2
      exact ⟨_, rfl, by have h := HM.out.mat; rw [HRS.out] at h; exact h, hbr⟩
set_option maxHeartbeats 800000 in
theorem rident_any (n : Int) (w : World) : Calls Try.prog 30 #[.int .i64 n] w (RAnsM w (oneAns n)) := by
  by_cases h1 : n < 1
  · have HANS : Hid (oneAns n = ([], 1)) := Lib.hid (by unfold oneAns; rw [if_pos (Or.inl h1)])
    go_enter Try.func30, Try.ntmps30
    go_wp2_with fail
    go_ret2
    rw [HANS.out]
    exact ⟨_, rfl, MatC.nil _, Below.refl _ _⟩
  · by_cases h2 : 24 < n
    · have HANS : Hid (oneAns n = ([], 1)) := Lib.hid (by unfold oneAns; rw [if_pos (Or.inr h2)])
      go_enter Try.func30, Try.ntmps30
      go_wp2_with fail
      go_ret2
      rw [HANS.out]
      exact ⟨_, rfl, MatC.nil _, Below.refl _ _⟩
    · obtain ⟨k, rfl⟩ : ∃ k : Nat, n = k := ⟨n.toNat, by omega⟩
      refine (rident_ok k w (by omega) (by omega)).mono ?_
      rintro e w' ⟨v, rfl, h3, h4⟩
      have hc : ¬ (((k : Nat) : Int) < 1 ∨ 24 < ((k : Nat) : Int)) := by omega
      refine ⟨v, ?_, ?_, h4⟩
      · unfold oneAns; rw [if_neg hc]; rfl
      · unfold oneAns; rw [if_neg hc]; exact h3.matC
end Go.Proofs.Ytbhkibilnmoljaa
namespace Go.Proofs.Ytbhkibilnmoljaa
set_option linter.unusedVariables false
set_option linter.unusedSimpArgs false
open Go.RowKit


set_option maxRecDepth 100000 in
set_option maxHeartbeats 6400000 in
theorem rdot_raw (vu vv : Value) (n : Nat) (x y : Nat → RF) (w : World) (hu : FracsN w vu (rowF n x)) (hv : FracsN w vv (rowF n y)) (hn : n ≤ 1000) (hfx : ∀ k, k < n → (x k).ok) (hfy : ∀ k, k < n → (y k).ok)
    (hp : ∀ k, k < n → fits ((x k).q * (y k).q)) (hs : ∀ k, k ≤ n → fits (sg k fun j => (x j).q * (y j).q)) :
    Calls Try.prog 59 #[vu, vv] w (RF1 w (sg n fun j => (x j).q * (y j).q)) := by
  have su := hu.sl
  have lu : slen vu = n := by rw [hu.len, rowF_length]
  have sv := hv.sl
  have lv : slen vv = n := by rw [hv.len, rowF_length]
  have HU := Lib.hid hu
  have HV := Lib.hid hv
  have HFX := Lib.hid hfx
  have HFY := Lib.hid hfy
  have HP := Lib.hid hp
  have HS := Lib.hid hs
  have hb0 := below_alloc w (.cells #[.bool false, .slice none 0 0, .slice none 0 0] 30)
  have HR0 := Lib.hid (C3.new w 30 (.bool false) (.slice none 0 0) (.slice none 0 0))
  clear hu hv hfx hfy hp hs
  go_enter Try.func59, Try.ntmps59
  go_upto_region 1 with fail
  obtain ⟨W0, hW0⟩ : ∃ W0, w.alloc (.cells #[.bool false, .slice none 0 0, .slice none 0 0] 30) = W0 := ⟨_, rfl⟩
  rw [hW0] at hb0 HR0 ⊢
  clear hW0
  have hB0 : w.heap.size ≤ W0.heap.size := hb0.size
  go_wp2_with (go_at_call 12; (with_reducible refine (r2int_zero _).mono ?_); rintro e13 w13 ⟨v13, rfl, hv13, hb13⟩
               obtain ⟨t13, x13, y13, rfl, ⟨a131, l131, k131, rfl, q131⟩, ⟨a132, l132, k132, rfl, q132⟩⟩ := hv13.isF
               have hb14 := below_then hb13 (below_alloc w13 (.cells #[.bool t13, .slice a131 l131 k131, .slice a132 l132 k132] 30))
               have hv14 := hv13.below (below_alloc w13 (.cells #[.bool t13, .slice a131 l131 k131, .slice a132 l132 k132] 30))
               have h1314 := hb13.size
               have HC1 := Lib.hid (C3.new w13 30 (.bool t13) (.slice a131 l131 k131) (.slice a132 l132 k132)))
  obtain ⟨b5, hb5⟩ : ∃ b, w13.heap.size = b := ⟨_, rfl⟩
  rw [hb5] at HC1 h1314
  rw [hb5]
  clear hb5
  go_loopg [6] (n) (fun g u6 wr => ∃ (k : Nat) (t' : Bool) (a1 a2 : Option Addr) (l1 k1 l2 k2 : Nat), k ≤ n ∧ g = n - k ∧ u6 = .int .i64 k ∧ C3 wr b5 (.bool t') (.slice a1 l1 k1) (.slice a2 l2 k2) ∧ FracC wr (.agg #[.bool t', .slice a1 l1 k1, .slice a2 l2 k2]) (sg k fun j => (x j).q * (y j).q) ∧ Below W0.heap.size W0 wr)
  case atStart => exact ⟨0, _, _, _, _, _, _, _, Nat.zero_le _, rfl, rfl, HC1.out, hv14, hb14⟩
  case round =>
    obtain ⟨k, t', a1, a2, l1, k1, l2, k2, hk, hg, rfl, hc3, hvk, hbr⟩ := hrel
    obtain ⟨w2, hw2⟩ : ∃ w2, w2 = wr := ⟨_, rfl⟩
    subst hw2
    have HG := Lib.hid hg
    have HC3 := Lib.hid hc3
    have HVK := Lib.hid hvk
    have HBR := Lib.hid hbr
    have hbw := hb0.trans (hbr.mono hB0)
    clear hg hv14 hb14 HC1
    by_cases hkn : k < n
    · obtain ⟨ea, eb, g1, g2, g3, g4, g5⟩ := (HU.out.below hbw).at' k (by rw [rowF_length]; exact hkn)
      obtain ⟨ec, ed, g6, g7, g8, g9, g10⟩ := (HV.out.below hbw).at' k (by rw [rowF_length]; exact hkn)
      rw [rowF_get] at g1 g4 g5 g6 g9 g10
      obtain ⟨ea1, ea2, ea3, rfl, _⟩ := g4.slen.1
      obtain ⟨eb1, eb2, eb3, rfl, _⟩ := g5.slen.1
      obtain ⟨ec1, ec2, ec3, rfl, _⟩ := g9.slen.1
      obtain ⟨ed1, ed2, ed3, rfl, _⟩ := g10.slen.1
      have hbD := below_drew (B := w2.heap.size) w2
      have HFU : Hid (FracN w2.drew (.agg #[.bool (x k).neg, .slice ea1 ea2 ea3, .slice eb1 eb2 eb3]) (x k).neg (x k).n (x k).d) := Lib.hid ⟨_, _, rfl, g4.below hbD, g5.below hbD⟩
      have HFV : Hid (FracN w2.drew (.agg #[.bool (y k).neg, .slice ec1 ec2 ec3, .slice ed1 ed2 ed3]) (y k).neg (y k).n (y k).d) := Lib.hid ⟨_, _, rfl, g9.below hbD, g10.below hbD⟩
      have HCD := Lib.hid (HC3.out.belowS hbD)
      have HVD := Lib.hid (HVK.out.below hbD)
      obtain ⟨_, p1, p2, p3, _, _, _⟩ := id hc3
      have q1 := cell_below hbD p1
      have q2 := cell_below hbD p2
      have q3 := cell_below hbD p3
      have q4 := cell_below hbD g1
      have q5 := cell_below hbD g2
      have q6 := cell_below hbD g3
      have q7 := cell_below hbD g6
      have q8 := cell_below hbD g7
      have q9 := cell_below hbD g8
      have HF1 := Lib.hid (HFX.out k hkn)
      have HF2 := Lib.hid (HFY.out k hkn)
      have HF3 := Lib.hid (HP.out k hkn)
      have HF4 := Lib.hid (HS.out k hk)
      have HF5 : Hid (fits ((sg k fun j => (x j).q * (y j).q) + (x k).q * (y k).q)) := Lib.hid (HS.out (k + 1) hkn)
      have i1 : (0 : Int) ≤ (k : Int) := by omega
      have i2 : (k : Int) < (n : Nat) := by omega
      clear g1 g2 g3 g4 g5 g6 g7 g8 g9 g10 hbw hc3 hvk hbr p1 p2 p3
      go_wp2_with fail
      refine wpN.start [11] (fun w' => w'.cell? ⟨b5, 0, none⟩ = some (.bool t') ∧ w'.cell? ⟨b5, 1, none⟩ = some (.slice a1 l1 k1) ∧ w'.cell? ⟨b5, 2, none⟩ = some (.slice a2 l2 k2) ∧ w'.cell? (ptr vu (k * 3)) = some (.bool (x k).neg) ∧ w'.cell? (ptr vu (k * 3 + 1)) = some (.slice ea1 ea2 ea3) ∧ w'.cell? (ptr vu (k * 3 + 2)) = some (.slice eb1 eb2 eb3) ∧ w'.cell? (ptr vv (k * 3)) = some (.bool (y k).neg) ∧ w'.cell? (ptr vv (k * 3 + 1)) = some (.slice ec1 ec2 ec3) ∧ w'.cell? (ptr vv (k * 3 + 2)) = some (.slice ed1 ed2 ed3)) (by kernel_rfl) ⟨q1, q2, q3, q4, q5, q6, q7, q8, q9⟩ (fun hHeld => ?_)
      (refine wpN.take 0 (by kernel_rfl) (by kernel_rfl) (by kernel_rfl) (by kernel_rfl) (by kernel_rfl) (by assumption) (by kernel_rfl) ?_; intro oi hoi; simp only [List.getElem?_toArray, List.getElem?_cons_succ, List.getElem?_cons_zero, Option.some.injEq] at hoi; subst hoi)
      first
        | (refine ⟨undef, fun _ _ _ h => h, Or.inr ⟨by rfl, rfl⟩, ?_⟩; simp only [Act.put, List.setIfInBounds_toArray, List.set_cons_zero, List.set_cons_succ])
        | (refine ⟨?_, fun _ _ _ h => h, Or.inl ⟨by rfl, ?_⟩, ?_⟩; rotate_left; focus (intro w hSw; (try dsimp only at hSw); go_simp; try with_reducible rfl)
           simp only [Act.put, List.setIfInBounds_toArray, List.set_cons_zero, List.set_cons_succ])
        | fail "op 0"
      (refine wpN.take 1 (by kernel_rfl) (by kernel_rfl) (by kernel_rfl) (by kernel_rfl) (by kernel_rfl) (by assumption) (by kernel_rfl) ?_; intro oi hoi; simp only [List.getElem?_toArray, List.getElem?_cons_succ, List.getElem?_cons_zero, Option.some.injEq] at hoi; subst hoi)
      first
        | (refine ⟨undef, fun _ _ _ h => h, Or.inr ⟨by rfl, rfl⟩, ?_⟩; simp only [Act.put, List.setIfInBounds_toArray, List.set_cons_zero, List.set_cons_succ])
        | (refine ⟨?_, fun _ _ _ h => h, Or.inl ⟨by rfl, ?_⟩, ?_⟩; rotate_left; focus (intro w hSw; (try dsimp only at hSw); go_simp; try with_reducible rfl)
           simp only [Act.put, List.setIfInBounds_toArray, List.set_cons_zero, List.set_cons_succ])
        | fail "op 1"
      (refine wpN.take 2 (by kernel_rfl) (by kernel_rfl) (by kernel_rfl) (by kernel_rfl) (by kernel_rfl) (by assumption) (by kernel_rfl) ?_; intro oi hoi; simp only [List.getElem?_toArray, List.getElem?_cons_succ, List.getElem?_cons_zero, Option.some.injEq] at hoi; subst hoi)
      first
        | (refine ⟨undef, fun _ _ _ h => h, Or.inr ⟨by rfl, rfl⟩, ?_⟩; simp only [Act.put, List.setIfInBounds_toArray, List.set_cons_zero, List.set_cons_succ])
        | (refine ⟨?_, fun _ _ _ h => h, Or.inl ⟨by rfl, ?_⟩, ?_⟩; rotate_left; focus (intro w hSw; (try dsimp only at hSw); go_simp; try with_reducible rfl)
           simp only [Act.put, List.setIfInBounds_toArray, List.set_cons_zero, List.set_cons_succ])
        | fail "op 2"
      (refine wpN.take 3 (by kernel_rfl) (by kernel_rfl) (by kernel_rfl) (by kernel_rfl) (by kernel_rfl) (by assumption) (by kernel_rfl) ?_; intro oi hoi; simp only [List.getElem?_toArray, List.getElem?_cons_succ, List.getElem?_cons_zero, Option.some.injEq] at hoi; subst hoi)
      first
        | (refine ⟨undef, fun _ _ _ h => h, Or.inr ⟨by rfl, rfl⟩, ?_⟩; simp only [Act.put, List.setIfInBounds_toArray, List.set_cons_zero, List.set_cons_succ])
        | (refine ⟨?_, fun _ _ _ h => h, Or.inl ⟨by rfl, ?_⟩, ?_⟩; rotate_left; focus (intro w hSw; (try dsimp only at hSw); go_simp; try with_reducible rfl)
           simp only [Act.put, List.setIfInBounds_toArray, List.set_cons_zero, List.set_cons_succ])
        | fail "op 3"
      (refine wpN.take 4 (by kernel_rfl) (by kernel_rfl) (by kernel_rfl) (by kernel_rfl) (by kernel_rfl) (by assumption) (by kernel_rfl) ?_; intro oi hoi; simp only [List.getElem?_toArray, List.getElem?_cons_succ, List.getElem?_cons_zero, Option.some.injEq] at hoi; subst hoi)
      first
        | (refine ⟨undef, fun _ _ _ h => h, Or.inr ⟨by rfl, rfl⟩, ?_⟩; simp only [Act.put, List.setIfInBounds_toArray, List.set_cons_zero, List.set_cons_succ])
        | (refine ⟨?_, fun _ _ _ h => h, Or.inl ⟨by rfl, ?_⟩, ?_⟩; rotate_left; focus (intro w hSw; (try dsimp only at hSw); go_simp; try with_reducible rfl)
           simp only [Act.put, List.setIfInBounds_toArray, List.set_cons_zero, List.set_cons_succ])
        | fail "op 4"
      (refine wpN.take 5 (by kernel_rfl) (by kernel_rfl) (by kernel_rfl) (by kernel_rfl) (by kernel_rfl) (by assumption) (by kernel_rfl) ?_; intro oi hoi; simp only [List.getElem?_toArray, List.getElem?_cons_succ, List.getElem?_cons_zero, Option.some.injEq] at hoi; subst hoi)
      first
        | (refine ⟨undef, fun _ _ _ h => h, Or.inr ⟨by rfl, rfl⟩, ?_⟩; simp only [Act.put, List.setIfInBounds_toArray, List.set_cons_zero, List.set_cons_succ])
        | (refine ⟨?_, fun _ _ _ h => h, Or.inl ⟨by rfl, ?_⟩, ?_⟩; rotate_left; focus (intro w hSw; (try dsimp only at hSw); go_simp; try with_reducible rfl)
           simp only [Act.put, List.setIfInBounds_toArray, List.set_cons_zero, List.set_cons_succ])
        | fail "op 5"
      (refine wpN.take 6 (by kernel_rfl) (by kernel_rfl) (by kernel_rfl) (by kernel_rfl) (by kernel_rfl) (by assumption) (by kernel_rfl) ?_; intro oi hoi; simp only [List.getElem?_toArray, List.getElem?_cons_succ, List.getElem?_cons_zero, Option.some.injEq] at hoi; subst hoi)
      first
        | (refine ⟨undef, fun _ _ _ h => h, Or.inr ⟨by rfl, rfl⟩, ?_⟩; simp only [Act.put, List.setIfInBounds_toArray, List.set_cons_zero, List.set_cons_succ])
        | (refine ⟨?_, fun _ _ _ h => h, Or.inl ⟨by rfl, ?_⟩, ?_⟩; rotate_left; focus (intro w hSw; (try dsimp only at hSw); go_simp; try with_reducible rfl)
           simp only [Act.put, List.setIfInBounds_toArray, List.set_cons_zero, List.set_cons_succ])
        | fail "op 6"
      (refine wpN.take 7 (by kernel_rfl) (by kernel_rfl) (by kernel_rfl) (by kernel_rfl) (by kernel_rfl) (by assumption) (by kernel_rfl) ?_; intro oi hoi; simp only [List.getElem?_toArray, List.getElem?_cons_succ, List.getElem?_cons_zero, Option.some.injEq] at hoi; subst hoi)
      first
        | (refine ⟨undef, fun _ _ _ h => h, Or.inr ⟨by rfl, rfl⟩, ?_⟩; simp only [Act.put, List.setIfInBounds_toArray, List.set_cons_zero, List.set_cons_succ])
        | (refine ⟨?_, fun _ _ _ h => h, Or.inl ⟨by rfl, ?_⟩, ?_⟩; rotate_left; focus (intro w hSw; (try dsimp only at hSw); go_simp; try with_reducible rfl)
           simp only [Act.put, List.setIfInBounds_toArray, List.set_cons_zero, List.set_cons_succ])
        | fail "op 7"
      (refine wpN.take 8 (by kernel_rfl) (by kernel_rfl) (by kernel_rfl) (by kernel_rfl) (by kernel_rfl) (by assumption) (by kernel_rfl) ?_; intro oi hoi; simp only [List.getElem?_toArray, List.getElem?_cons_succ, List.getElem?_cons_zero, Option.some.injEq] at hoi; subst hoi)
      first
        | (refine ⟨undef, fun _ _ _ h => h, Or.inr ⟨by rfl, rfl⟩, ?_⟩; simp only [Act.put, List.setIfInBounds_toArray, List.set_cons_zero, List.set_cons_succ])
        | (refine ⟨?_, fun _ _ _ h => h, Or.inl ⟨by rfl, ?_⟩, ?_⟩; rotate_left; focus (intro w hSw; (try dsimp only at hSw); go_simp; try with_reducible rfl)
           simp only [Act.put, List.setIfInBounds_toArray, List.set_cons_zero, List.set_cons_succ])
        | fail "op 8"
      (refine wpN.one 9 (by kernel_rfl) (by kernel_rfl) ?_; intro oi hoi K hK; simp only [List.getElem?_toArray, List.getElem?_cons_succ, List.getElem?_cons_zero, Option.some.injEq] at hoi; subst hoi)
      refine step_callg 56 #[.agg #[.bool (x k).neg, .slice ea1 ea2 ea3, .slice eb1 eb2 eb3], .agg #[.bool (y k).neg, .slice ec1 ec2 ec3, .slice ed1 ed2 ed3]] ?_ ?_ (r5mul_raw _ _ (x k) (y k) _ HFU.out HFV.out HF1.out HF2.out HF3.out) ?_
      · rfl
      · go_simp
      rintro e9 w9 ⟨v9, rfl, hv9, hb9⟩
      refine ⟨_, rfl, ?_⟩
      have hNew : (fun w' => w'.cell? ⟨b5, 0, none⟩ = some (.bool t') ∧ w'.cell? ⟨b5, 1, none⟩ = some (.slice a1 l1 k1) ∧ w'.cell? ⟨b5, 2, none⟩ = some (.slice a2 l2 k2) ∧ w'.cell? (ptr vu (k * 3)) = some (.bool (x k).neg) ∧ w'.cell? (ptr vu (k * 3 + 1)) = some (.slice ea1 ea2 ea3) ∧ w'.cell? (ptr vu (k * 3 + 2)) = some (.slice eb1 eb2 eb3) ∧ w'.cell? (ptr vv (k * 3)) = some (.bool (y k).neg) ∧ w'.cell? (ptr vv (k * 3 + 1)) = some (.slice ec1 ec2 ec3) ∧ w'.cell? (ptr vv (k * 3 + 2)) = some (.slice ed1 ed2 ed3)) w9 := ⟨cell_below hb9 q1, cell_below hb9 q2, cell_below hb9 q3, cell_below hb9 q4, cell_below hb9 q5, cell_below hb9 q6, cell_below hb9 q7, cell_below hb9 q8, cell_below hb9 q9⟩
      refine hK.out _ _ (fun _ => hNew) ?_
      clear hK K hHeld q1 q2 q3 q4 q5 q6 q7 q8 q9
      try simp only [Act.put, List.setIfInBounds_toArray, List.set_cons_zero, List.set_cons_succ]
      obtain ⟨q1, q2, q3, q4, q5, q6, q7, q8, q9⟩ := hNew
      (refine wpN.one 10 (by kernel_rfl) (by kernel_rfl) ?_; intro oi hoi K hK; simp only [List.getElem?_toArray, List.getElem?_cons_succ, List.getElem?_cons_zero, Option.some.injEq] at hoi; subst hoi)
      refine step_callg 55 #[.agg #[.bool t', .slice a1 l1 k1, .slice a2 l2 k2], v9] ?_ ?_ (r5add_can _ _ _ _ _ (HVD.out.below hb9) hv9 HF4.out HF3.out HF5.out) ?_
      · rfl
      · go_simp
      rintro e10 w10 ⟨v10, rfl, hv10, hb10⟩
      obtain ⟨t9, x9, y9, rfl, ⟨a91, l91, k91, rfl, _⟩, ⟨a92, l92, k92, rfl, _⟩⟩ := hv10.isF
      refine ⟨_, rfl, ?_⟩
      have hNew : (fun w' => w'.cell? ⟨b5, 0, none⟩ = some (.bool t') ∧ w'.cell? ⟨b5, 1, none⟩ = some (.slice a1 l1 k1) ∧ w'.cell? ⟨b5, 2, none⟩ = some (.slice a2 l2 k2) ∧ w'.cell? (ptr vu (k * 3)) = some (.bool (x k).neg) ∧ w'.cell? (ptr vu (k * 3 + 1)) = some (.slice ea1 ea2 ea3) ∧ w'.cell? (ptr vu (k * 3 + 2)) = some (.slice eb1 eb2 eb3) ∧ w'.cell? (ptr vv (k * 3)) = some (.bool (y k).neg) ∧ w'.cell? (ptr vv (k * 3 + 1)) = some (.slice ec1 ec2 ec3) ∧ w'.cell? (ptr vv (k * 3 + 2)) = some (.slice ed1 ed2 ed3)) w10 := ⟨cell_below hb10 q1, cell_below hb10 q2, cell_below hb10 q3, cell_below hb10 q4, cell_below hb10 q5, cell_below hb10 q6, cell_below hb10 q7, cell_below hb10 q8, cell_below hb10 q9⟩
      refine hK.out _ _ (fun _ => hNew) ?_
      clear hK K q1 q2 q3 q4 q5 q6 q7 q8 q9 hNew
      try simp only [Act.put, List.setIfInBounds_toArray, List.set_cons_zero, List.set_cons_succ]
      have HC10 := Lib.hid ((HCD.out.belowS hb9).belowS hb10)
      have HV10 := Lib.hid hv10
      have HB10 := Lib.hid (below_then2 (below_then2 (below_then2 HBR.out hbD HBR.out.size) hb9 (below_then2 HBR.out hbD HBR.out.size).size) hb10 (below_then2 (below_then2 HBR.out hbD HBR.out.size) hb9 (below_then2 HBR.out hbD HBR.out.size).size).size)
      obtain ⟨_, c0, c1, c2, f0, f1, f2⟩ := HC10.out
      clear hv10 hb10 hv9 hb9 hbD
      (refine wpN.one 11 (by kernel_rfl) (by kernel_rfl) ?_; intro oi hoi K hK; simp only [List.getElem?_toArray, List.getElem?_cons_succ, List.getElem?_cons_zero, Option.some.injEq] at hoi; subst hoi)
      rw [if_pos (by rfl)]
      go_simp
      refine hK.out _ _ (fun h => by cases h) ?_
      clear hK K c0 c1 c2 f0 f1 f2
      refine wpN.done (by kernel_rfl) ?_ _
      go_wp2_with fail
      go_roundg (n - (k + 1))
      case measure => (have := HG.out; omega)
      case rel => exact ⟨k + 1, _, _, _, _, _, _, _, by omega, rfl, by go_num, HC10.out.set _ _ _, HV10.out.set3 HC10.out (fun z => by simp) (fun z => by simp) _ _ _, below_set3 HB10.out h1314 _ _ _⟩
    · obtain rfl : k = n := by omega
      have HR2 := Lib.hid (HR0.out.below hbr HR0.out.lt)
      obtain ⟨_, c0, c1, c2, f0, f1, f2⟩ := HR2.out
      obtain ⟨_, d0, d1, d2, _, _, _⟩ := id hc3
      go_wp2_with fail
      refine bodyPost_c1 rfl rfl Try.aggF Try.sizeF (HR2.out.set _ _ _) rfl ?_
      exact ⟨_, rfl, hvk.set3 HR2.out (fun z => by simp) (fun z => by simp) _ _ _, below_set3 hbw (Nat.le_refl _) _ _ _⟩
end Go.Proofs.Ytbhkibilnmoljaa
namespace Go.Proofs.Ytbhkibilnmoljaa
set_option linter.unusedVariables false
set_option linter.unusedSimpArgs false
open Go.RowKit

set_option maxRecDepth 100000 in
set_option maxHeartbeats 3200000 in
theorem rapply_any (va vb : Value) (a : List (List RF)) (l : List RF) (w : World) (ha : MatN w va a) (hb : FracsN w vb l) (hl : l.length ≤ 65536) : Calls Try.prog 28 #[va, vb] w (RAnsV w (appAns a l)) := by
  obtain ⟨i3, hi3, hz3, hs3, hy3⟩ := info_parts Try.infoF
  have hAP := append1_fr (P := Try.prog) 26 30 i3 Try.underlying26 hi3 hz3 hs3 hy3
  clear hi3 hz3 hs3 hy3
  have HA := Lib.hid ha
  have HB := Lib.hid hb
  have sa := ha.sl
  have sb := hb.sl
  by_cases hsa : shapeP a
  · obtain ⟨n, hn⟩ : ∃ n, a.length = n := ⟨_, rfl⟩
    obtain ⟨m, hm⟩ : ∃ n, cols a = n := ⟨_, rfl⟩
    have HN := Lib.hid (And.intro hn hm)
    have HSA := Lib.hid hsa
    have la : slen va = n := by rw [ha.len, hn]
    have hn24 : n ≤ 24 := by rw [← hn]; exact hsa.2.1
    have hm24 : m ≤ 24 := by rw [← hm]; exact hsa.2.2.2.1
    by_cases hv : vecP l m
    · have hok : appP a l := ⟨hsa, by rw [hm]; exact hv⟩
      have HV := Lib.hid hv
      have HVO : Hid (∀ x ∈ l, x.ok) := Lib.hid hv.1
      have hl1 := wtsM_lim hsa
      have hl2 := wts_le l hv.1
      obtain ⟨W1, hW1⟩ : ∃ W, wtsM a = W := ⟨_, rfl⟩
      obtain ⟨W2, hW2⟩ : ∃ W, wts (qs l) = W := ⟨_, rfl⟩
      have hl3 : W2 ≤ 8192 * 65536 := by rw [← hW2]; exact Nat.le_trans hl2 (Nat.mul_le_mul_left _ hl)
      rw [hW1] at hl1
      have HW1 := Lib.hid hW1
      have HW2 := Lib.hid hW2
      by_cases hw : 3800 < W1 + W2
      · have HANS : Hid (appAns a l = ([], 2)) := Lib.hid (by unfold appAns; rw [if_pos hok, if_pos (by rw [hW1, hW2]; exact hw)])
        have hwi : (3800 : Int) < (W1 : Int) + (W2 : Nat) := by omega
        clear ha hb hok hsa hn hm hv hl2 hW1 hW2 hw
        go_enter Try.func28, Try.ntmps28
        go_wp2_with (first
          | (go_at_call 53; (with_reducible refine (rshape_ok va a n m _ HA.out HSA.out HN.out.1 HN.out.2).mono ?_); rintro e1 w1 ⟨rfl, hb1⟩)
          | (go_at_call 57; (with_reducible refine (rvector_any _ l m _ (HB.out.below hb1)).mono ?_); rw [decide_eq_true HV.out]; rintro e2 w2 ⟨rfl, hb2⟩
             have hB2 := below_then hb1 hb2)
          | (go_at_call 54; (with_reducible refine (rweights_any va a _ (HA.out.below hB2) HSA.out).mono ?_); rw [HW1.out]; rintro e3 w3 ⟨rfl, hb3⟩
             have hB3 := below_then hB2 hb3)
          | (go_at_call 58; (with_reducible refine (rweight_any _ l _ (HB.out.below hB3) HVO.out hl).mono ?_); rw [HW2.out]; rintro e4 w4 ⟨rfl, hb4⟩))
        go_ret2
        rw [HANS.out]
        exact ⟨_, rfl, FracsC.nil _, below_then hB3 hb4⟩
      · have hw2 : wtsM a + wts (qs l) ≤ 3800 := by omega
        have HANS : Hid (appAns a l = (rowL n (fun i => sg m fun j => rQ a i j * (l.getD j rf0).q), 0)) := Lib.hid (by unfold appAns; rw [if_pos hok, if_neg (by omega), hn, hm])
        have hwi : ¬ (3800 : Int) < (W1 : Int) + (W2 : Nat) := by omega
        have HR : Hid (MatR w va n m (rX a)) := Lib.hid (by
          have h := ha.toR hsa.cols
          rw [hn, hm] at h; exact h)
        have HBR : Hid (FracsN w vb (rowF m fun j => l.getD j rf0)) := Lib.hid (by
          have e := rowF_of l
          rw [hv.2] at e
          rw [e]; exact hb)
        have HF : Hid (∀ i j, i < n → j < m → (rX a i j).ok) := Lib.hid (fun i j hi hj => hsa.ok (by omega) (by omega))
        have HFB : Hid (∀ j, j < m → (l.getD j rf0).ok) := Lib.hid (fun j hj => by
          have hj2 : j < l.length := by rw [hv.2]; exact hj
          have e2 : l.getD j rf0 = l[j] := by simp [List.getD, List.getElem?_eq_getElem hj2]
          rw [e2]; exact hv.1 _ (List.getElem_mem hj2))
        have HP : Hid (∀ i k, i < n → k < m → fits ((rX a i k).q * (l.getD k rf0).q)) := Lib.hid (fun i k hi hk => (hok.fits hw2 (i := i) (by omega)).1 k (by omega))
        have HS : Hid (∀ i k, i < n → k ≤ m → fits (sg k fun j => (rX a i j).q * (l.getD j rf0).q)) := Lib.hid (fun i k hi hk => (hok.fits hw2 (i := i) (by omega)).2 k (by omega))
        have m1000 : m ≤ 1000 := by omega
        clear ha hb hok hsa hn hm hv hl2 hW1 hW2 hw hw2
        go_enter Try.func28, Try.ntmps28
        go_wp2_with (first
          | (go_at_call 53; (with_reducible refine (rshape_ok va a n m _ HA.out HSA.out HN.out.1 HN.out.2).mono ?_); rintro e1 w1 ⟨rfl, hb1⟩)
          | (go_at_call 57; (with_reducible refine (rvector_any _ l m _ (HB.out.below hb1)).mono ?_); rw [decide_eq_true HV.out]; rintro e2 w2 ⟨rfl, hb2⟩
             have hB2 := below_then hb1 hb2)
          | (go_at_call 54; (with_reducible refine (rweights_any va a _ (HA.out.below hB2) HSA.out).mono ?_); rw [HW1.out]; rintro e3 w3 ⟨rfl, hb3⟩
             have hB3 := below_then hB2 hb3)
          | (go_at_call 58; (with_reducible refine (rweight_any _ l _ (HB.out.below hB3) HVO.out hl).mono ?_); rw [HW2.out]; rintro e4 w4 ⟨rfl, hb4⟩
             have HB4 := Lib.hid (below_then hB3 hb4)
             clear hb4 hB3 hb3 hB2 hb2 hb1))
        go_loopg [9, 10] (n) (fun g u9 u10 wr => ∃ (i : Nat), i ≤ n ∧ g = n - i ∧ u10 = .int .i64 i ∧ FrRow wr 30 w4.heap.size u9 (rowL i (fun i => sg m fun j => rQ a i j * (l.getD j rf0).q)) ∧ Below w4.heap.size w4 wr)
        case atStart => exact ⟨0, Nat.zero_le _, rfl, rfl, FrRow.nil _ _ _, Below.refl _ _⟩
        case round =>
          obtain ⟨i, hin, hg, rfl, hfr, hbr⟩ := hrel
          obtain ⟨w5, hw5⟩ : ∃ w5, w5 = wr := ⟨_, rfl⟩
          subst hw5
          have HG := Lib.hid hg
          have HFR := Lib.hid hfr
          have HBR2 := Lib.hid hbr
          have hBw := below_then2 HB4.out hbr HB4.out.size
          have srow := hfr.sl
          clear hg
          by_cases hil : i < n
          · obtain ⟨ri, hc1, hr1⟩ := (HR.out.below hBw).row i hil
            have HR1 := Lib.hid hr1
            have HBv := Lib.hid (HBR.out.below hBw)
            have HF1 : Hid (∀ k, k < m → (rX a i k).ok) := Lib.hid (fun k hk => HF.out i k hil hk)
            have HP1 : Hid (∀ k, k < m → fits ((rX a i k).q * (l.getD k rf0).q)) := Lib.hid (fun k hk => HP.out i k hil hk)
            have HS1 : Hid (∀ k, k ≤ m → fits (sg k fun j => (rX a i j).q * (l.getD j rf0).q)) := Lib.hid (fun k hk => HS.out i k hil hk)
            have i1 : (0 : Int) ≤ (i : Int) := by omega
            have i2 : (i : Int) < (n : Nat) := by omega
            have hrl : (rowL i (fun i => sg m fun j => rQ a i j * (l.getD j rf0).q)).length ≤ 1000 := by rw [rowL_length]; omega
            clear hfr hbr hBw hr1
            go_wp2_with (first
              | (go_at_call 59; (with_reducible refine (rdot_raw _ _ m (rX a i) (fun j => l.getD j rf0) _ HR1.out HBv.out m1000 HF1.out HFB.out HP1.out HS1.out).mono ?_); rintro e31 w31 ⟨v31, rfl, hv31, hb31⟩
                 obtain ⟨t6, x31, y31, rfl, ⟨a61, l61, k61, rfl, _⟩, ⟨a62, l62, k62, rfl, _⟩⟩ := hv31.isF
                 have hfr5 := HFR.out.moves (Moves.below (B := w4.heap.size) hb31) (Nat.le_refl _)
                 have hsz5 : w4.heap.size ≤ w31.heap.size := Nat.le_trans HBR2.out.size hb31.size)
              | (at_builtin; refine hAP w31 rfl _ _ rfl w4.heap.size _ u9 (rowL i (fun i => sg m fun j => rQ a i j * (l.getD j rf0).q)) rfl hfr5 _ _ _ _ hv31 rfl hrl hsz5 ?_; intro v4' w50 ho50 hg50 hn50 hq50 sv50
                 have hg5 : Below w4.heap.size w31 w50 := below_of_grown hg50 hsz5 (fun k hk => (hfr5.block k hk).1)
                 have HO50 := Lib.hid ho50))
            go_roundg (n - (i + 1))
            case measure => (have := HG.out; omega)
            case rel => exact ⟨i + 1, by omega, rfl, by go_num, by rw [← rowL_snoc]; exact HO50.out, (below_then2 HBR2.out hb31 HBR2.out.size).trans hg5⟩
          · obtain rfl : n = i := by omega
            go_wp2_with fail
            go_ret2
            rw [HANS.out]
            exact ⟨_, rfl, hfr.fracs, hBw⟩
    · have HANS : Hid (appAns a l = ([], 1)) := Lib.hid (by unfold appAns; rw [if_neg (fun h => hv (by rw [← hm]; exact h.2))])
      have HV := Lib.hid hv
      clear ha hb hsa hn hm hv
      go_enter Try.func28, Try.ntmps28
      go_wp2_with (first
        | (go_at_call 53; (with_reducible refine (rshape_ok va a n m _ HA.out HSA.out HN.out.1 HN.out.2).mono ?_); rintro e1 w1 ⟨rfl, hb1⟩)
        | (go_at_call 57; (with_reducible refine (rvector_any _ l m _ (HB.out.below hb1)).mono ?_); rw [decide_eq_false HV.out]; rintro e2 w2 ⟨rfl, hb2⟩
           have hB2 := below_then hb1 hb2))
      go_ret2
      rw [HANS.out]
      exact ⟨_, rfl, FracsC.nil _, hB2⟩
  · have HANS : Hid (appAns a l = ([], 1)) := Lib.hid (by unfold appAns; rw [if_neg (fun h => hsa h.1)])
    have HSA := Lib.hid hsa
    clear ha hb hsa
    go_enter Try.func28, Try.ntmps28
    go_wp2_with (go_at_call 53; (with_reducible refine (rshape_no va a _ HA.out HSA.out).mono ?_); rintro e1 w1 ⟨rfl, hb1⟩)
    go_ret2
    rw [HANS.out]
    exact ⟨_, rfl, FracsC.nil _, hb1⟩
end Go.Proofs.Ytbhkibilnmoljaa
namespace Go.Proofs.Ytbhkibilnmoljaa
set_option linter.unusedVariables false
set_option linter.unusedSimpArgs false
open Go.RowKit


set_option maxRecDepth 100000 in
set_option maxHeartbeats 12800000 in
theorem rmul_valid (va vb : Value) (a b : List (List RF)) (n m c : Nat) (w : World) (hna : MatN w va a) (hnb : MatN w vb b) (hok : mulP a b) (hn' : a.length = n) (hm' : cols a = m) (hc' : cols b = c) (hw : wtsM a + wtsM b ≤ 3800) :
    Calls Try.prog 27 #[va, vb] w fun e w' => ∃ v, e = .returned (.tuple #[v, .int .i64 0]) ∧ MatF w' v n c (mulM m (rQ a) (rQ b)) ∧ Below w.heap.size w w' := by
  have hn1 : 1 ≤ n := by rw [← hn']; exact hok.1.1
  have hn : n ≤ 24 := by rw [← hn']; exact hok.1.2.1
  have hm1 : 1 ≤ m := by rw [← hm']; exact hok.1.2.2.1
  have hm : m ≤ 24 := by rw [← hm']; exact hok.1.2.2.2.1
  have hc1 : 1 ≤ c := by rw [← hc']; exact hok.2.1.2.2.1
  have hc : c ≤ 24 := by rw [← hc']; exact hok.2.1.2.2.2.1
  have hbm : b.length = m := by rw [← hm']; exact hok.2.2.symm
  have ha : MatR w va n m (rX a) := by
    have h := hna.toR hok.1.cols
    rw [hn', hm'] at h; exact h
  have hb : MatR w vb m c (rX b) := by
    have h := hnb.toR hok.2.1.cols
    rw [hbm, hc'] at h; exact h
  have HFA : Hid (∀ i j, i < n → j < m → (rX a i j).ok) := Lib.hid fun i j hi hj => hok.1.ok (by omega) (by omega)
  have HFB : Hid (∀ i j, i < m → j < c → (rX b i j).ok) := Lib.hid fun i j hi hj => hok.2.1.ok (by omega) (by omega)
  have HP : Hid (∀ i k, i < n → k < c → ∀ j, j < m → fits ((rX a i j).q * (rX b j k).q)) := Lib.hid fun i k hi hk j hj => (hok.fits hw (i := i) (k := k) (by omega) (by omega)).1 j (by omega)
  have HS : Hid (∀ i k, i < n → k < c → ∀ j, j ≤ m → fits (sg j fun l => (rX a i l).q * (rX b l k).q)) := Lib.hid fun i k hi hk j hj => (hok.fits hw (i := i) (k := k) (by omega) (by omega)).2 j (by omega)
  have HNA := Lib.hid hna
  have HNB := Lib.hid hnb
  have HSA := Lib.hid (And.intro hok.1 (And.intro hn' hm'))
  have HSB := Lib.hid (And.intro hok.2.1 (And.intro hbm hc'))
  have sa := ha.sl
  have la := ha.len
  have sb := hb.sl
  have lb := hb.len
  have HA := Lib.hid ha
  have HB := Lib.hid hb
  have hwi : (wtsM a : Int) + (wtsM b : Nat) ≤ 3800 := by omega
  obtain ⟨W1, hW1⟩ : ∃ W, wtsM a = W := ⟨_, rfl⟩
  obtain ⟨W2, hW2⟩ : ∃ W, wtsM b = W := ⟨_, rfl⟩
  rw [hW1, hW2] at hwi
  have HW1 := Lib.hid hW1
  have HW2 := Lib.hid hW2
  obtain ⟨i3, hi3, hz3, hs3, hy3⟩ := info_parts Try.infoF
  have hAP := append1_fr (P := Try.prog) 26 30 i3 Try.underlying26 hi3 hz3 hs3 hy3
  obtain ⟨i4, hi4, hz4, hs4, hy4⟩ := info_parts Try.infoRow
  have hAR := append1_one (P := Try.prog) 24 26 i4 _ 24 Try.underlying24 hi4 hz4 hs4 hy4 (by decide) rfl (fun z => by simp)
  clear hi3 hz3 hs3 hy3 hi4 hz4 hs4 hy4
  clear hW1 hW2 ha hb hw hna hnb hok hn' hm' hc' hbm
  go_enter Try.func27, Try.ntmps27
  go_wp2_with (first
    | (go_at_call 53; first
       | ((with_reducible refine (rshape_ok va a n m _ HNA.out HSA.out.1 HSA.out.2.1 HSA.out.2.2).mono ?_); rintro e1 w1 ⟨rfl, hb1⟩)
       | ((with_reducible refine (rshape_ok vb b m c _ (HNB.out.below hb1) HSB.out.1 HSB.out.2.1 HSB.out.2.2).mono ?_); rintro e2 w2 ⟨rfl, hb2⟩
          have hB2 := below_then hb1 hb2))
    | (go_at_call 54; first
       | ((with_reducible refine (rweights_any va a _ (HNA.out.below hB2) HSA.out.1).mono ?_); rw [HW1.out]; rintro e3 w3 ⟨rfl, hb3⟩
          have hB3 := below_then hB2 hb3)
       | ((with_reducible refine (rweights_any vb b _ (HNB.out.below hB3) HSB.out.1).mono ?_); rw [HW2.out]; rintro e4 w4 ⟨rfl, hb4⟩
          have HB4 := Lib.hid (below_then hB3 hb4)
          clear hb4 hB3 hb3 hB2 hb2 hb1)))
  go_loopg [12, 13] (n) (fun g u12 u13 wr => ∃ (i : Nat) (rs : List Value), i ≤ n ∧ g = n - i ∧ u13 = .int .i64 i ∧ rs.length = i ∧ MkM wr w4.heap.size u12 rs c (mulM m (rQ a) (rQ b)) ∧ Below w4.heap.size w4 wr)
  case atStart => exact ⟨0, [], Nat.zero_le _, rfl, rfl, rfl, ⟨OwnR.nil _ _ _ _, fun j h => by simp at h, Nat.le_refl _⟩, Below.refl _ _⟩
  case round =>
    obtain ⟨i, rs, hin, hg, rfl, hrs, hmk, hbr⟩ := hrel
    obtain ⟨w5, hw5⟩ : ∃ w5, w5 = wr := ⟨_, rfl⟩
    subst hw5
    have HG := Lib.hid hg
    have HRS := Lib.hid hrs
    have HM := Lib.hid hmk
    have HB5 := Lib.hid hbr
    have svr := hmk.ra.sl
    clear hg hrs hmk
    by_cases hil : i < n
    · have i1 : (0 : Int) ≤ (i : Int) := by omega
      have i2 : (i : Int) < (n : Nat) := by omega
      go_wp2_with fail
      go_loopg [14, 15] (c) (fun g u14 u15 wi => ∃ (k : Nat), k ≤ c ∧ g = c - k ∧ u15 = .int .i64 k ∧ FrRow wi 30 w5.heap.size u14 (rowL k (mulM m (rQ a) (rQ b) i)) ∧ Below w5.heap.size w5 wi)
      case atStart => exact ⟨0, Nat.zero_le _, rfl, rfl, FrRow.nil _ _ _, Below.refl _ _⟩
      case round =>
        obtain ⟨k, hk, hgk, rfl, hfr, hbi⟩ := hrel
        obtain ⟨wb, hwb⟩ : ∃ wb, wb = wr := ⟨_, rfl⟩
        subst hwb
        have HGK := Lib.hid hgk
        have HFR := Lib.hid hfr
        have HBI := Lib.hid hbi
        have srow := hfr.sl
        have hrl : (rowL k (mulM m (rQ a) (rQ b) i)).length ≤ 1000 := by rw [rowL_length]; omega
        clear hgk hfr
        by_cases hkn : k < c
        · have k1' : (0 : Int) ≤ (k : Int) := by omega
          have k2' : (k : Int) < (c : Nat) := by omega
          clear hbi
          go_wp2_with (go_at_call 12; (with_reducible refine (r2int_zero _).mono ?_); rintro e13 w13 ⟨v13, rfl, hv13, hb13⟩
                       obtain ⟨t13, x13, y13, rfl, ⟨a131, l131, k131, rfl, q131⟩, ⟨a132, l132, k132, rfl, q132⟩⟩ := hv13.isF
                       have hb14 := below_then hb13 (below_alloc w13 (.cells #[.bool t13, .slice a131 l131 k131, .slice a132 l132 k132] 30))
                       have hv14 := hv13.below (below_alloc w13 (.cells #[.bool t13, .slice a131 l131 k131, .slice a132 l132 k132] 30))
                       have h1314 := hb13.size
                       have HC1 := Lib.hid (C3.new w13 30 (.bool t13) (.slice a131 l131 k131) (.slice a132 l132 k132)))
          obtain ⟨b5, hb5⟩ : ∃ b, w13.heap.size = b := ⟨_, rfl⟩
          rw [hb5] at HC1 h1314
          rw [hb5]
          clear hb5
          go_loopg [17] (m) (fun g u17 wr => ∃ (q : Nat) (t' : Bool) (a1 a2 : Option Addr) (l1 k1 l2 k2 : Nat), q ≤ m ∧ g = m - q ∧ u17 = .int .i64 q ∧ C3 wr b5 (.bool t') (.slice a1 l1 k1) (.slice a2 l2 k2) ∧ FracC wr (.agg #[.bool t', .slice a1 l1 k1, .slice a2 l2 k2]) (sg q fun j => (rX a i j).q * (rX b j k).q) ∧ Below wb.heap.size wb wr)
          case atStart => exact ⟨0, _, _, _, _, _, _, _, Nat.zero_le _, rfl, rfl, HC1.out, hv14, hb14⟩
          case round =>
            obtain ⟨q, t', a1, a2, l1, k1, l2, k2, hq, hgq, rfl, hc3, hvq, hbq⟩ := hrel
            obtain ⟨wq, hwq⟩ : ∃ wq, wq = wr := ⟨_, rfl⟩
            subst hwq
            have HGQ := Lib.hid hgq
            have HC3 := Lib.hid hc3
            have HVQ := Lib.hid hvq
            have HBQ := Lib.hid hbq
            have hBW := below_then2 HB4.out (below_then2 HB5.out (below_then2 HBI.out hbq HBI.out.size) HB5.out.size) HB4.out.size
            clear hgq hv14 hb14 HC1
            by_cases hqm : q < m
            · obtain ⟨ra, hca, hra⟩ := (HA.out.below hBW).row i hil
              obtain ⟨rb, hcb, hrb⟩ := (HB.out.below hBW).row q hqm
              have sra := hra.sl
              have lra : slen ra = m := by rw [hra.len, rowF_length]
              have srb := hrb.sl
              have lrb : slen rb = c := by rw [hrb.len, rowF_length]
              obtain ⟨ra1, ra2, ra3, rfl, _⟩ := id sra
              obtain ⟨rb1, rb2, rb3, rfl, _⟩ := id srb
              obtain ⟨ea, eb, g1, g2, g3, g4, g5⟩ := hra.at' q (by rw [rowF_length]; exact hqm)
              obtain ⟨ec, ed, g6, g7, g8, g9, g10⟩ := hrb.at' k (by rw [rowF_length]; exact hkn)
              rw [rowF_get] at g1 g4 g5 g6 g9 g10
              obtain ⟨ea1, ea2, ea3, rfl, _⟩ := g4.slen.1
              obtain ⟨eb1, eb2, eb3, rfl, _⟩ := g5.slen.1
              obtain ⟨ec1, ec2, ec3, rfl, _⟩ := g9.slen.1
              obtain ⟨ed1, ed2, ed3, rfl, _⟩ := g10.slen.1
              have hbD := below_drew (B := wq.heap.size) wq
              have HFU : Hid (FracN wq.drew (.agg #[.bool (rX a i q).neg, .slice ea1 ea2 ea3, .slice eb1 eb2 eb3]) (rX a i q).neg (rX a i q).n (rX a i q).d) := Lib.hid ⟨_, _, rfl, g4.below hbD, g5.below hbD⟩
              have HFV : Hid (FracN wq.drew (.agg #[.bool (rX b q k).neg, .slice ec1 ec2 ec3, .slice ed1 ed2 ed3]) (rX b q k).neg (rX b q k).n (rX b q k).d) := Lib.hid ⟨_, _, rfl, g9.below hbD, g10.below hbD⟩
              have HCD := Lib.hid (HC3.out.belowS hbD)
              have HVD := Lib.hid (HVQ.out.below hbD)
              obtain ⟨_, p1, p2, p3, _, _, _⟩ := id hc3
              have s1 := cell_below hbD p1
              have s2 := cell_below hbD p2
              have s3 := cell_below hbD p3
              have s4 := cell_below hbD hca
              have s5 := cell_below hbD g1
              have s6 := cell_below hbD g2
              have s7 := cell_below hbD g3
              have s8 := cell_below hbD hcb
              have s9 := cell_below hbD g6
              have s10 := cell_below hbD g7
              have s11 := cell_below hbD g8
              have HF1 := Lib.hid (HFA.out i q hil hqm)
              have HF2 := Lib.hid (HFB.out q k hqm hkn)
              have HF3 := Lib.hid (HP.out i k hil hkn q hqm)
              have HF4 := Lib.hid (HS.out i k hil hkn q hq)
              have HF5 : Hid (fits ((sg q fun j => (rX a i j).q * (rX b j k).q) + (rX a i q).q * (rX b q k).q)) := Lib.hid (HS.out i k hil hkn (q + 1) hqm)
              have q1' : (0 : Int) ≤ (q : Int) := by omega
              have q2' : (q : Int) < (m : Nat) := by omega
              clear g1 g2 g3 g4 g5 g6 g7 g8 g9 g10 hBW hc3 hvq hbq p1 p2 p3 hra hrb hca hcb
              go_wp2_with fail
              refine wpN.start [17] (fun w' => w'.cell? ⟨b5, 0, none⟩ = some (.bool t') ∧ w'.cell? ⟨b5, 1, none⟩ = some (.slice a1 l1 k1) ∧ w'.cell? ⟨b5, 2, none⟩ = some (.slice a2 l2 k2) ∧ w'.cell? (ptr va i) = some (.slice ra1 ra2 ra3) ∧ w'.cell? (ptr (.slice ra1 ra2 ra3) (q * 3)) = some (.bool (rX a i q).neg) ∧ w'.cell? (ptr (.slice ra1 ra2 ra3) (q * 3 + 1)) = some (.slice ea1 ea2 ea3) ∧ w'.cell? (ptr (.slice ra1 ra2 ra3) (q * 3 + 2)) = some (.slice eb1 eb2 eb3) ∧ w'.cell? (ptr vb q) = some (.slice rb1 rb2 rb3) ∧ w'.cell? (ptr (.slice rb1 rb2 rb3) (k * 3)) = some (.bool (rX b q k).neg) ∧ w'.cell? (ptr (.slice rb1 rb2 rb3) (k * 3 + 1)) = some (.slice ec1 ec2 ec3) ∧ w'.cell? (ptr (.slice rb1 rb2 rb3) (k * 3 + 2)) = some (.slice ed1 ed2 ed3)) (by kernel_rfl) ⟨s1, s2, s3, s4, s5, s6, s7, s8, s9, s10, s11⟩ (fun hHeld => ?_)
              (refine wpN.take 0 (by kernel_rfl) (by kernel_rfl) (by kernel_rfl) (by kernel_rfl) (by kernel_rfl) (by assumption) (by kernel_rfl) ?_; intro oi hoi; simp only [List.getElem?_toArray, List.getElem?_cons_succ, List.getElem?_cons_zero, Option.some.injEq] at hoi; subst hoi)
              first
                | (refine ⟨undef, fun _ _ _ h => h, Or.inr ⟨by rfl, rfl⟩, ?_⟩; simp only [Act.put, List.setIfInBounds_toArray, List.set_cons_zero, List.set_cons_succ])
                | (refine ⟨?_, fun _ _ _ h => h, Or.inl ⟨by rfl, ?_⟩, ?_⟩; rotate_left; focus (intro w hSw; (try dsimp only at hSw); go_simp; try with_reducible rfl)
                   simp only [Act.put, List.setIfInBounds_toArray, List.set_cons_zero, List.set_cons_succ])
                | fail "op 0"
              (refine wpN.take 1 (by kernel_rfl) (by kernel_rfl) (by kernel_rfl) (by kernel_rfl) (by kernel_rfl) (by assumption) (by kernel_rfl) ?_; intro oi hoi; simp only [List.getElem?_toArray, List.getElem?_cons_succ, List.getElem?_cons_zero, Option.some.injEq] at hoi; subst hoi)
              first
                | (refine ⟨undef, fun _ _ _ h => h, Or.inr ⟨by rfl, rfl⟩, ?_⟩; simp only [Act.put, List.setIfInBounds_toArray, List.set_cons_zero, List.set_cons_succ])
                | (refine ⟨?_, fun _ _ _ h => h, Or.inl ⟨by rfl, ?_⟩, ?_⟩; rotate_left; focus (intro w hSw; (try dsimp only at hSw); go_simp; try with_reducible rfl)
                   simp only [Act.put, List.setIfInBounds_toArray, List.set_cons_zero, List.set_cons_succ])
                | fail "op 1"
              (refine wpN.take 2 (by kernel_rfl) (by kernel_rfl) (by kernel_rfl) (by kernel_rfl) (by kernel_rfl) (by assumption) (by kernel_rfl) ?_; intro oi hoi; simp only [List.getElem?_toArray, List.getElem?_cons_succ, List.getElem?_cons_zero, Option.some.injEq] at hoi; subst hoi)
              first
                | (refine ⟨undef, fun _ _ _ h => h, Or.inr ⟨by rfl, rfl⟩, ?_⟩; simp only [Act.put, List.setIfInBounds_toArray, List.set_cons_zero, List.set_cons_succ])
                | (refine ⟨?_, fun _ _ _ h => h, Or.inl ⟨by rfl, ?_⟩, ?_⟩; rotate_left; focus (intro w hSw; (try dsimp only at hSw); go_simp; try with_reducible rfl)
                   simp only [Act.put, List.setIfInBounds_toArray, List.set_cons_zero, List.set_cons_succ])
                | fail "op 2"
              (refine wpN.take 3 (by kernel_rfl) (by kernel_rfl) (by kernel_rfl) (by kernel_rfl) (by kernel_rfl) (by assumption) (by kernel_rfl) ?_; intro oi hoi; simp only [List.getElem?_toArray, List.getElem?_cons_succ, List.getElem?_cons_zero, Option.some.injEq] at hoi; subst hoi)
              first
                | (refine ⟨undef, fun _ _ _ h => h, Or.inr ⟨by rfl, rfl⟩, ?_⟩; simp only [Act.put, List.setIfInBounds_toArray, List.set_cons_zero, List.set_cons_succ])
                | (refine ⟨?_, fun _ _ _ h => h, Or.inl ⟨by rfl, ?_⟩, ?_⟩; rotate_left; focus (intro w hSw; (try dsimp only at hSw); go_simp; try with_reducible rfl)
                   simp only [Act.put, List.setIfInBounds_toArray, List.set_cons_zero, List.set_cons_succ])
                | fail "op 3"
              (refine wpN.take 4 (by kernel_rfl) (by kernel_rfl) (by kernel_rfl) (by kernel_rfl) (by kernel_rfl) (by assumption) (by kernel_rfl) ?_; intro oi hoi; simp only [List.getElem?_toArray, List.getElem?_cons_succ, List.getElem?_cons_zero, Option.some.injEq] at hoi; subst hoi)
              first
                | (refine ⟨undef, fun _ _ _ h => h, Or.inr ⟨by rfl, rfl⟩, ?_⟩; simp only [Act.put, List.setIfInBounds_toArray, List.set_cons_zero, List.set_cons_succ])
                | (refine ⟨?_, fun _ _ _ h => h, Or.inl ⟨by rfl, ?_⟩, ?_⟩; rotate_left; focus (intro w hSw; (try dsimp only at hSw); go_simp; try with_reducible rfl)
                   simp only [Act.put, List.setIfInBounds_toArray, List.set_cons_zero, List.set_cons_succ])
                | fail "op 4"
              (refine wpN.take 5 (by kernel_rfl) (by kernel_rfl) (by kernel_rfl) (by kernel_rfl) (by kernel_rfl) (by assumption) (by kernel_rfl) ?_; intro oi hoi; simp only [List.getElem?_toArray, List.getElem?_cons_succ, List.getElem?_cons_zero, Option.some.injEq] at hoi; subst hoi)
              first
                | (refine ⟨undef, fun _ _ _ h => h, Or.inr ⟨by rfl, rfl⟩, ?_⟩; simp only [Act.put, List.setIfInBounds_toArray, List.set_cons_zero, List.set_cons_succ])
                | (refine ⟨?_, fun _ _ _ h => h, Or.inl ⟨by rfl, ?_⟩, ?_⟩; rotate_left; focus (intro w hSw; (try dsimp only at hSw); go_simp; try with_reducible rfl)
                   simp only [Act.put, List.setIfInBounds_toArray, List.set_cons_zero, List.set_cons_succ])
                | fail "op 5"
              (refine wpN.take 6 (by kernel_rfl) (by kernel_rfl) (by kernel_rfl) (by kernel_rfl) (by kernel_rfl) (by assumption) (by kernel_rfl) ?_; intro oi hoi; simp only [List.getElem?_toArray, List.getElem?_cons_succ, List.getElem?_cons_zero, Option.some.injEq] at hoi; subst hoi)
              first
                | (refine ⟨undef, fun _ _ _ h => h, Or.inr ⟨by rfl, rfl⟩, ?_⟩; simp only [Act.put, List.setIfInBounds_toArray, List.set_cons_zero, List.set_cons_succ])
                | (refine ⟨?_, fun _ _ _ h => h, Or.inl ⟨by rfl, ?_⟩, ?_⟩; rotate_left; focus (intro w hSw; (try dsimp only at hSw); go_simp; try with_reducible rfl)
                   simp only [Act.put, List.setIfInBounds_toArray, List.set_cons_zero, List.set_cons_succ])
                | fail "op 6"
              (refine wpN.take 7 (by kernel_rfl) (by kernel_rfl) (by kernel_rfl) (by kernel_rfl) (by kernel_rfl) (by assumption) (by kernel_rfl) ?_; intro oi hoi; simp only [List.getElem?_toArray, List.getElem?_cons_succ, List.getElem?_cons_zero, Option.some.injEq] at hoi; subst hoi)
              first
                | (refine ⟨undef, fun _ _ _ h => h, Or.inr ⟨by rfl, rfl⟩, ?_⟩; simp only [Act.put, List.setIfInBounds_toArray, List.set_cons_zero, List.set_cons_succ])
                | (refine ⟨?_, fun _ _ _ h => h, Or.inl ⟨by rfl, ?_⟩, ?_⟩; rotate_left; focus (intro w hSw; (try dsimp only at hSw); go_simp; try with_reducible rfl)
                   simp only [Act.put, List.setIfInBounds_toArray, List.set_cons_zero, List.set_cons_succ])
                | fail "op 7"
              (refine wpN.take 8 (by kernel_rfl) (by kernel_rfl) (by kernel_rfl) (by kernel_rfl) (by kernel_rfl) (by assumption) (by kernel_rfl) ?_; intro oi hoi; simp only [List.getElem?_toArray, List.getElem?_cons_succ, List.getElem?_cons_zero, Option.some.injEq] at hoi; subst hoi)
              first
                | (refine ⟨undef, fun _ _ _ h => h, Or.inr ⟨by rfl, rfl⟩, ?_⟩; simp only [Act.put, List.setIfInBounds_toArray, List.set_cons_zero, List.set_cons_succ])
                | (refine ⟨?_, fun _ _ _ h => h, Or.inl ⟨by rfl, ?_⟩, ?_⟩; rotate_left; focus (intro w hSw; (try dsimp only at hSw); go_simp; try with_reducible rfl)
                   simp only [Act.put, List.setIfInBounds_toArray, List.set_cons_zero, List.set_cons_succ])
                | fail "op 8"
              (refine wpN.take 9 (by kernel_rfl) (by kernel_rfl) (by kernel_rfl) (by kernel_rfl) (by kernel_rfl) (by assumption) (by kernel_rfl) ?_; intro oi hoi; simp only [List.getElem?_toArray, List.getElem?_cons_succ, List.getElem?_cons_zero, Option.some.injEq] at hoi; subst hoi)
              first
                | (refine ⟨undef, fun _ _ _ h => h, Or.inr ⟨by rfl, rfl⟩, ?_⟩; simp only [Act.put, List.setIfInBounds_toArray, List.set_cons_zero, List.set_cons_succ])
                | (refine ⟨?_, fun _ _ _ h => h, Or.inl ⟨by rfl, ?_⟩, ?_⟩; rotate_left; focus (intro w hSw; (try dsimp only at hSw); go_simp; try with_reducible rfl)
                   simp only [Act.put, List.setIfInBounds_toArray, List.set_cons_zero, List.set_cons_succ])
                | fail "op 9"
              (refine wpN.take 10 (by kernel_rfl) (by kernel_rfl) (by kernel_rfl) (by kernel_rfl) (by kernel_rfl) (by assumption) (by kernel_rfl) ?_; intro oi hoi; simp only [List.getElem?_toArray, List.getElem?_cons_succ, List.getElem?_cons_zero, Option.some.injEq] at hoi; subst hoi)
              first
                | (refine ⟨undef, fun _ _ _ h => h, Or.inr ⟨by rfl, rfl⟩, ?_⟩; simp only [Act.put, List.setIfInBounds_toArray, List.set_cons_zero, List.set_cons_succ])
                | (refine ⟨?_, fun _ _ _ h => h, Or.inl ⟨by rfl, ?_⟩, ?_⟩; rotate_left; focus (intro w hSw; (try dsimp only at hSw); go_simp; try with_reducible rfl)
                   simp only [Act.put, List.setIfInBounds_toArray, List.set_cons_zero, List.set_cons_succ])
                | fail "op 10"
              (refine wpN.take 11 (by kernel_rfl) (by kernel_rfl) (by kernel_rfl) (by kernel_rfl) (by kernel_rfl) (by assumption) (by kernel_rfl) ?_; intro oi hoi; simp only [List.getElem?_toArray, List.getElem?_cons_succ, List.getElem?_cons_zero, Option.some.injEq] at hoi; subst hoi)
              first
                | (refine ⟨undef, fun _ _ _ h => h, Or.inr ⟨by rfl, rfl⟩, ?_⟩; simp only [Act.put, List.setIfInBounds_toArray, List.set_cons_zero, List.set_cons_succ])
                | (refine ⟨?_, fun _ _ _ h => h, Or.inl ⟨by rfl, ?_⟩, ?_⟩; rotate_left; focus (intro w hSw; (try dsimp only at hSw); go_simp; try with_reducible rfl)
                   simp only [Act.put, List.setIfInBounds_toArray, List.set_cons_zero, List.set_cons_succ])
                | fail "op 11"
              (refine wpN.take 12 (by kernel_rfl) (by kernel_rfl) (by kernel_rfl) (by kernel_rfl) (by kernel_rfl) (by assumption) (by kernel_rfl) ?_; intro oi hoi; simp only [List.getElem?_toArray, List.getElem?_cons_succ, List.getElem?_cons_zero, Option.some.injEq] at hoi; subst hoi)
              first
                | (refine ⟨undef, fun _ _ _ h => h, Or.inr ⟨by rfl, rfl⟩, ?_⟩; simp only [Act.put, List.setIfInBounds_toArray, List.set_cons_zero, List.set_cons_succ])
                | (refine ⟨?_, fun _ _ _ h => h, Or.inl ⟨by rfl, ?_⟩, ?_⟩; rotate_left; focus (intro w hSw; (try dsimp only at hSw); go_simp; try with_reducible rfl)
                   simp only [Act.put, List.setIfInBounds_toArray, List.set_cons_zero, List.set_cons_succ])
                | fail "op 12"
              (refine wpN.take 13 (by kernel_rfl) (by kernel_rfl) (by kernel_rfl) (by kernel_rfl) (by kernel_rfl) (by assumption) (by kernel_rfl) ?_; intro oi hoi; simp only [List.getElem?_toArray, List.getElem?_cons_succ, List.getElem?_cons_zero, Option.some.injEq] at hoi; subst hoi)
              first
                | (refine ⟨undef, fun _ _ _ h => h, Or.inr ⟨by rfl, rfl⟩, ?_⟩; simp only [Act.put, List.setIfInBounds_toArray, List.set_cons_zero, List.set_cons_succ])
                | (refine ⟨?_, fun _ _ _ h => h, Or.inl ⟨by rfl, ?_⟩, ?_⟩; rotate_left; focus (intro w hSw; (try dsimp only at hSw); go_simp; try with_reducible rfl)
                   simp only [Act.put, List.setIfInBounds_toArray, List.set_cons_zero, List.set_cons_succ])
                | fail "op 13"
              (refine wpN.take 14 (by kernel_rfl) (by kernel_rfl) (by kernel_rfl) (by kernel_rfl) (by kernel_rfl) (by assumption) (by kernel_rfl) ?_; intro oi hoi; simp only [List.getElem?_toArray, List.getElem?_cons_succ, List.getElem?_cons_zero, Option.some.injEq] at hoi; subst hoi)
              first
                | (refine ⟨undef, fun _ _ _ h => h, Or.inr ⟨by rfl, rfl⟩, ?_⟩; simp only [Act.put, List.setIfInBounds_toArray, List.set_cons_zero, List.set_cons_succ])
                | (refine ⟨?_, fun _ _ _ h => h, Or.inl ⟨by rfl, ?_⟩, ?_⟩; rotate_left; focus (intro w hSw; (try dsimp only at hSw); go_simp; try with_reducible rfl)
                   simp only [Act.put, List.setIfInBounds_toArray, List.set_cons_zero, List.set_cons_succ])
                | fail "op 14"
              (refine wpN.one 15 (by kernel_rfl) (by kernel_rfl) ?_; intro oi hoi K hK; simp only [List.getElem?_toArray, List.getElem?_cons_succ, List.getElem?_cons_zero, Option.some.injEq] at hoi; subst hoi)
              refine step_callg 56 #[.agg #[.bool (rX a i q).neg, .slice ea1 ea2 ea3, .slice eb1 eb2 eb3], .agg #[.bool (rX b q k).neg, .slice ec1 ec2 ec3, .slice ed1 ed2 ed3]] ?_ ?_ (r5mul_raw _ _ (rX a i q) (rX b q k) _ HFU.out HFV.out HF1.out HF2.out HF3.out) ?_
              · rfl
              · go_simp
              rintro e9 w9 ⟨v9, rfl, hv9, hb9⟩
              refine ⟨_, rfl, ?_⟩
              have hNew : (fun w' => w'.cell? ⟨b5, 0, none⟩ = some (.bool t') ∧ w'.cell? ⟨b5, 1, none⟩ = some (.slice a1 l1 k1) ∧ w'.cell? ⟨b5, 2, none⟩ = some (.slice a2 l2 k2) ∧ w'.cell? (ptr va i) = some (.slice ra1 ra2 ra3) ∧ w'.cell? (ptr (.slice ra1 ra2 ra3) (q * 3)) = some (.bool (rX a i q).neg) ∧ w'.cell? (ptr (.slice ra1 ra2 ra3) (q * 3 + 1)) = some (.slice ea1 ea2 ea3) ∧ w'.cell? (ptr (.slice ra1 ra2 ra3) (q * 3 + 2)) = some (.slice eb1 eb2 eb3) ∧ w'.cell? (ptr vb q) = some (.slice rb1 rb2 rb3) ∧ w'.cell? (ptr (.slice rb1 rb2 rb3) (k * 3)) = some (.bool (rX b q k).neg) ∧ w'.cell? (ptr (.slice rb1 rb2 rb3) (k * 3 + 1)) = some (.slice ec1 ec2 ec3) ∧ w'.cell? (ptr (.slice rb1 rb2 rb3) (k * 3 + 2)) = some (.slice ed1 ed2 ed3)) w9 := ⟨cell_below hb9 s1, cell_below hb9 s2, cell_below hb9 s3, cell_below hb9 s4, cell_below hb9 s5, cell_below hb9 s6, cell_below hb9 s7, cell_below hb9 s8, cell_below hb9 s9, cell_below hb9 s10, cell_below hb9 s11⟩
              refine hK.out _ _ (fun _ => hNew) ?_
              clear hK K hHeld s1 s2 s3 s4 s5 s6 s7 s8 s9 s10 s11
              try simp only [Act.put, List.setIfInBounds_toArray, List.set_cons_zero, List.set_cons_succ]
              obtain ⟨s1, s2, s3, s4, s5, s6, s7, s8, s9, s10, s11⟩ := hNew
              (refine wpN.one 16 (by kernel_rfl) (by kernel_rfl) ?_; intro oi hoi K hK; simp only [List.getElem?_toArray, List.getElem?_cons_succ, List.getElem?_cons_zero, Option.some.injEq] at hoi; subst hoi)
              refine step_callg 55 #[.agg #[.bool t', .slice a1 l1 k1, .slice a2 l2 k2], v9] ?_ ?_ (r5add_can _ _ _ _ _ (HVD.out.below hb9) hv9 HF4.out HF3.out HF5.out) ?_
              · rfl
              · go_simp
              rintro e10 w10 ⟨v10, rfl, hv10, hb10⟩
              obtain ⟨t9, x9, y9, rfl, ⟨a91, l91, k91, rfl, _⟩, ⟨a92, l92, k92, rfl, _⟩⟩ := hv10.isF
              refine ⟨_, rfl, ?_⟩
              have hNew : (fun w' => w'.cell? ⟨b5, 0, none⟩ = some (.bool t') ∧ w'.cell? ⟨b5, 1, none⟩ = some (.slice a1 l1 k1) ∧ w'.cell? ⟨b5, 2, none⟩ = some (.slice a2 l2 k2) ∧ w'.cell? (ptr va i) = some (.slice ra1 ra2 ra3) ∧ w'.cell? (ptr (.slice ra1 ra2 ra3) (q * 3)) = some (.bool (rX a i q).neg) ∧ w'.cell? (ptr (.slice ra1 ra2 ra3) (q * 3 + 1)) = some (.slice ea1 ea2 ea3) ∧ w'.cell? (ptr (.slice ra1 ra2 ra3) (q * 3 + 2)) = some (.slice eb1 eb2 eb3) ∧ w'.cell? (ptr vb q) = some (.slice rb1 rb2 rb3) ∧ w'.cell? (ptr (.slice rb1 rb2 rb3) (k * 3)) = some (.bool (rX b q k).neg) ∧ w'.cell? (ptr (.slice rb1 rb2 rb3) (k * 3 + 1)) = some (.slice ec1 ec2 ec3) ∧ w'.cell? (ptr (.slice rb1 rb2 rb3) (k * 3 + 2)) = some (.slice ed1 ed2 ed3)) w10 := ⟨cell_below hb10 s1, cell_below hb10 s2, cell_below hb10 s3, cell_below hb10 s4, cell_below hb10 s5, cell_below hb10 s6, cell_below hb10 s7, cell_below hb10 s8, cell_below hb10 s9, cell_below hb10 s10, cell_below hb10 s11⟩
              refine hK.out _ _ (fun _ => hNew) ?_
              clear hK K s1 s2 s3 s4 s5 s6 s7 s8 s9 s10 s11 hNew
              try simp only [Act.put, List.setIfInBounds_toArray, List.set_cons_zero, List.set_cons_succ]
              have HC10 := Lib.hid ((HCD.out.belowS hb9).belowS hb10)
              have HV10 := Lib.hid hv10
              have hbA := below_then (below_then hbD hb9) hb10
              have HB10 := Lib.hid (below_then2 HBQ.out hbA HBQ.out.size)
              obtain ⟨_, c0, c1, c2, f0, f1, f2⟩ := HC10.out
              clear hv10 hb10 hv9 hb9 hbD hbA
              (refine wpN.one 17 (by kernel_rfl) (by kernel_rfl) ?_; intro oi hoi K hK; simp only [List.getElem?_toArray, List.getElem?_cons_succ, List.getElem?_cons_zero, Option.some.injEq] at hoi; subst hoi)
              rw [if_pos (by rfl)]
              go_simp
              refine hK.out _ _ (fun h => by cases h) ?_
              clear hK K c0 c1 c2 f0 f1 f2
              refine wpN.done (by kernel_rfl) ?_ _
              go_wp2_with fail
              go_roundg (m - (q + 1))
              case measure => (have := HGQ.out; omega)
              case rel => exact ⟨q + 1, _, _, _, _, _, _, _, by omega, rfl, by go_num, HC10.out.set _ _ _, HV10.out.set3 HC10.out (fun z => by simp) (fun z => by simp) _ _ _, below_set3 HB10.out h1314 _ _ _⟩
            · obtain rfl : m = q := by omega
              obtain ⟨_, d0, d1, d2, _, _, _⟩ := id hc3
              have hfr5 := HFR.out.moves (Moves.below (B := w5.heap.size) hbq) (Nat.le_refl _)
              have hsz5 : w5.heap.size ≤ wq.heap.size := Nat.le_trans HBI.out.size hbq.size
              go_wp2_with (first
                | (at_builtin; refine hAP wq rfl _ _ rfl w5.heap.size _ u14 (rowL k (mulM m (rQ a) (rQ b) i)) rfl hfr5 _ _ _ _ hvq rfl hrl hsz5 ?_; intro v4' w50 ho50 hg50 hn50 hq50 sv50
                   have hg5 : Below w5.heap.size wq w50 := below_of_grown hg50 hsz5 (fun k hk => (hfr5.block k hk).1)
                   have HO50 := Lib.hid ho50))
              go_roundg (c - (k + 1))
              case measure => (have := HGK.out; omega)
              case rel => exact ⟨k + 1, by omega, rfl, by go_num, by rw [← rowL_snoc]; exact HO50.out, (below_then2 HBI.out hbq HBI.out.size).trans hg5⟩
        · obtain rfl : c = k := by omega
          obtain ⟨a11, l11, k11, rfl, _⟩ := id srow
          have hm5 := HM.out.below hbi
          have hra := hm5.ra
          have hsz5 := hm5.sz
          have hlen : rs.length ≤ 1000 := by rw [HRS.out]; omega
          have HM5 := Lib.hid hm5
          have HR5 : Hid (FrRow wb 30 w4.heap.size (.slice a11 l11 k11) (rowL c (mulM m (rQ a) (rQ b) rs.length))) := Lib.hid (by rw [HRS.out]; exact HFR.out.mono HB5.out.size)
          clear hm5
          go_wp2_with (first
            | (at_builtin; refine hAR _ rfl _ _ rfl w4.heap.size _ u12 rs rfl hra (.slice a11 l11 k11) rfl (fun z => by simp) rfl hlen hsz5 ?_; intro v5' w21 ho21 hg21 hn21 hq21 sv21
               have hG := HM5.out.push HR5.out ho21 hg21 hn21
               have HG5 := Lib.hid hG
               clear hG))
          go_roundg (n - (i + 1))
          case measure => (have := HG.out; omega)
          case rel => exact ⟨i + 1, _, by omega, rfl, by go_num, by rw [List.length_append, HRS.out]; rfl, HG5.out.1, (below_then2 HB5.out hbi HB5.out.size).trans HG5.out.2⟩
    · obtain rfl : n = i := by omega
      go_wp2_with fail
      go_ret2
      exact ⟨_, rfl, by have h := HM.out.mat; rw [HRS.out] at h; exact h, below_then2 HB4.out hbr HB4.out.size⟩
set_option maxRecDepth 100000 in
set_option maxHeartbeats 3200000 in
theorem r5mul_any (va vb : Value) (a b : List (List RF)) (w : World) (ha : MatN w va a) (hb : MatN w vb b) : Calls Try.prog 27 #[va, vb] w (RAnsM w (mulAns a b)) := by
  by_cases hok : mulP a b
  · by_cases hw : 3800 < wtsM a + wtsM b
    · have HANS : Hid (mulAns a b = ([], 2)) := Lib.hid (by unfold mulAns; rw [if_pos hok, if_pos hw])
      have HA := Lib.hid ha
      have HB := Lib.hid hb
      have HSA := Lib.hid hok.1
      have HSB := Lib.hid hok.2.1
      have hl1 := wtsM_lim hok.1
      have hl2 := wtsM_lim hok.2.1
      obtain ⟨n, hn⟩ : ∃ n, a.length = n := ⟨_, rfl⟩
      obtain ⟨m, hm⟩ : ∃ n, cols a = n := ⟨_, rfl⟩
      obtain ⟨c, hc⟩ : ∃ n, cols b = n := ⟨_, rfl⟩
      have hbm : b.length = m := by rw [← hm]; exact hok.2.2.symm
      have HN := Lib.hid (And.intro hn (And.intro hm (And.intro hbm hc)))
      obtain ⟨W1, hW1⟩ : ∃ W, wtsM a = W := ⟨_, rfl⟩
      obtain ⟨W2, hW2⟩ : ∃ W, wtsM b = W := ⟨_, rfl⟩
      rw [hW1, hW2] at hw
      rw [hW1] at hl1
      rw [hW2] at hl2
      have HW1 := Lib.hid hW1
      have HW2 := Lib.hid hW2
      have hwi : (3800 : Int) < (W1 : Int) + (W2 : Nat) := by omega
      clear ha hb hok hW1 hW2 hw hn hm hc hbm
      go_enter Try.func27, Try.ntmps27
      go_wp2_with (first
        | (go_at_call 53; first
           | ((with_reducible refine (rshape_ok va a n m _ HA.out HSA.out HN.out.1 HN.out.2.1).mono ?_); rintro e1 w1 ⟨rfl, hb1⟩)
           | ((with_reducible refine (rshape_ok vb b m c _ (HB.out.below hb1) HSB.out HN.out.2.2.1 HN.out.2.2.2).mono ?_); rintro e2 w2 ⟨rfl, hb2⟩
              have hB2 := below_then hb1 hb2))
        | (go_at_call 54; first
           | ((with_reducible refine (rweights_any va a _ (HA.out.below hB2) HSA.out).mono ?_); rw [HW1.out]; rintro e3 w3 ⟨rfl, hb3⟩
              have hB3 := below_then hB2 hb3)
           | ((with_reducible refine (rweights_any vb b _ (HB.out.below hB3) HSB.out).mono ?_); rw [HW2.out]; rintro e4 w4 ⟨rfl, hb4⟩)))
      go_ret2
      rw [HANS.out]
      exact ⟨_, rfl, MatC.nil _, below_then hB3 hb4⟩
    · refine (rmul_valid va vb a b _ _ _ w ha hb hok rfl rfl rfl (by omega)).mono ?_
      rintro e w' ⟨v, rfl, h1, h2⟩
      refine ⟨v, ?_, ?_, h2⟩
      · unfold mulAns; rw [if_pos hok, if_neg hw]; rfl
      · unfold mulAns; rw [if_pos hok, if_neg hw]; exact h1.matC
  · have HANS : Hid (mulAns a b = ([], 1)) := Lib.hid (by unfold mulAns; rw [if_neg hok])
    have HA := Lib.hid ha
    have HB := Lib.hid hb
    by_cases hsa : shapeP a
    · by_cases hsb : shapeP b
      · have hne : cols a ≠ b.length := fun e => hok ⟨hsa, hsb, e⟩
        obtain ⟨n, hn⟩ : ∃ n, a.length = n := ⟨_, rfl⟩
        obtain ⟨m, hm⟩ : ∃ n, cols a = n := ⟨_, rfl⟩
        obtain ⟨k, hk⟩ : ∃ n, b.length = n := ⟨_, rfl⟩
        obtain ⟨c, hc⟩ : ∃ n, cols b = n := ⟨_, rfl⟩
        rw [hm, hk] at hne
        have hne2 : ((m : Int) != (k : Int)) = true := by simp; omega
        have HN := Lib.hid (And.intro hn (And.intro hm (And.intro hk hc)))
        have HSA := Lib.hid hsa
        have HSB := Lib.hid hsb
        clear ha hb hok hsa hsb hne hn hm hk hc
        go_enter Try.func27, Try.ntmps27
        go_wp2_with (first
          | (go_at_call 53; first
             | ((with_reducible refine (rshape_ok va a n m _ HA.out HSA.out HN.out.1 HN.out.2.1).mono ?_); rintro e1 w1 ⟨rfl, hb1⟩)
             | ((with_reducible refine (rshape_ok vb b k c _ (HB.out.below hb1) HSB.out HN.out.2.2.1 HN.out.2.2.2).mono ?_); rintro e2 w2 ⟨rfl, hb2⟩
                have hB2 := below_then hb1 hb2)))
        go_ret2
        rw [HANS.out]
        exact ⟨_, rfl, MatC.nil _, hB2⟩
      · have HSA := Lib.hid hsa
        have HSB := Lib.hid hsb
        obtain ⟨n, hn⟩ : ∃ n, a.length = n := ⟨_, rfl⟩
        obtain ⟨m, hm⟩ : ∃ n, cols a = n := ⟨_, rfl⟩
        have HN := Lib.hid (And.intro hn hm)
        clear ha hb hok hsa hsb hn hm
        go_enter Try.func27, Try.ntmps27
        go_wp2_with (first
          | (go_at_call 53; first
             | ((with_reducible refine (rshape_ok va a n m _ HA.out HSA.out HN.out.1 HN.out.2).mono ?_); rintro e1 w1 ⟨rfl, hb1⟩)
             | ((with_reducible refine (rshape_no vb b _ (HB.out.below hb1) HSB.out).mono ?_); rintro e2 w2 ⟨rfl, hb2⟩
                have hB2 := below_then hb1 hb2)))
        go_ret2
        rw [HANS.out]
        exact ⟨_, rfl, MatC.nil _, hB2⟩
    · have HSA := Lib.hid hsa
      have hbs : ∃ p q t, ∀ w0, MatN w0 vb b → Calls Try.prog 53 #[vb] w0 fun e w' => e = .returned (.tuple #[.int .i64 (p : Nat), .int .i64 (q : Nat), .bool t]) ∧ Below w0.heap.size w0 w' := by
        by_cases hsb : shapeP b
        · exact ⟨_, _, true, fun w0 h => rshape_ok vb b _ _ w0 h hsb rfl rfl⟩
        · exact ⟨0, 0, false, fun w0 h => rshape_no vb b w0 h hsb⟩
      obtain ⟨p, q, t, hsh⟩ := hbs
      clear ha hb hok hsa
      go_enter Try.func27, Try.ntmps27
      go_wp2_with (first
        | (go_at_call 53; first
           | ((with_reducible refine (rshape_no va a _ HA.out HSA.out).mono ?_); rintro e1 w1 ⟨rfl, hb1⟩)
           | ((with_reducible refine (hsh _ (HB.out.below hb1)).mono ?_); rintro e2 w2 ⟨rfl, hb2⟩
              have hB2 := below_then hb1 hb2)))
      go_ret2
      rw [HANS.out]
      exact ⟨_, rfl, MatC.nil _, hB2⟩
end Go.Proofs.Ytbhkibilnmoljaa
