/-
  package lump: Coarsest.
  Ahead of it: The coarsest lumping: the plain law. No program is named here.
-/
import Derived.Test.YtoldfpkafcefnaaQLu10
import Derived.Test.YtoldfpkafcefnaaQLu9
import Derived.Deep.LoopGhost
namespace Go.Proofs.Ytoldfpkafcefnaa
set_option linter.unusedVariables false

theorem okB_has {l : List Int} (h : okB l) (k : Nat) : ∀ b : Nat, b < cnt (l.take k) → ∃ j, j < k ∧ l[j]? = some (b : Int) := by
  induction k with
  | zero => intro b hb; simp [cnt] at hb
  | succ k ih =>
    intro b hb
    by_cases hk : k < l.length
    · have hc := cnt_take l k hk
      by_cases h1 : l[k] = (cnt (l.take k) : Int)
      · rw [if_pos h1] at hc
        by_cases h2 : b = cnt (l.take k)
        · exact ⟨k, by omega, by rw [List.getElem?_eq_getElem hk, h1, h2]⟩
        · obtain ⟨j, h3, h4⟩ := ih b (by omega)
          exact ⟨j, by omega, h4⟩
      · rw [if_neg h1] at hc
        obtain ⟨j, h3, h4⟩ := ih b (by omega)
        exact ⟨j, by omega, h4⟩
    · rw [List.take_of_length_le (by omega)] at hb
      have h5 : cnt l = cnt (l.take k) := by rw [List.take_of_length_le (by omega)]
      obtain ⟨j, h3, h4⟩ := ih b (by omega)
      exact ⟨j, by omega, h4⟩
theorem okB_new {l : List Int} (h : okB l) {j k : Nat} {b : Int} (hj : l[j]? = some b) (hjk : j < k) : b < (cnt (l.take k) : Int) := by
  obtain ⟨h1, h2⟩ := h j b hj
  obtain ⟨h3, h4⟩ := List.getElem?_eq_some_iff.1 hj
  have h5 := cnt_take l j h3
  have h6 := cnt_take_mono l (show j + 1 ≤ k by omega)
  split at h5 <;> omega
theorem SplitP.mono {bl nx : List Int} {f : Nat → List Rat} (h : SplitP bl f nx) (hok : okB bl) (k : Nat) : cnt (bl.take k) ≤ cnt (nx.take k) := by
  obtain ⟨h1, h2, h3⟩ := h
  induction k with
  | zero => exact Nat.le_refl _
  | succ k ih =>
    by_cases hk : k < bl.length
    · have hk2 : k < nx.length := by omega
      have hc := cnt_take bl k hk
      have hd := cnt_take nx k hk2
      by_cases h4 : bl[k] = (cnt (bl.take k) : Int)
      · rw [if_pos h4] at hc
        by_cases h5 : nx[k] = (cnt (nx.take k) : Int)
        · rw [if_pos h5] at hd; omega
        · exfalso
          obtain ⟨h6, h7⟩ := h1 k _ (List.getElem?_eq_getElem hk2)
          obtain ⟨b, hb⟩ : ∃ b : Nat, nx[k] = (b : Int) := ⟨nx[k].toNat, by omega⟩
          obtain ⟨j, h8, h9⟩ := okB_has h1 k b (by omega)
          have hj : j < bl.length := by omega
          have h10 := (h3 j k _ _ (List.getElem?_eq_getElem hj) (List.getElem?_eq_getElem hk)).1 (by rw [h9, List.getElem?_eq_getElem hk2, hb])
          have h11 := okB_new hok (List.getElem?_eq_getElem hj) h8
          rw [h10.1] at h11
          omega
      · rw [if_neg h4] at hc
        have := cnt_take_le nx k
        omega
    · rw [List.take_of_length_le (by omega), List.take_of_length_le (by omega)]
      rw [List.take_of_length_le (by omega), List.take_of_length_le (by omega)] at ih
      exact ih
theorem SplitP.cnt_le {bl nx : List Int} {f : Nat → List Rat} (h : SplitP bl f nx) (hok : okB bl) : cnt bl ≤ cnt nx := by
  have := h.mono hok bl.length
  rw [List.take_length, List.take_of_length_le (by have := h.2.1; omega)] at this
  exact this
/-- The first partition: lost, or not. -/
def lostB (c : RC) : List Int := c.lost.map (fun x => if x = c.lost.getD 0 false then 0 else 1)
theorem okB_two {l : List Int} (h0 : l[0]? = some 0) (h : ∀ x ∈ l, x = 0 ∨ x = 1) : okB l := by
  intro k b hk
  have hm := h b (List.mem_of_getElem? hk)
  have hk1 := (List.getElem?_eq_some_iff.1 hk).1
  cases k with
  | zero =>
    rw [h0] at hk
    injection hk with hk
    subst hk
    simp
  | succ k =>
    have h1 := cnt_take_mono l (show 1 ≤ k + 1 by omega)
    have h2 := cnt_take l 0 (by omega)
    have h3 : l[0]'(by omega) = 0 := by rw [List.getElem?_eq_getElem (by omega)] at h0; injection h0
    rw [if_pos (by rw [h3]; rfl)] at h2
    have h4 : cnt (l.take 0) = 0 := rfl
    rw [h4] at h2
    have h5 : cnt (l.take 1) = 1 := h2
    omega
theorem lostB_ok {c : RC} (h : 0 < c.lost.length) : okB (lostB c) := by
  refine okB_two ?_ (fun x hx => ?_)
  · simp [lostB, List.getElem?_map, List.getElem?_eq_getElem h, List.getD]
  · obtain ⟨y, _, rfl⟩ := List.mem_map.1 hx
    split
    · exact Or.inl rfl
    · exact Or.inr rfl
/-- The sums of state i over the blocks. -/
def sumF (c : RC) (bl : List Int) : Nat → List Rat := fun i => bsums bl (rowsQ c i) (cnt bl)
/-- The partitions on the way. -/
inductive Refs (c : RC) : List Int → Prop
  | zero : Refs c (lostB c)
  | step {bl nx : List Int} : Refs c bl → SplitP bl (sumF c bl) nx → Refs c nx
/-- What Coarsest returns. -/
def CoarseP (c : RC) (nx : List Int) : Prop := ∃ bl, Refs c bl ∧ SplitP bl (sumF c bl) nx ∧ cnt nx = cnt bl
theorem Refs.ok {c : RC} {bl : List Int} (h : Refs c bl) (hn : 0 < c.lost.length) : okB bl ∧ bl.length = c.lost.length := by
  induction h with
  | zero => exact ⟨lostB_ok hn, by simp [lostB]⟩
  | step _ h2 ih => exact ⟨h2.1, h2.2.1.trans ih.2⟩
end Go.Proofs.Ytoldfpkafcefnaa
namespace Go.Proofs.Ytoldfpkafcefnaa
set_option linter.unusedVariables false
set_option linter.unusedSimpArgs false
open Go.RowKit

def RCoarse (w0 : World) (c : RC) (e : Ending) (w : World) : Prop :=
  (¬ validP c → e = .returned (.tuple #[.slice none 0 0, .int .i64 1])) ∧ (validP c → ∃ v nx, e = .returned (.tuple #[v, .int .i64 0]) ∧ IntsV w v nx ∧ CoarseP c nx) ∧ Below w0.heap.size w0 w
set_option maxRecDepth 100000 in
set_option maxHeartbeats 3200000 in
theorem coarse_bad (va : Value) (c : RC) (w : World) (ha : ChainN w va c) (hv : ¬ validP c) : Calls Try.prog 18 #[va] w (RCoarse w c) := by
  obtain ⟨rv, sv, lv, rfl, hr, hs, hl⟩ := id ha
  obtain ⟨ra, rn, rk, rfl, r1, r2, r3⟩ := id hr.sl
  obtain ⟨sa, sn, sk, rfl, s1, s2, s3⟩ := id hs.sl
  obtain ⟨la, ln, lk, rfl, l1, l2, l3⟩ := id (CellsV.sl hl)
  have hbx := below_alloc w (.cells #[.slice ra rn rk, .slice sa sn sk, .slice la ln lk] 27)
  have hC := C3.new w 27 (.slice ra rn rk) (.slice sa sn sk) (.slice la ln lk)
  have HA := Lib.hid (ha.below hbx)
  have HV := Lib.hid hv
  obtain ⟨_, c0, c1, c2, _, _, _⟩ := id hC
  clear hC hr hs hl ha hv
  go_enter Try.func18, Try.ntmps18
  go_wp2_with (go_at_call 35; (with_reducible refine (valid_chain _ c _ HA.out).mono ?_); rintro e2 w2 ⟨⟨b2, rfl, hv2⟩, hbel2⟩; obtain rfl : b2 = false := Bool.eq_false_iff.2 (fun h => HV.out (hv2.1 h)); clear hv2)
  go_ret2
  exact ⟨fun _ => rfl, fun h => absurd h HV.out, below_then hbx hbel2⟩
theorem lostB_take (c : RC) (k : Nat) (h : k < c.lost.length) : (lostB c).take (k + 1) = (lostB c).take k ++ [if c.lost[k] = c.lost.getD 0 false then 0 else 1] := by
  have hk : k < (lostB c).length := by simp [lostB]; exact h
  rw [take_snoc _ k hk]
  simp [lostB]
theorem lost_same (c : RC) (k : Nat) (h : k < c.lost.length) (he : c.lost[k] = c.lost.getD 0 false) :
    ((lostB c).take k ++ List.replicate (c.lost.length - k) 0).map (Value.int .i64) = ((lostB c).take (k + 1) ++ List.replicate (c.lost.length - (k + 1)) 0).map (Value.int .i64) := by
  rw [lostB_take c k h, if_pos he, show c.lost.length - k = (c.lost.length - (k + 1)) + 1 from by omega, List.replicate_succ, List.append_assoc]
  rfl
theorem lost_diff (c : RC) (k : Nat) (h : k < c.lost.length) (he : c.lost[k] ≠ c.lost.getD 0 false) :
    (((lostB c).take k ++ List.replicate (c.lost.length - k) 0).map (Value.int .i64)).set k (.int .i64 1) = ((lostB c).take (k + 1) ++ List.replicate (c.lost.length - (k + 1)) 0).map (Value.int .i64) := by
  rw [lostB_take c k h, if_neg he]
  exact set_next _ k c.lost.length 1 (by rw [List.length_take]; simp [lostB]; omega) h
set_option maxRecDepth 100000 in
set_option maxHeartbeats 3200000 in
theorem coarse_good (va : Value) (c : RC) (w : World) (ha : ChainN w va c) (hv : validP c) : Calls Try.prog 18 #[va] w (RCoarse w c) := by
  obtain ⟨i1, hi1, hz1, hs1, hy1⟩ := info_parts Try.infoInt
  have hM1 := make_E (P := Try.prog) 28 3 i1 _ 8 Try.underlying28 hi1 hz1 hs1 hy1 (by decide) rfl
  clear hi1 hz1 hs1 hy1
  obtain ⟨rv, sv, lv, rfl, hr, hs, hl⟩ := id ha
  obtain ⟨ra, rn, rk, rfl, r1, r2, r3⟩ := id hr.sl
  obtain ⟨sa, sn, sk, rfl, s1, s2, s3⟩ := id hs.sl
  obtain ⟨la, ln, lk, rfl, l1, l2, l3⟩ := id (CellsV.sl hl)
  have hsn : sn = c.lost.length := by have h1 : sn = c.start.length := hs.len; rw [h1]; exact hv.2.2.1.symm
  subst hsn
  have hln : ln = c.lost.length := hl.len
  subst hln
  have hn1 : 0 < c.lost.length := by have h1 := hv.1; have h2 := hv.2.2.1; omega
  have hn2 : c.lost.length ≤ 128 := by have h1 := hv.2.1; have h2 := hv.2.2.1; omega
  have hbx := below_alloc w (.cells #[.slice ra rn rk, .slice sa c.lost.length sk, .slice la c.lost.length lk] 27)
  have hC := C3.new w 27 (.slice ra rn rk) (.slice sa c.lost.length sk) (.slice la c.lost.length lk)
  have HA := Lib.hid (ha.below hbx)
  have hl2 := hl.below hbx
  have HV := Lib.hid hv
  have HLS : Hid (c.lost.length = c.start.length) := Lib.hid hv.2.2.1
  have HC := Lib.hid hC
  obtain ⟨_, c0, c1, c2, _, _, _⟩ := id hC
  have sl3 : IsSl (.slice la c.lost.length lk) := CellsV.sl hl
  clear hC hr hs hl ha hv
  go_enter Try.func18, Try.ntmps18
  go_wp2_with (first
    | (go_at_call 35; (with_reducible refine (valid_chain _ c _ HA.out).mono ?_); rintro e2 w2 ⟨⟨b2, rfl, hv2⟩, hbel2⟩; obtain rfl : b2 = true := hv2.2 HV.out; clear hv2
       obtain ⟨_, c0, c1, c2, _, _, _⟩ := HC.out.belowS hbel2)
    | (refine hM1 _ rfl _ _ rfl c.lost.length rfl rfl (by omega) ?_; intro v4 w4 hown4 hbel4; have s4 := hown4.sl; have l4 : slen v4 = c.lost.length := by rw [hown4.len, List.length_replicate]))
  have hB4 := below_then hbel2 hbel4
  go_loopw [19] (fun u19 wr => ∃ (k : Nat), k ≤ c.lost.length ∧ u19 = .int .i64 k ∧ OwnE wr 3 w2.heap.size v4 (((lostB c).take k ++ List.replicate (c.lost.length - k) 0).map (Value.int .i64)) ∧ Below w2.heap.size w2 wr) (fun u19 _ => c.lost.length - (intOf u19).toNat)
  case atStart => exact ⟨0, Nat.zero_le _, rfl, by rw [List.take_zero, List.nil_append, List.map_replicate]; exact hown4, hbel4⟩
  case round =>
    obtain ⟨k, hk, rfl, ho, hbr⟩ := hrel
    have hbr2 := below_then hbel2 hbr
    have HO := Lib.hid ho
    obtain ⟨_, c0, c1, c2, _, _, _⟩ := HC.out.belowS hbr2
    by_cases hkl : k < c.lost.length
    · have hlk := (hl2.below hbr2).at' k hkl
      have hl0 := (hl2.below hbr2).at' 0 hn1
      have HE := Lib.hid (lost_same c k hkl)
      have HD := Lib.hid (lost_diff c k hkl)
      have HG0 : Hid (c.lost.getD 0 false = c.lost[0]'hn1) := Lib.hid (by simp [List.getD, List.getElem?_eq_getElem hn1])
      have hk9 : k < (((lostB c).take k ++ List.replicate (c.lost.length - k) 0).map (Value.int .i64)).length := by rw [List.length_map, List.length_append, List.length_replicate, List.length_take]; simp [lostB]; omega
      have hc9 := ho.cell k hk9
      have hf9 := ho.frozen k hk9
      have HK9 := Lib.hid hk9
      generalize hm1 : c.lost[k]'hkl = m1 at *
      generalize hm2 : c.lost[0]'hn1 = m2 at *
      have HM1 := Lib.hid hm1
      have HM2 := Lib.hid hm2
      have i1 : (0 : Int) ≤ (k : Int) := by omega
      have i2 : (k : Int) < (c.lost.length : Nat) := by omega
      have i3 : (0 : Int) < (c.lost.length : Nat) := by omega
      clear hm1 hm2 ho
      by_cases hmm : m1 = m2
      · have hb : (m1 != m2) = false := by simp [hmm]
        have hbq : (m1 == m2) = true := by simp [hmm]
        have HMM := Lib.hid hmm
        clear hmm
        go_wp2_with fail
        go_quiet (fail)
        have hbd := below_then hbr (below_drewN (B := wr.heap.size) wr nq)
        have HO2 : Hid (OwnE (wr.drewN nq) 3 w2.heap.size v4 (((lostB c).take (k + 1) ++ List.replicate (c.lost.length - (k + 1)) 0).map (Value.int .i64))) := Lib.hid (by
          rw [← HE.out (by rw [HMM.out, HG0.out])]; exact HO.out.below (below_drewN wr nq))
        clear hc9 hf9
        go_wp2_with fail
        go_roundw
        case rel => exact ⟨k + 1, by omega, by go_num, HO2.out, hbd⟩
        case measure => simp [intOf]; omega
      · have hb : (m1 != m2) = true := by simpa using hmm
        have hbq : (m1 == m2) = false := by simpa using hmm
        have HMM := Lib.hid hmm
        clear hmm
        go_wp2_with fail
        go_quiet (fail)
        have hbd := below_then hbr (below_drewN (B := wr.heap.size) wr nq)
        have hcD := cell_below (below_drewN (B := wr.heap.size) wr nq) hc9
        have hfD : (wr.drewN nq).frozen? (ptr v4 k) = false := ((HO.out.below (below_drewN wr nq)).frozen k HK9.out)
        clear hc9 hf9
        go_wp2_with fail
        have hset := (HO.out.below (below_drewN wr nq)).set k HK9.out (.int .i64 1)
        rw [HD.out (by rw [HG0.out]; exact HMM.out)] at hset
        have HSET := Lib.hid hset
        clear hset
        go_roundw
        case rel => exact ⟨k + 1, by omega, by go_num, HSET.out.1, hbd.trans HSET.out.2⟩
        case measure => simp [intOf]; omega
    · obtain rfl : k = c.lost.length := by omega
      have ho2 := ho
      rw [Nat.sub_self, List.replicate_zero, List.append_nil, List.take_of_length_le (by simp [lostB])] at ho2
      have HI0 : Hid (IntsV wr v4 (lostB c)) := Lib.hid ⟨ho2.sl, ho2.len, fun j hj => ho2.cell j hj⟩
      have HA2 := Lib.hid (HA.out.below hbr2)
      have hb3 := below_then hbx hbr2
      clear ho ho2 hown4 HO c0 c1 c2
      go_wp2_with fail
      go_loopg [4] (c.lost.length - cnt (lostB c)) (fun g u4 wi => ∃ bl, Refs c bl ∧ IntsV wi u4 bl ∧ g = c.lost.length - cnt bl ∧ Below wr.heap.size wr wi)
      case atStart => exact ⟨lostB c, Refs.zero, HI0.out, rfl, Below.refl _ _⟩
      case round =>
        obtain ⟨bl, hRf, hIn, hg, hbi⟩ := hrel
        obtain ⟨hok, hbl⟩ := hRf.ok hn1
        have HRF := Lib.hid hRf
        have HOK := Lib.hid hok
        have HIN := Lib.hid hIn
        have HBL := Lib.hid hbl
        have hcb : cnt bl ≤ c.lost.length := by have := cnt_le bl bl.length; rw [List.take_length] at this; omega
        have hp0 : 0 < bl.length := by omega
        have hbi2 := below_then hbr2 hbi
        obtain ⟨_, c0, c1, c2, _, _, _⟩ := HC.out.belowS hbi2
        clear hRf hok hIn hbl
        go_wp2_with (first
          | (go_at_call 32; (with_reducible refine (count_any _ bl _ HIN.out).mono ?_); rintro e5 w5 ⟨n5, b5, rfl, rfl, hc5, _⟩; obtain ⟨hn5, hb5⟩ := hc5 HOK.out; subst hn5; clear hc5 hb5)
          | (go_at_call 39; (with_reducible refine (split_any _ _ c bl _ _ (HA2.out.below hbi) HIN.out HOK.out (by rw [HBL.out]; exact HLS.out) HV.out rfl).mono ?_); rintro e6 w6 ⟨v6, nx, rfl, hsp, ho6, hbel6⟩
             have hle := hsp.cnt_le HOK.out
             have HSP := Lib.hid hsp
             have HIX : Hid (IntsV w6 v6 nx) := Lib.hid ⟨ho6.sl, ho6.len, fun j hj => ho6.cell j hj⟩
             clear hsp ho6))
        · rename_i heq
          have heq2 : cnt nx = cnt bl := by have := eq_of_beq heq; omega
          have HEQ := Lib.hid heq2
          clear heq heq2
          go_ret2
          exact ⟨fun h => absurd HV.out h, fun _ => ⟨v6, nx, rfl, HIX.out, bl, HRF.out, HSP.out, HEQ.out⟩, below_then (below_then hb3 hbi) hbel6⟩
        · rename_i heq
          have heq2 : cnt nx ≠ cnt bl := fun h => by rw [h] at heq; simp at heq
          have hcn : cnt nx ≤ c.lost.length := by
            have h1 := cnt_le nx nx.length
            rw [List.take_length] at h1
            have h2 := HSP.out.2.1
            have h3 := HBL.out
            omega
          have HNE := Lib.hid heq2
          clear heq
          go_roundg (c.lost.length - cnt nx)
          case measure => omega
          case rel => exact ⟨nx, Refs.step HRF.out HSP.out, HIX.out, rfl, below_then hbi hbel6⟩
theorem coarse_any (va : Value) (c : RC) (w : World) (ha : ChainN w va c) : Calls Try.prog 18 #[va] w (RCoarse w c) := by
  by_cases h : validP c
  · exact coarse_good va c w ha h
  · exact coarse_bad va c w ha h
end Go.Proofs.Ytoldfpkafcefnaa
