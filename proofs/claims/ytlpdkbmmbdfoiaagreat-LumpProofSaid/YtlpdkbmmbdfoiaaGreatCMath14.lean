/-
  Splitting a partition: the plain law. No program is named here.
  Ahead of it: package lump: Check, the members. package lump: Check, the members' loop. package lump: split's test of a class, and the search for one.
-/
import Derived.Test.YtlpdkbmmbdfoiaaGreatCMath13
import Derived.Lib.SliceRun
namespace Go.Proofs.YtlpdkbmmbdfoiaaGreat
set_option linter.unusedVariables false
set_option linter.unusedSimpArgs false
open Go.RowKit

/-- make([]T, n), T of one cell, for a walk. -/
theorem make_E {P : Program} (t e : TypeId) (i : TypeInfo) (z : Value) (by' : Nat) (h1 : P.underlying t = some (.slice e)) (h2 : P.info? e = some i) (h3 : i.zero = some z) (h4 : i.size = 1) (h5 : i.bytes = by') (hby : by' ≤ 32) (hz : z.cells = #[z])
    (w : World) {ops : Array Oper} {rest : List Oper} {o : Oper} {a : Act} {Q : Exit → Act → World → Prop} (hg : o.guard = none) (l c : Operand) (hop : o.op = Op.makeSlice t l c)
    (n : Nat) (hl : a.eval l = .int .i64 n) (hc : a.eval c = .int .i64 n) (hn : n ≤ 128)
    (hK : ∀ v w', OwnE w' e w.heap.size v (List.replicate n z) → Below w.heap.size w w' → wpList P ops Q rest (a.put o.dst v) w') :
    wpList P ops Q (o :: rest) a w :=
  wpList_make_E w hg l c t hop w.heap.size e i z h1 h2 h3 h4 hz n hl hc (by rw [h5]; exact Nat.le_trans (Nat.mul_le_mul hby hn) (by decide)) (by simp [maxLen]; omega) (Nat.le_refl _) (fun v w' h6 h7 _ => hK v w' h6 h7)
/-- A store over a cell of another block that is no limb. -/
theorem FracsC.over {w : World} {r : Value} {q : List Rat} {p : Addr} {x u : Value} (h : FracsC w r q) (hp : p.block ≠ (base r).block) (hc : w.cell? p = some x) (hx : ∀ z, x ≠ .int .u32 z) : FracsC (w.setCell p u) r q :=
  ⟨h.sl, h.len, fun j hj => by
    obtain ⟨a, b, h1, h2, h3, h4, h5⟩ := h.at' j hj
    have hne : ∀ k, p ≠ ptr r k := fun k e => hp (by rw [e]; exact ptr_block r k)
    exact ⟨a, b, by rw [World.cell?_setCell_other _ _ _ _ (hne _)]; exact h1, by rw [World.cell?_setCell_other _ _ _ _ (hne _)]; exact h2, by rw [World.cell?_setCell_other _ _ _ _ (hne _)]; exact h3, ⟨h4.1.over hc hx u, h4.2⟩, ⟨h5.1.over hc hx u, h5.2⟩⟩⟩
theorem cnt_pos {bl : List Int} (hok : okB bl) (h0 : 0 < bl.length) : 0 < cnt bl := by
  have h := hok.lt (List.getElem?_eq_getElem h0)
  omega
/-- The loop of Check: the first members' sums and marks. -/
def ChkI (c : RC) (bl : List Int) (tF tB : TypeId) (B3 B4 B5 : Nat) (v3 v4 : Value) (k : Nat) (rep : Nat → Nat) (es : List Value) (fs : List Bool) (wr : World) : Prop :=
  Heads bl (fun i => bsums bl (rowsQ c i) (cnt bl)) (fun i => c.lost.getD i false) k rep ∧ OwnE wr tF B3 v3 es ∧ es.length = cnt bl ∧ OwnE wr tB B4 v4 (fs.map Value.bool) ∧ fs.length = cnt bl ∧
  (∀ b, b < cnt (bl.take k) → ∃ a n kk, es[b]? = some (.slice (some a) n kk) ∧ FracsC wr (.slice (some a) n kk) (bsums bl (rowsQ c (rep b)) (cnt bl)) ∧ B5 ≤ a.block ∧ fs[b]? = some (c.lost.getD (rep b) false)) ∧
  (∀ b, cnt (bl.take k) ≤ b → b < cnt bl → es[b]? = some (.slice none 0 0))
theorem ChkI.start {c : RC} {bl : List Int} {tF tB : TypeId} {B3 B4 : Nat} (B5 : Nat) {v3 v4 : Value} {w : World} (h3 : OwnE w tF B3 v3 (List.replicate (cnt bl) (.slice none 0 0))) (h4 : OwnE w tB B4 v4 (List.replicate (cnt bl) (.bool false))) :
    ChkI c bl tF tB B3 B4 B5 v3 v4 0 (fun _ => 0) (List.replicate (cnt bl) (.slice none 0 0)) (List.replicate (cnt bl) false) w := by
  refine ⟨Heads.zero _ _ _, h3, by simp, by rw [List.map_replicate]; exact h4, by simp, fun b hb => ?_, fun b _ hb => ?_⟩
  · simp [cnt_nil] at hb
  · rw [List.getElem?_replicate, if_pos hb]
theorem ChkI.below {c : RC} {bl : List Int} {tF tB : TypeId} {B3 B4 B5 : Nat} {v3 v4 : Value} {k : Nat} {rep : Nat → Nat} {es : List Value} {fs : List Bool} {wr w5 : World}
    (h : ChkI c bl tF tB B3 B4 B5 v3 v4 k rep es fs wr) (hb : Below wr.heap.size wr w5) : ChkI c bl tF tB B3 B4 B5 v3 v4 k rep es fs w5 := by
  obtain ⟨hH, h3, hel, h4, hfl, hseen, hnew⟩ := h
  refine ⟨hH, h3.below hb, hel, h4.below hb, hfl, fun b hb' => ?_, hnew⟩
  obtain ⟨a, n, kk, q1, q2, q3, q4⟩ := hseen b hb'
  exact ⟨a, n, kk, q1, q2.below hb, q3, q4⟩
theorem ChkI.fresh {c : RC} {bl : List Int} {tF tB tE : TypeId} {B3 B4 B5 : Nat} {v3 v4 : Value} {k : Nat} {rep : Nat → Nat} {es : List Value} {fs : List Bool} {w5 : World}
    (h : ChkI c bl tF tB B3 B4 B5 v3 v4 k rep es fs w5) (hok : okB bl) {b : Nat} (hk : bl[k]? = some (b : Int)) (hb : b = cnt (bl.take k)) (h34 : (ptr v3 b).block ≠ (base v4).block)
    (hv3 : (base v3).block < B5) (hv4 : (base v4).block < B5) {g5 n : Nat} {row : List Rat} {BB : Nat} (how : OwnFr w5 tE BB (.slice (some ⟨g5, 0, none⟩) n n) n) (hBB : B5 ≤ BB) (hn : n = cnt bl)
    (hel : ∀ j, j < n → ElemC w5 (.slice (some ⟨g5, 0, none⟩) n n) j (bsum bl row j)) (hrq : rowsQ c k = row) (x : Bool) (hx : x = c.lost.getD k false) :
    ChkI c bl tF tB B3 B4 B5 v3 v4 (k + 1) (fun a => if a = cnt (bl.take k) then k else rep a) (es.set b (.slice (some ⟨g5, 0, none⟩) n n)) (fs.set b x)
      ((w5.setCell (ptr v3 b) (.slice (some ⟨g5, 0, none⟩) n n)).setCell (ptr v4 b) (.bool x)) ∧ (B3 ≤ B4 → Below B3 w5 ((w5.setCell (ptr v3 b) (.slice (some ⟨g5, 0, none⟩) n n)).setCell (ptr v4 b) (.bool x))) := by
  obtain ⟨hH, h3, hel3, h4, hfl, hseen, hnew⟩ := h
  obtain ⟨hk1, hk2⟩ := List.getElem?_eq_some_iff.1 hk
  have hbc := hok.lt hk
  have hbc2 : b < cnt bl := by omega
  have hbes : b < es.length := by omega
  have hbfs : b < (fs.map Value.bool).length := by rw [List.length_map]; omega
  have hct := cnt_take bl k hk1
  rw [if_pos (by rw [hk2, hb])] at hct
  have hE : es[b]'hbes = .slice none 0 0 := by
    have := hnew b (by omega) hbc2
    rw [List.getElem?_eq_getElem hbes] at this
    injection this
  have hc3 := h3.cell b hbes
  rw [hE] at hc3
  have s3 := h3.set b hbes (.slice (some ⟨g5, 0, none⟩) n n)
  have h4' := h4.other (ptr v3 b) (.slice (some ⟨g5, 0, none⟩) n n) h34
  have hc4 := h4'.cell b hbfs
  have hc4' : ((w5.setCell (ptr v3 b) (.slice (some ⟨g5, 0, none⟩) n n))).cell? (ptr v4 b) = some (.bool (fs[b]'(by omega))) := by rw [hc4]; simp
  have s4 := h4'.set b hbfs (.bool x)
  have h43 : (ptr v4 b).block ≠ (base v3).block := by rw [ptr_block]; rw [ptr_block] at h34; exact fun e => h34 e.symm
  have h3' := s3.1.other (ptr v4 b) (.bool x) h43
  have hover : ∀ (r : Value) (q : List Rat), B5 ≤ (base r).block → FracsC w5 r q → FracsC ((w5.setCell (ptr v3 b) (.slice (some ⟨g5, 0, none⟩) n n)).setCell (ptr v4 b) (.bool x)) r q := fun r q hr hq => by
    have q1 := hq.over (p := ptr v3 b) (u := .slice (some ⟨g5, 0, none⟩) n n) (by rw [ptr_block]; omega) hc3 (fun z => by simp)
    exact q1.over (p := ptr v4 b) (u := .bool x) (by rw [ptr_block]; omega) hc4' (fun z => by simp)
  have hb4 := h4.block (by omega)
  refine ⟨⟨hH.fresh hok (by rw [hk, hb]), h3', by rw [List.length_set]; exact hel3, by rw [List.map_set]; exact s4.1, by rw [List.length_set]; exact hfl, fun a ha => ?_, fun a ha ha2 => ?_⟩, fun h34' => s3.2.trans (s4.2.mono h34')⟩
  · rw [hct] at ha
    by_cases h1 : a = cnt (bl.take k)
    · simp only [h1, if_true]
      rw [← hb]
      refine ⟨⟨g5, 0, none⟩, n, n, by rw [List.getElem?_set_self hbes], hover _ _ (by have := how.block; omega) (how.fracs (by rw [bsums_length]; exact hn.symm) (fun j hj => ?_)), by have := how.block; simp only [base] at this; show B5 ≤ g5; omega, by rw [List.getElem?_set_self (by omega), hx]⟩
      rw [bsums_length] at hj
      rw [bsums_get _ _ _ _ hj, hrq]
      exact hel j (by omega)
    · simp only [if_neg h1]
      obtain ⟨p, m, kk, q1, q2, q3, q4⟩ := hseen a (by omega)
      refine ⟨p, m, kk, by rw [List.getElem?_set_ne (by omega)]; exact q1, hover _ _ (by simpa [base] using q3) q2, q3, by rw [List.getElem?_set_ne (by omega)]; exact q4⟩
  · rw [hct] at ha
    rw [List.getElem?_set_ne (by omega)]
    exact hnew a (by omega) ha2
theorem ChkI.old {c : RC} {bl : List Int} {tF tB : TypeId} {B3 B4 B5 : Nat} {v3 v4 : Value} {k : Nat} {rep : Nat → Nat} {es : List Value} {fs : List Bool} {w5 : World}
    (h : ChkI c bl tF tB B3 B4 B5 v3 v4 k rep es fs w5) {b : Nat} (hk : bl[k]? = some (b : Int)) (hb : b < cnt (bl.take k)) (h1 : c.lost.getD k false = c.lost.getD (rep b) false)
    (h2 : alikeQ b (bsums bl (rowsQ c k) (cnt bl)) (bsums bl (rowsQ c (rep b)) (cnt bl))) : ChkI c bl tF tB B3 B4 B5 v3 v4 (k + 1) rep es fs w5 := by
  obtain ⟨hH, h3, hel, h4, hfl, hseen, hnew⟩ := h
  obtain ⟨hk1, hk2⟩ := List.getElem?_eq_some_iff.1 hk
  have hc := cnt_take bl k hk1
  rw [if_neg (by rw [hk2]; omega)] at hc
  refine ⟨hH.old hk hb h1 h2, h3, hel, h4, hfl, fun a ha => hseen a (by omega), fun a ha => hnew a (by omega)⟩
end Go.Proofs.YtlpdkbmmbdfoiaaGreat
namespace Go.Proofs.YtlpdkbmmbdfoiaaGreat
set_option linter.unusedVariables false
set_option linter.unusedSimpArgs false
open Go.RowKit

set_option maxRecDepth 100000 in
set_option maxHeartbeats 3200000 in
theorem check_main (va vb : Value) (c : RC) (bl : List Int) (w : World) (ha : ChainN w va c) (hb : IntsV w vb bl) (hok : okB bl) (h0 : 0 < bl.length) (hlen : bl.length = c.start.length) (hv : validP c) :
    Calls Tryz.prog 64 #[va, vb] w (RSame w (allAgree bl (fun i => bsums bl (rowsQ c i) (cnt bl)) (fun i => c.lost.getD i false))) := by
  obtain ⟨i1, hi1, hz1, hs1, hy1⟩ := info_parts Tryz.infoRow
  have hM1 := make_E (P := Tryz.prog) 24 25 i1 _ 24 Tryz.underlying24 hi1 hz1 hs1 hy1 (by decide) rfl
  obtain ⟨i2, hi2, hz2, hs2, hy2⟩ := info_parts Tryz.infoBool
  have hM2 := make_E (P := Tryz.prog) 26 4 i2 _ 1 Tryz.underlying26 hi2 hz2 hs2 hy2 (by decide) rfl
  clear hi1 hz1 hs1 hy1 hi2 hz2 hs2 hy2
  have hEQ : ∀ (w : World) (a : Option Addr) (n c : Nat), (binOp .eql 25 (.slice a n c) (.slice none 0 0)).run Tryz.prog w = .ok (.bool a.isNone) w := fun w a n c => by
    rw [Lib.run_eql_slice_nil w 25 38 a n c 0 0 Tryz.underlying25]
  obtain ⟨rv, sv, lv, rfl, hr, hs, hl⟩ := id ha
  obtain ⟨ra, rn, rk, rfl, r1, r2, r3⟩ := id hr.sl
  obtain ⟨sa, sn, sk, rfl, s1, s2, s3⟩ := id hs.sl
  obtain ⟨la, ln, lk, rfl, l1, l2, l3⟩ := id (CellsV.sl hl)
  have hsl : sn = c.start.length := hs.len
  subst hsl
  have hln : ln = c.lost.length := hl.len
  subst hln
  have sb := CellsV.sl hb
  have lb := hb.len
  have hle := sb.le
  rw [lb] at hle
  have hbl2 : bl.length ≤ 9223372036854775807 := by omega
  have hbl3 : bl.length ≤ 128 := by have := hv; unfold validP at this; omega
  have hcl : cnt bl ≤ bl.length := by have := cnt_le bl bl.length; rwa [List.take_length] at this
  clear hle
  unfold maxLen at s2
  have hbx := below_alloc w (.cells #[.slice ra rn rk, .slice sa c.start.length sk, .slice la c.lost.length lk] 28)
  have hC := C3.new w 28 (.slice ra rn rk) (.slice sa c.start.length sk) (.slice la c.lost.length lk)
  have ha2 := ha.below hbx
  have hb2 := hb.below hbx
  have HA := Lib.hid ha2
  have HOK := Lib.hid hok
  have HV := Lib.hid hv
  have HC := Lib.hid hC
  obtain ⟨_, c0, c1, c2, _, _, _⟩ := id hC
  have HV4 : Hid (c.rates.length = c.start.length) := Lib.hid hv.2.2.2.1
  have HV3 : Hid (c.lost.length = c.start.length) := Lib.hid hv.2.2.1
  have HVR : Hid (∀ i r, c.rates[i]? = some r → rowP r c.start.length) := Lib.hid (fun i r h => (hv.2.2.2.2.2.1 i r h).1)
  clear hC hs ha2 ha hok hv
  generalize c.start.length = sn at *
  subst hlen
  go_enter Tryz.func64, Tryz.ntmps64
  go_wp2_with (first
    | (go_at_call 65; (with_reducible refine (count_any _ bl _ hb2).mono ?_); rintro e1 w1 ⟨n1, b1, rfl, rfl, hc1, _⟩; obtain ⟨hn1, hb1⟩ := hc1 HOK.out; obtain rfl : b1 = true := hb1.trans (decide_eq_true h0); subst hn1; clear hc1 hb1)
    | (go_at_call 68; (with_reducible refine (valid_chain _ c _ HA.out).mono ?_); rintro e2 w2 ⟨⟨b2, rfl, hv2⟩, hbel2⟩; obtain rfl : b2 = true := hv2.2 HV.out; clear hv2
       have hC2 := HC.out.belowS hbel2
       obtain ⟨_, c0, c1, c2, _, _, _⟩ := id hC2)
    | (refine hM1 _ rfl _ _ rfl (cnt bl) rfl rfl (by omega) ?_; intro v3 w3 hown3 hbel3)
    | (refine hM2 _ rfl _ _ rfl (cnt bl) rfl rfl (by omega) ?_; intro v4 w4 hown4 hbel4))
  have hb4 := below_then (below_then (below_then hbx hbel2) hbel3) hbel4
  have hpos : 0 < cnt bl := cnt_pos HOK.out h0
  have hk3 := hown3.block (by rw [List.length_replicate]; exact hpos)
  have hk4 := hown4.block (by rw [List.length_replicate]; exact hpos)
  have hB4 := hbel4.size
  have hown3' := hown3.below hbel4
  go_loopw [38] (fun u38 wr => ∃ (k : Nat) (rep : Nat → Nat) (es : List Value) (fs : List Bool), k ≤ bl.length ∧ u38 = .int .i64 k ∧ ChkI c bl 25 4 w2.heap.size w3.heap.size w4.heap.size v3 v4 k rep es fs wr ∧
      w4.heap.size ≤ wr.heap.size ∧ Below w2.heap.size w4 wr) (fun u38 _ => bl.length - (intOf u38).toNat)
  case atStart =>
    exact ⟨0, fun _ => 0, _, _, Nat.zero_le _, rfl, ChkI.start _ hown3' hown4, Nat.le_refl _, Below.refl _ _⟩
  case round =>
    obtain ⟨k, rep, es, fs, hk, rfl, hI, hws, hbr⟩ := hrel
    have HI := Lib.hid hI
    obtain ⟨hH, h3, hel, h4, hfl, hseen, hnew⟩ := hI
    have HH := Lib.hid hH
    have HSEEN := Lib.hid hseen
    have HNEW := Lib.hid hnew
    clear hH hseen hnew
    have hb5 := (below_then (below_then hbel2 hbel3) hbel4).trans (hbr.mono hbel2.size)
    have hcr := HC.out.belowS hb5
    obtain ⟨_, c0, c1, c2, _, _, _⟩ := id hcr
    by_cases hkl : k < bl.length
    · have hbk := (hb2.below hb5).at' k hkl
      have HG : Hid (bl[k]? = some (bl[k]'hkl)) := Lib.hid (List.getElem?_eq_getElem hkl)
      obtain ⟨hb0, hbl⟩ := HOK.out k _ HG.out
      have hbc := HOK.out.lt HG.out
      have hrates : c.rates.length = bl.length := HV4.out
      have hkr : k < c.rates.length := by omega
      obtain ⟨r, hr1, hr2⟩ := ((hr.below hbx).below hb5).at' k hkr
      have HROW := Lib.hid (HVR.out k _ (List.getElem?_eq_getElem hkr))
      have HRQ : Hid (rowsQ c k = qs (c.rates[k]'hkr)) := Lib.hid (by simp [rowsQ, List.getD, List.getElem?_eq_getElem hkr])
      have sr := hr2.sl
      have srl := hr2.len
      generalize c.rates[k]'hkr = row at *
      obtain ⟨b, hbb⟩ : ∃ b : Nat, bl[k]'hkl = (b : Int) := ⟨(bl[k]'hkl).toNat, by omega⟩
      rw [hbb] at hbk hb0 hbl hbc
      have HG2 : Hid (bl[k]? = some (b : Int)) := Lib.hid (by rw [HG.out, hbb])
      clear HG hbb
      have sra : IsSl (.slice ra rn rk) := hr.sl
      have hrn : rn = c.rates.length := hr.len
      have hkrn : (k : Int) < (rn : Nat) := by omega
      have hk0 : (0 : Int) ≤ (k : Int) := by omega
      have hrl : row.length = bl.length := HROW.out.2.1
      have HROW2 : Hid (rowP row row.length) := Lib.hid (by rw [hrl]; exact HROW.out)
      clear hrn hrates
      have sv3 := h3.sl
      have lv3 : slen v3 = cnt bl := by rw [h3.len, hel]
      have sv4 := h4.sl
      have lv4 : slen v4 = cnt bl := by rw [h4.len, List.length_map, hfl]
      have hbn : b < cnt bl := by omega
      have hne34 : (ptr v3 b).block ≠ (base v4).block := by rw [ptr_block]; omega
      have hbi : (b : Int) < (cnt bl : Nat) := by omega
      have hes : b < es.length := by omega
      have hfs : b < (fs.map Value.bool).length := by rw [List.length_map]; omega
      have sl3 : IsSl (.slice la c.lost.length lk) := CellsV.sl hl
      have hlk := (hl.below hbx).below hb5
      have hkl2 : k < c.lost.length := by rw [HV3.out]; exact hkl
      have hkln : (k : Int) < (c.lost.length : Nat) := by omega
      have hlc := hlk.at' k hkl2
      by_cases hnewb : b = cnt (bl.take k)
      · have hE : es[b]'hes = .slice none 0 0 := by
          have := HNEW.out b (by omega) hbn
          rw [List.getElem?_eq_getElem hes] at this
          injection this
        have HB := Lib.hid hnewb
        clear hnewb
        go_wp2_with (first
          | (go_at_call 66; (with_reducible refine (sums_any _ _ row bl _ _ hr2 (hb2.below hb5) hrl HOK.out rfl (by omega) HROW2.out).mono ?_); rintro e5 w5 ⟨v5, rfl, how5, hel5, hbel5⟩; obtain ⟨g5, cs5, rfl, _⟩ := id how5
             have h3 := h3.below hbel5
             have h4 := h4.below hbel5
             have hc3 := h3.cell b hes
             rw [hE] at hc3
             have hf3 := h3.frozen b hes
             have h4' := h4.other (ptr v3 b) (.slice (some ⟨g5, 0, none⟩) (cnt bl) (cnt bl)) hne34
             have hc4 := h4'.cell b hfs
             have hf4 := h4'.frozen b hfs
             have hlc := cell_below hbel5 hlc
             obtain ⟨_, c0, c1, c2, _, _, _⟩ := hcr.belowS hbel5))
        have HF := Lib.hid ((HI.out.below hbel5).fresh HOK.out HG2.out HB.out hne34 (by omega) (by omega) how5 hws rfl hel5 HRQ.out (c.lost[k]'hkl2) (by simp [List.getD, List.getElem?_eq_getElem hkl2]))
        have HBF := Lib.hid (hbr.trans ((hbel5.mono (Nat.le_trans (Nat.le_trans hbel3.size hbel4.size) hws)).trans (HF.out.2 hbel3.size)))
        have HWF := Lib.hid (Nat.le_trans (Nat.le_trans hws hbel5.size) ((HF.out.2 hbel3.size).size))
        go_roundw
        case rel => exact ⟨k + 1, _, _, _, hkl, by go_num, HF.out.1, HWF.out, HBF.out⟩
        case measure => simp [intOf]; omega
      · have hbk : b < cnt (bl.take k) := by omega
        obtain ⟨ga, gn, gk, q1, q2, q3, q4⟩ := HSEEN.out b hbk
        have hE : es[b]'hes = .slice (some ga) gn gk := by
          rw [List.getElem?_eq_getElem hes] at q1
          injection q1
        have hfs2 : b < fs.length := by omega
        have hE4 : (fs.map Value.bool)[b]'hfs = .bool (c.lost.getD (rep b) false) := by
          rw [List.getElem?_eq_getElem hfs2] at q4
          injection q4 with q4
          simp [q4]
        have HLK : Hid (c.lost.getD k false = c.lost[k]'hkl2) := Lib.hid (by simp [List.getD, List.getElem?_eq_getElem hkl2])
        have HBK := Lib.hid hbk
        generalize hm1 : c.lost[k]'hkl2 = m1 at *
        generalize hm2 : c.lost.getD (rep b) false = m2 at *
        have HM1 := Lib.hid hm1
        have HM2 := Lib.hid hm2
        have HQ2 := Lib.hid q2
        clear hm1 hm2 q1 q4 hnewb hbk q2
        go_wp2_with (first
          | (go_at_call 66; (with_reducible refine (sums_any _ _ row bl _ _ hr2 (hb2.below hb5) hrl HOK.out rfl (by omega) HROW2.out).mono ?_); rintro e5 w5 ⟨v5, rfl, how5, hel5, hbel5⟩; obtain ⟨g5, cs5, rfl, _⟩ := id how5
             have hD := below_drew (B := w5.heap.size) w5
             have hb5D := below_then hbel5 hD
             have h3 := h3.below hbel5
             have h4 := h4.below hbel5
             have hc3 := h3.cell b hes
             rw [hE] at hc3
             have hc3D := cell_below hD hc3
             have hc4D := cell_below hD (h4.cell b hfs)
             rw [hE4] at hc4D
             have hlcD := cell_below hb5D hlc
             obtain ⟨_, c0, c1, c2, _, _, _⟩ := hcr.belowS hb5D))
        have hb6 := below_then (below_then hb5 hbel5) hD
        by_cases hmm : m1 = m2
        · subst hmm
          have hmb : (m1 != m1) = false := by simp
          have HN : Hid (alikeQ b (bsums bl (rowsQ c k) (cnt bl)) (bsums bl (rowsQ c (rep b)) (cnt bl)) → ChkI c bl 25 4 w2.heap.size w3.heap.size w4.heap.size v3 v4 (k + 1) rep es fs w5) := Lib.hid (fun h =>
            (HI.out.below hbel5).old HG2.out HBK.out (by rw [HLK.out, HM2.out]) h)
          have hX : FracsC w5.drew (.slice (some ⟨g5, 0, none⟩) (cnt bl) (cnt bl)) (bsums bl (rowsQ c k) (cnt bl)) := by
            refine FracsC.below (how5.fracs (bsums_length _ _ _) (fun j hj => ?_)) hD
            rw [bsums_length] at hj
            rw [bsums_get _ _ _ _ hj, HRQ.out]
            exact hel5 j hj
          have hY := HQ2.out.below hb5D
          have hFit : ∀ i, i < bl.length → ∀ x ∈ bsums bl (rowsQ c i) (cnt bl), fits x := fun i hi x hx => by
            obtain ⟨j, hj, rfl⟩ := List.mem_map.1 hx
            have hir : i < c.rates.length := by rw [HV4.out]; exact hi
            have hrp := HVR.out i _ (List.getElem?_eq_getElem hir)
            have e : rowsQ c i = qs (c.rates[i]'hir) := by simp [rowsQ, List.getD, List.getElem?_eq_getElem hir]
            rw [e]
            have h1 := bsum_fits (bl := bl) (row := qs (c.rates[i]'hir)) bl.length (j : Int) (fun q hq => by
              obtain ⟨x, hx, rfl⟩ := List.mem_map.1 hq
              exact Rat.not_lt.1 (hrp.1 x hx).2.1) hrp.2.2
            rwa [List.take_length, List.take_of_length_le (by rw [qs_length, hrp.2.1]; exact Nat.le_refl _)] at h1
          have hrep := ((HI.out.1).lt b HBK.out).1
          have HFX := Lib.hid (hFit k hkl)
          have HFY := Lib.hid (hFit (rep b) (by omega))
          have HBL : Hid ((bsums bl (rowsQ c k) (cnt bl)).length = (bsums bl (rowsQ c (rep b)) (cnt bl)).length) := Lib.hid (by rw [bsums_length, bsums_length])
          clear hFit
          have HXY := Lib.hid (And.intro hX hY)
          clear hX hY
          have lsl := sl3
          go_region_held3 (fun w' => w'.cell? ⟨w.heap.size, 2, none⟩ = some (.slice la c.lost.length lk) ∧ w'.cell? (ptr (.slice la c.lost.length lk) k) = some (.bool m1) ∧ w'.cell? (ptr v4 b) = some (.bool m1) ∧ w'.cell? (ptr v3 b) = some (.slice (some ga) gn gk)) (exact ⟨c2, hlcD, hc4D, hc3D⟩) (first
            | (go_at_call 141; (with_reducible refine (alike_any _ _ _ _ b _ HXY.out.1 HXY.out.2 HBL.out HFX.out HFY.out).mono ?_); rintro e9 w9 ⟨⟨b9, rfl, hb9⟩, hbel9⟩
               have c2 := cell_below hbel9 c2
               have hlcD := cell_below hbel9 hlcD
               have hc4D := cell_below hbel9 hc4D
               have hc3D := cell_below hbel9 hc3D))
          have HB9 := Lib.hid hb9
          clear hb9
          have hbr9 := below_then (below_then hbel5 hD) hbel9
          by_cases hb9t : b9 = true
          · subst hb9t
            have HF := Lib.hid ((HN.out (HB9.out.1 rfl)).below (below_then hD hbel9))
            have HBF := Lib.hid (hbr.trans (hbr9.mono (Nat.le_trans (Nat.le_trans hbel3.size hbel4.size) hws)))
            have HWF := Lib.hid (Nat.le_trans hws hbr9.size)
            go_wp2_with fail
            go_roundw
            case rel => exact ⟨k + 1, _, _, _, hkl, by go_num, HF.out, HWF.out, HBF.out⟩
            case measure => simp [intOf]; omega
          · obtain rfl : b9 = false := by simpa using hb9t
            have HNA : Hid (¬ allAgree bl (fun i => bsums bl (rowsQ c i) (cnt bl)) (fun i => c.lost.getD i false)) := Lib.hid (HI.out.1.not HG2.out HBK.out (fun h => by
              have := HB9.out.2 h.2
              cases this))
            clear hb9t
            go_wp2_with fail
            go_ret
            exact ⟨⟨false, rfl, fun h => (by cases h), fun h => absurd h HNA.out⟩, below_then (below_then hbx hb5) hbr9⟩
        · have hmb : (m1 != m2) = true := by simpa using hmm
          have hc4 := h4.cell b hfs
          rw [hE4] at hc4
          have hlc5 := cell_below hbel5 hlc
          obtain ⟨_, c0, c1, c2, _, _, _⟩ := hcr.belowS hbel5
          clear hD hb5D hc3D hc4D hlcD hb6
          go_quiet (fail)
          have HNA : Hid (¬ allAgree bl (fun i => bsums bl (rowsQ c i) (cnt bl)) (fun i => c.lost.getD i false)) := Lib.hid (HI.out.1.not HG2.out HBK.out (fun h => by
            have h1 := h.1
            simp only [HLK.out, HM2.out] at h1
            exact hmm h1))
          have hbq := below_then (below_then hb5 hbel5) (below_drewN (B := w5.heap.size) w5 nq)
          clear hmm
          go_wp2_with fail
          go_ret
          exact ⟨⟨false, rfl, fun h => (by cases h), fun h => absurd h HNA.out⟩, below_then hbx hbq⟩
    · obtain rfl : k = bl.length := by omega
      have HAL : Hid (allAgree bl (fun i => bsums bl (rowsQ c i) (cnt bl)) (fun i => c.lost.getD i false)) := Lib.hid (HH.out.all HOK.out (n := cnt bl) (fun i _ => bsums_length _ _ _))
      go_wp2_with fail
      go_ret
      exact ⟨⟨true, rfl, fun _ => HAL.out, fun _ => rfl⟩, below_then hbx hb5⟩
/-- Check. -/
theorem check_any (va vb : Value) (c : RC) (bl : List Int) (w : World) (ha : ChainN w va c) (hb : IntsV w vb bl) : Calls Tryz.prog 64 #[va, vb] w (RSame w (checkP c bl)) := by
  by_cases h : okB bl ∧ 0 < bl.length ∧ bl.length = c.start.length ∧ validP c
  · obtain ⟨h1, h2, h3, h4⟩ := h
    refine (check_main va vb c bl w ha hb h1 h2 h3 h4).mono ?_
    rintro e w' ⟨⟨b, rfl, h5⟩, h6⟩
    exact ⟨⟨b, rfl, h5.trans ⟨fun h => ⟨h1, h2, h3, h4, h⟩, fun h => h.2.2.2.2⟩⟩, h6⟩
  · refine (check_early va vb c bl w ha hb ?_).mono ?_
    · by_cases h1 : okB bl
      · by_cases h2 : 0 < bl.length
        · by_cases h3 : bl.length = c.start.length
          · exact Or.inr (Or.inr (Or.inr (fun h4 => h ⟨h1, h2, h3, h4⟩)))
          · exact Or.inr (Or.inr (Or.inl h3))
        · exact Or.inr (Or.inl h2)
      · exact Or.inl h1
    · rintro e w' ⟨rfl, h6⟩
      exact ⟨⟨false, rfl, fun h => (by cases h), fun h5 => absurd ⟨h5.1, h5.2.1, h5.2.2.1, h5.2.2.2.1⟩ h⟩, h6⟩
end Go.Proofs.YtlpdkbmmbdfoiaaGreat
namespace Go.Proofs.YtlpdkbmmbdfoiaaGreat
set_option linter.unusedVariables false
set_option linter.unusedSimpArgs false
open Go.RowKit

set_option maxRecDepth 100000 in
set_option maxHeartbeats 1600000 in
/-- The closure of split: x's block is b and its sums are alike. -/
theorem test_any (own b : Int) (so s : List Rat) (vx vs : Value) (q1 q2 : Nat) (w : World) (hx : FracsC w vx so) (hs : FracsC w vs s) (hl : s.length = so.length) (h1 : ∀ x ∈ so, fits x) (h2 : ∀ x ∈ s, fits x)
    (c1 : w.cell? ⟨q1, 0, none⟩ = some (.int .i64 b)) (c2 : w.cell? ⟨q2, 0, none⟩ = some vs) :
    Calls Tryz.prog 191 #[.agg #[.int .i64 own, vx], .pointer (some ⟨q1, 0, none⟩), .pointer (some ⟨q2, 0, none⟩)] w (RSame w (own = b ∧ alikeQ b s so)) := by
  obtain ⟨ax, nx, kx, rfl, _⟩ := id hx.sl
  obtain ⟨as', ns, ks, rfl, _⟩ := id hs.sl
  have hbx := below_alloc w (.cells #[.int .i64 own, .slice ax nx kx] 166)
  have hx2 := hx.below hbx
  have hs2 := hs.below hbx
  have c1' := cell_below hbx c1
  have c2' := cell_below hbx c2
  have H1 := Lib.hid h1
  have H2 := Lib.hid h2
  have HL := Lib.hid hl
  clear hl h1 h2
  go_enter Tryz.func191, Tryz.ntmps191
  by_cases hob : own = b
  · subst hob
    have hbb : (own == own) = true := by simp
    go_wp2_with (first
      | (go_at_call 141; (with_reducible refine (alike_any _ _ _ _ own _ hs2 hx2 HL.out H2.out H1.out).mono ?_); rintro e9 w9 ⟨⟨b9, rfl, hb9⟩, hbel9⟩; have HB9 := Lib.hid hb9; clear hb9))
    go_ret
    exact ⟨⟨b9, rfl, by first | exact HB9.out | (simp only [true_and]; exact HB9.out) | (simp; exact HB9.out)⟩, below_then hbx hbel9⟩
  · have hbb : (own == b) = false := by simpa using hob
    go_wp2_with fail
    go_ret
    exact ⟨⟨false, rfl, fun h => (by cases h), fun h => absurd h.1 hob⟩, hbx⟩
/-- v reads as a list of classes. -/
structure ClsV (w : World) (v : Value) (cl : List (Int × List Rat)) : Prop where
  sl : IsSl v
  len : slen v = cl.length
  at' : ∀ (j : Nat) (h : j < cl.length), ∃ r, w.cell? (ptr v (j * 2)) = some (.int .i64 cl[j].1) ∧ w.cell? (ptr v (j * 2 + 1)) = some r ∧ FracsC w r cl[j].2
theorem ClsV.below {w w' : World} {v : Value} {cl : List (Int × List Rat)} (h : ClsV w v cl) (hb : Below w.heap.size w w') : ClsV w' v cl :=
  ⟨h.sl, h.len, fun j hj => by obtain ⟨r, e1, e2, e3⟩ := h.at' j hj; exact ⟨r, cell_below hb e1, cell_below hb e2, e3.below hb⟩⟩
def hits (b : Int) (s : List Rat) (x : Int × List Rat) : Prop := x.1 = b ∧ alikeQ b s x.2
def RIndex (w0 : World) (cl : List (Int × List Rat)) (b : Int) (s : List Rat) (e : Ending) (w : World) : Prop :=
  (∃ z : Int, e = .returned (.int .i64 z) ∧ ((z = -1 ∧ ∀ x ∈ cl, ¬ hits b s x) ∨ ∃ (j : Nat) (hj : j < cl.length), z = j ∧ hits b s cl[j])) ∧ Below w0.heap.size w0 w
set_option maxRecDepth 100000 in
set_option maxHeartbeats 1600000 in
theorem index_any (v vs : Value) (cl : List (Int × List Rat)) (b : Int) (s : List Rat) (q1 q2 : Nat) (w : World) (hv : ClsV w v cl) (hs : FracsC w vs s) (hl : ∀ x ∈ cl, s.length = x.2.length) (h1 : ∀ x ∈ cl, ∀ y ∈ x.2, fits y) (h2 : ∀ x ∈ s, fits x)
    (c1 : w.cell? ⟨q1, 0, none⟩ = some (.int .i64 b)) (c2 : w.cell? ⟨q2, 0, none⟩ = some vs) (hn : cl.length ≤ 1000) :
    Calls Tryz.prog 190 #[v, .func (.func 191) #[] #[.pointer (some ⟨q1, 0, none⟩), .pointer (some ⟨q2, 0, none⟩)]] w (RIndex w cl b s) := by
  have sv := hv.sl
  have lv := hv.len
  have H1 := Lib.hid h1
  have H2 := Lib.hid h2
  have HL := Lib.hid hl
  clear hl h1 h2
  go_enter Tryz.func190, Tryz.ntmps190
  go_wp2_with fail
  go_loopw [8] (fun u8 wr => ∃ (k : Nat), k ≤ cl.length ∧ u8 = .int .i64 k ∧ (∀ (j : Nat) (h : j < cl.length), j < k → ¬ hits b s cl[j]) ∧ Below w.heap.size w wr) (fun u8 _ => cl.length - (intOf u8).toNat)
  case atStart => exact ⟨0, Nat.zero_le _, rfl, fun j _ h => by omega, Below.refl _ _⟩
  case round =>
    obtain ⟨k, hk, rfl, hst, hbr⟩ := hrel
    have HST := Lib.hid hst
    clear hst
    by_cases hkl : k < cl.length
    · obtain ⟨r, d1, d2, d3⟩ := (hv.below hbr).at' k hkl
      have i1 : (0 : Int) ≤ (k : Int) := by omega
      have i2 : (k : Int) < (cl.length : Nat) := by omega
      have hsr := hs.below hbr
      have c1r := cell_below hbr c1
      have c2r := cell_below hbr c2
      have F1 := Lib.hid (H1.out _ (List.getElem_mem hkl))
      have L1 := Lib.hid (HL.out _ (List.getElem_mem hkl))
      have HX : Hid (∀ h : k < cl.length, cl[k] = cl[k]'hkl) := Lib.hid (fun _ => rfl)
      generalize hcx : cl[k]'hkl = x at *
      have HCX := Lib.hid hcx
      clear hcx
      obtain ⟨xo, xs⟩ := x
      obtain ⟨ar, nr, kr, rfl, _⟩ := id d3.sl
      go_wp2_with (first
        | (go_at_call 191; (with_reducible refine (test_any xo b xs s _ _ q1 q2 _ d3 hsr L1.out F1.out H2.out c1r c2r).mono ?_); rintro e9 w9 ⟨⟨b9, rfl, hb9⟩, hbel9⟩; have HB9 := Lib.hid hb9; clear hb9))
      have hbr9 := below_then hbr hbel9
      · go_ret
        exact ⟨⟨_, rfl, Or.inr ⟨k, hkl, rfl, by rw [HCX.out]; exact HB9.out.1 (by assumption)⟩⟩, hbr9⟩
      · have hbr9 := below_then hbr hbel9
        have HNH : Hid (∀ (j : Nat) (h : j < cl.length), j < k + 1 → ¬ hits b s cl[j]) := Lib.hid (fun j h h' => by
          rcases Nat.lt_or_ge j k with h4 | h4
          · exact HST.out j h h4
          · obtain rfl : j = k := by omega
            rw [HCX.out]
            intro h5
            have h6 := HB9.out.2 h5
            rename_i h7
            rw [h6] at h7
            cases h7)
        go_roundw
        case rel => exact ⟨k + 1, by omega, by go_num, HNH.out, hbr9⟩
        case measure => simp [intOf]; omega
    · obtain rfl : k = cl.length := by omega
      go_wp2_with fail
      go_ret
      refine ⟨⟨-1, rfl, Or.inl ⟨rfl, fun x hx => ?_⟩⟩, hbr⟩
      obtain ⟨j, hj, rfl⟩ := List.getElem_of_mem hx
      exact HST.out j hj hj
end Go.Proofs.YtlpdkbmmbdfoiaaGreat
namespace Go.Proofs.YtlpdkbmmbdfoiaaGreat
set_option linter.unusedVariables false

/-- nx parts the members that differ in their block or in their sums. -/
def SplitP (bl : List Int) (f : Nat → List Rat) (nx : List Int) : Prop :=
  okB nx ∧ nx.length = bl.length ∧ ∀ (i j : Nat) (a b : Int), bl[i]? = some a → bl[j]? = some b → (nx[i]? = nx[j]? ↔ a = b ∧ alikeQ a (f i) (f j))
theorem okB_snoc {l : List Int} {c : Int} (h : okB l) (h0 : 0 ≤ c) (h1 : c ≤ (cnt l : Int)) : okB (l ++ [c]) := by
  intro k b hk
  have hk1 := (List.getElem?_eq_some_iff.1 hk).1
  rcases Nat.lt_or_ge k l.length with h2 | h2
  · rw [List.getElem?_append_left h2] at hk
    rw [List.take_append_of_le_length (by omega)]
    exact h k b hk
  · have h3 : k = l.length := by simp at hk1; omega
    subst h3
    rw [List.getElem?_append_right (Nat.le_refl _)] at hk
    simp at hk
    subst hk
    rw [List.take_append_of_le_length (Nat.le_refl _), List.take_length]
    exact ⟨h0, h1⟩
structure ClsI (bl : List Int) (f : Nat → List Rat) (k : Nat) (nx : List Int) (cl : List (Int × List Rat)) : Prop where
  len : nx.length = k
  ok : okB nx
  num : cl.length = cnt nx
  mem : ∀ i, i < k → ∃ (c : Nat) (x : Int × List Rat) (b : Int), nx[i]? = some (c : Int) ∧ cl[c]? = some x ∧ bl[i]? = some b ∧ hits b (f i) x
  rep : ∀ (c : Nat) (x : Int × List Rat), cl[c]? = some x → ∃ i, i < k ∧ nx[i]? = some (c : Int) ∧ bl[i]? = some x.1 ∧ x.2 = f i
  dis : ∀ (c d : Nat) (x y : Int × List Rat), cl[c]? = some x → cl[d]? = some y → x.1 = y.1 → alikeQ x.1 x.2 y.2 → c = d
theorem ClsI.zero (bl : List Int) (f : Nat → List Rat) : ClsI bl f 0 [] [] :=
  ⟨rfl, fun k b h => by simp at h, rfl, fun i h => by omega, fun c x h => by simp at h, fun c d x y h => by simp at h⟩
theorem ClsI.old {bl : List Int} {f : Nat → List Rat} {k : Nat} {nx : List Int} {cl : List (Int × List Rat)} (h : ClsI bl f k nx cl) {b : Int} (hk : bl[k]? = some b) {c : Nat} (hc : c < cl.length) (hh : hits b (f k) (cl[c]'hc)) :
    ClsI bl f (k + 1) (nx ++ [(c : Int)]) cl := by
  obtain ⟨len, ok, num, mem, rep, dis⟩ := h
  refine ⟨by simp [len], okB_snoc ok (by omega) (by omega), ?_, fun i hi => ?_, fun d x hx => ?_, dis⟩
  · rw [cnt_snoc, if_neg (by omega)]; exact num
  · rcases Nat.lt_or_ge i k with h1 | h1
    · obtain ⟨d, x, b', e1, e2, e3, e4⟩ := mem i h1
      exact ⟨d, x, b', by rw [List.getElem?_append_left (by omega)]; exact e1, e2, e3, e4⟩
    · obtain rfl : i = k := by omega
      exact ⟨c, cl[c], b, by rw [List.getElem?_append_right (by omega), len]; simp, List.getElem?_eq_getElem hc, hk, hh⟩
  · obtain ⟨i, e1, e2, e3, e4⟩ := rep d x hx
    exact ⟨i, by omega, by rw [List.getElem?_append_left (by omega)]; exact e2, e3, e4⟩
theorem ClsI.fresh {bl : List Int} {f : Nat → List Rat} {k : Nat} {nx : List Int} {cl : List (Int × List Rat)} (h : ClsI bl f k nx cl) {b : Int} (hk : bl[k]? = some b) (hh : ∀ x ∈ cl, ¬ hits b (f k) x) :
    ClsI bl f (k + 1) (nx ++ [(cl.length : Int)]) (cl ++ [(b, f k)]) := by
  obtain ⟨len, ok, num, mem, rep, dis⟩ := h
  have key : ∀ (c : Nat) (x : Int × List Rat), (cl ++ [(b, f k)])[c]? = some x → (c < cl.length ∧ cl[c]? = some x) ∨ (c = cl.length ∧ x = (b, f k)) := fun c x hx => by
    have h1 := (List.getElem?_eq_some_iff.1 hx).1
    rcases Nat.lt_or_ge c cl.length with h2 | h2
    · rw [List.getElem?_append_left h2] at hx; exact Or.inl ⟨h2, hx⟩
    · have h3 : c = cl.length := by simp at h1; omega
      subst h3
      rw [List.getElem?_append_right (Nat.le_refl _)] at hx
      simp at hx
      exact Or.inr ⟨rfl, hx.symm⟩
  refine ⟨by simp [len], okB_snoc ok (by omega) (by omega), ?_, fun i hi => ?_, fun d x hx => ?_, fun c d x y hx hy h1 h2 => ?_⟩
  · rw [cnt_snoc, if_pos (by omega)]; simp [num]
  · rcases Nat.lt_or_ge i k with h1 | h1
    · obtain ⟨d, x, b', e1, e2, e3, e4⟩ := mem i h1
      exact ⟨d, x, b', by rw [List.getElem?_append_left (by omega)]; exact e1, by rw [List.getElem?_append_left (List.getElem?_eq_some_iff.1 e2).1]; exact e2, e3, e4⟩
    · obtain rfl : i = k := by omega
      exact ⟨cl.length, (b, f i), b, by rw [List.getElem?_append_right (by omega), len]; simp, by rw [List.getElem?_append_right (Nat.le_refl _)]; simp, hk, rfl, alikeQ.refl _ _⟩
  · rcases key d x hx with ⟨h1, h2⟩ | ⟨rfl, rfl⟩
    · obtain ⟨i, e1, e2, e3, e4⟩ := rep d x h2
      exact ⟨i, by omega, by rw [List.getElem?_append_left (by omega)]; exact e2, e3, e4⟩
    · exact ⟨k, by omega, by rw [List.getElem?_append_right (by omega), len]; simp, hk, rfl⟩
  · rcases key c x hx with ⟨h3, h4⟩ | ⟨rfl, rfl⟩ <;> rcases key d y hy with ⟨h5, h6⟩ | ⟨rfl, rfl⟩
    · exact dis c d x y h4 h6 h1 h2
    · have h7 : x.1 = b := h1
      rw [h7] at h2
      exact absurd ⟨h7, h2.symm⟩ (hh x (List.mem_of_getElem? h4))
    · exact absurd ⟨h1.symm, h2⟩ (hh y (List.mem_of_getElem? h6))
    · rfl
theorem ClsI.done {bl : List Int} {f : Nat → List Rat} {nx : List Int} {cl : List (Int × List Rat)} {n : Nat} (h : ClsI bl f bl.length nx cl) (hf : ∀ i, (f i).length = n) : SplitP bl f nx := by
  obtain ⟨len, ok, num, mem, rep, dis⟩ := h
  refine ⟨ok, len, fun i j a b hi hj => ?_⟩
  obtain ⟨c, x, b1, e1, e2, e3, e4, e5⟩ := mem i (List.getElem?_eq_some_iff.1 hi).1
  obtain ⟨d, y, b2, g1, g2, g3, g4, g5⟩ := mem j (List.getElem?_eq_some_iff.1 hj).1
  rw [hi] at e3
  injection e3 with e3
  rw [hj] at g3
  injection g3 with g3
  subst e3 g3
  obtain ⟨i', _, _, _, x2⟩ := rep c x e2
  obtain ⟨j', _, _, _, y2⟩ := rep d y g2
  have l1 : (f i).length = x.2.length := by rw [x2, hf, hf]
  have l2 : (f j).length = y.2.length := by rw [y2, hf, hf]
  have l3 : x.2.length = (f i).length := l1.symm
  constructor
  · intro h
    rw [e1, g1] at h
    injection h with h
    have hcd : c = d := by omega
    subst hcd
    rw [e2] at g2
    injection g2 with g2
    subst g2
    have hab : a = b := e4.symm.trans g4
    subst hab
    exact ⟨rfl, e5.trans g5.symm l1⟩
  · rintro ⟨rfl, h⟩
    have h1 : alikeQ x.1 x.2 y.2 := by
      rw [e4]
      exact (e5.symm.trans h l3).trans g5 (by rw [l3, hf, hf])
    rw [e1, g1, dis c d x y e2 g2 (e4.trans g4.symm) h1]
end Go.Proofs.YtlpdkbmmbdfoiaaGreat
