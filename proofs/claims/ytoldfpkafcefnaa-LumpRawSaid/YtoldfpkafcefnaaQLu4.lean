/-
  package lump: Check, the members.
  Ahead of it: The plain law of Check: members of a block against the first of it. No program is named here. package lump: Check.
-/
import Derived.Test.YtoldfpkafcefnaaQLu1
import Derived.Test.YtoldfpkafcefnaaQLu2
import Derived.Test.YtoldfpkafcefnaaQSa4
import Derived.Lib.SliceRun
namespace Go.Proofs.Ytoldfpkafcefnaa
set_option linter.unusedVariables false

/-- Two lists of sums agree but at own. -/
def alikeQ (own : Int) (p q : List Rat) : Prop := ∀ (i : Nat) (x y : Rat), (i : Int) ≠ own → p[i]? = some x → q[i]? = some y → x = y
theorem alikeQ.refl (own : Int) (p : List Rat) : alikeQ own p p := fun i x y _ h1 h2 => by rw [h1] at h2; injection h2
theorem alikeQ.symm {own : Int} {p q : List Rat} (h : alikeQ own p q) : alikeQ own q p := fun i x y h0 h1 h2 => (h i y x h0 h2 h1).symm
theorem alikeQ.trans {own : Int} {p q r : List Rat} (h : alikeQ own p q) (k : alikeQ own q r) (hl : p.length = q.length) : alikeQ own p r := fun i x z h0 h1 h2 => by
  have hi : i < q.length := by rw [← hl]; exact (List.getElem?_eq_some_iff.1 h1).1
  have h3 : q[i]? = some (q[i]'hi) := List.getElem?_eq_getElem hi
  rw [h i x _ h0 h1 h3, k i _ z h0 h3 h2]
/-- Members i and j, of one block, agree: f gives the sums, g the mark. -/
def agree (bl : List Int) (f : Nat → List Rat) (g : Nat → Bool) (i j : Nat) : Prop := ∀ b, bl[i]? = some b → bl[j]? = some b → g i = g j ∧ alikeQ b (f i) (f j)
/-- Behind k members: rep gives each block's first member, and all agree with it. -/
structure Heads (bl : List Int) (f : Nat → List Rat) (g : Nat → Bool) (k : Nat) (rep : Nat → Nat) : Prop where
  lt : ∀ b, b < cnt (bl.take k) → rep b < k ∧ bl[rep b]? = some (b : Int)
  agree : ∀ i (b : Nat), i < k → bl[i]? = some (b : Int) → g i = g (rep b) ∧ alikeQ b (f i) (f (rep b))
theorem Heads.zero (bl : List Int) (f : Nat → List Rat) (g : Nat → Bool) : Heads bl f g 0 (fun _ => 0) := ⟨fun b h => by simp [cnt] at h, fun i b h => by omega⟩
theorem Heads.fresh {bl : List Int} {f : Nat → List Rat} {g : Nat → Bool} {k : Nat} {rep : Nat → Nat} (hok : okB bl) (h : Heads bl f g k rep) (hk : bl[k]? = some (cnt (bl.take k) : Int)) :
    Heads bl f g (k + 1) (fun b => if b = cnt (bl.take k) then k else rep b) := by
  obtain ⟨hk1, hk2⟩ := List.getElem?_eq_some_iff.1 hk
  have hc := cnt_take bl k hk1
  rw [if_pos hk2] at hc
  refine ⟨fun b hb => ?_, fun i b hi hb => ?_⟩
  · rw [hc] at hb
    by_cases h1 : b = cnt (bl.take k)
    · simp only [h1, if_true]
      exact ⟨by omega, hk⟩
    · simp only [if_neg h1]
      obtain ⟨h2, h3⟩ := h.lt b (by omega)
      exact ⟨by omega, h3⟩
  · rcases Nat.lt_or_ge i k with h1 | h1
    · obtain ⟨h2, h3⟩ := hok i b hb
      have h4 := cnt_take_mono bl (show i + 1 ≤ k by omega)
      have h5 : b ≠ cnt (bl.take k) := by
        obtain ⟨h6, h7⟩ := List.getElem?_eq_some_iff.1 hb
        have h8 := cnt_take bl i h6
        rw [h7] at h8
        intro h9
        split at h8 <;> omega
      simp only [if_neg h5]
      exact h.agree i b h1 hb
    · obtain rfl : i = k := by omega
      rw [hk] at hb
      injection hb with hb
      have hb2 : b = cnt (bl.take i) := by omega
      simp only [hb2, if_true]
      exact ⟨trivial, alikeQ.refl _ _⟩
theorem Heads.old {bl : List Int} {f : Nat → List Rat} {g : Nat → Bool} {k b : Nat} {rep : Nat → Nat} (h : Heads bl f g k rep) (hk : bl[k]? = some (b : Int)) (hb : b < cnt (bl.take k))
    (h1 : g k = g (rep b)) (h2 : alikeQ b (f k) (f (rep b))) : Heads bl f g (k + 1) rep := by
  obtain ⟨hk1, hk2⟩ := List.getElem?_eq_some_iff.1 hk
  have hc := cnt_take bl k hk1
  rw [if_neg (by rw [hk2]; omega)] at hc
  refine ⟨fun c hcb => ?_, fun i c hi hcb => ?_⟩
  · rw [hc] at hcb
    obtain ⟨h3, h4⟩ := h.lt c hcb
    exact ⟨by omega, h4⟩
  · rcases Nat.lt_or_ge i k with h5 | h5
    · exact h.agree i c h5 hcb
    · obtain rfl : i = k := by omega
      rw [hk] at hcb
      injection hcb with hcb
      obtain rfl : b = c := by omega
      exact ⟨h1, h2⟩
/-- All members of each block agree. -/
def allAgree (bl : List Int) (f : Nat → List Rat) (g : Nat → Bool) : Prop := ∀ i j b, bl[i]? = some b → bl[j]? = some b → g i = g j ∧ alikeQ b (f i) (f j)
theorem Heads.all {bl : List Int} {f : Nat → List Rat} {g : Nat → Bool} {rep : Nat → Nat} {n : Nat} (hok : okB bl) (h : Heads bl f g bl.length rep) (hf : ∀ i, i < bl.length → (f i).length = n) : allAgree bl f g := by
  intro i j b hi hj
  have hi1 := (List.getElem?_eq_some_iff.1 hi).1
  have hj1 := (List.getElem?_eq_some_iff.1 hj).1
  obtain ⟨h0, h0'⟩ := hok.lt hi
  obtain ⟨b', rfl⟩ : ∃ b' : Nat, b = (b' : Int) := ⟨b.toNat, by omega⟩
  obtain ⟨h1, h2⟩ := h.agree i b' hi1 hi
  obtain ⟨h3, h4⟩ := h.agree j b' hj1 hj
  have hr := (h.lt b' (by rw [List.take_length]; omega)).1
  exact ⟨h1.trans h3.symm, h2.trans h4.symm (by rw [hf i hi1, hf _ hr])⟩
theorem Heads.not {bl : List Int} {f : Nat → List Rat} {g : Nat → Bool} {k b : Nat} {rep : Nat → Nat} (h : Heads bl f g k rep) (hk : bl[k]? = some (b : Int)) (hb : b < cnt (bl.take k))
    (hn : ¬ (g k = g (rep b) ∧ alikeQ b (f k) (f (rep b)))) : ¬ allAgree bl f g := fun ha => hn (ha k (rep b) b hk (h.lt b hb).2)
end Go.Proofs.Ytoldfpkafcefnaa
namespace Go.Proofs.Ytoldfpkafcefnaa
set_option linter.unusedVariables false
set_option linter.unusedSimpArgs false
open Go.RowKit

def rowsQ (c : RC) (i : Nat) : List Rat := qs (c.rates.getD i [])
/-- What Check answers. -/
def checkP (c : RC) (bl : List Int) : Prop :=
  okB bl ∧ 0 < bl.length ∧ bl.length = c.start.length ∧ validP c ∧ allAgree bl (fun i => bsums bl (rowsQ c i) (cnt bl)) (fun i => c.lost.getD i false)
set_option maxRecDepth 100000 in
set_option maxHeartbeats 1600000 in
theorem check_early (va vb : Value) (c : RC) (bl : List Int) (w : World) (ha : ChainN w va c) (hb : IntsV w vb bl) (hn : ¬ okB bl ∨ ¬ 0 < bl.length ∨ bl.length ≠ c.start.length ∨ ¬ validP c) :
    Calls Try.prog 16 #[va, vb] w (fun e w' => e = .returned (.bool false) ∧ Below w.heap.size w w') := by
  obtain ⟨rv, sv, lv, rfl, hr, hs, hl⟩ := id ha
  obtain ⟨ra, rn, rk, rfl, r1, r2, r3⟩ := hr.sl
  obtain ⟨sa, sn, sk, rfl, s1, s2, s3⟩ := hs.sl
  obtain ⟨la, ln, lk, rfl, l1, l2, l3⟩ := CellsV.sl hl
  have hsl : sn = c.start.length := hs.len
  subst hsl
  have sb := CellsV.sl hb
  have lb := hb.len
  have hle := sb.le
  rw [lb] at hle
  have hbl2 : bl.length ≤ 9223372036854775807 := by omega
  clear hle
  unfold maxLen at s2
  have hbx := below_alloc w (.cells #[.slice ra rn rk, .slice sa c.start.length sk, .slice la ln lk] 27)
  have hC := C3.new w 27 (.slice ra rn rk) (.slice sa c.start.length sk) (.slice la ln lk)
  have ha2 := ha.below hbx
  have hb2 := hb.below hbx
  have HN := Lib.hid hn
  have HA := Lib.hid ha2
  clear hn ha2 ha
  have HC := Lib.hid hC
  clear hs
  generalize c.start.length = sn at *
  obtain ⟨_, c0, c1, c2, _, _, _⟩ := id hC
  clear hC
  by_cases h1 : okB bl ∧ 0 < bl.length
  · obtain ⟨h1, h2⟩ := h1
    have H1 := Lib.hid h1
    clear h1
    by_cases h3 : bl.length = sn
    · have HV : Hid (¬ validP c) := Lib.hid (by
        rcases HN.out with h | h | h | h
        · exact absurd H1.out h
        · exact absurd h2 h
        · exact absurd h3 h
        · exact h)
      subst h3
      go_enter Try.func16, Try.ntmps16
      go_wp2_with (first
        | (go_at_call 32; (with_reducible refine (count_any _ bl _ hb2).mono ?_); rintro e1 w1 ⟨n1, b1, rfl, rfl, hc1, _⟩; obtain ⟨hn1, hb1⟩ := hc1 H1.out; obtain rfl : b1 = true := hb1.trans (decide_eq_true h2); clear hc1 hb1)
        | (go_at_call 35; (with_reducible refine (valid_chain _ c _ HA.out).mono ?_); rintro e2 w2 ⟨⟨b2, rfl, hv2⟩, hbel2⟩; obtain rfl : b2 = false := Bool.eq_false_iff.2 (fun h => HV.out (hv2.1 h)); clear hv2))
      go_ret
      exact ⟨rfl, below_then hbx hbel2⟩
    · have h3b : (((bl.length : Nat) : Int) != (sn : Nat)) = true := by simp; omega
      go_enter Try.func16, Try.ntmps16
      go_wp2_with (go_at_call 32; (with_reducible refine (count_any _ bl _ hb2).mono ?_); rintro e1 w1 ⟨n1, b1, rfl, rfl, hc1, _⟩; obtain ⟨hn1, hb1⟩ := hc1 H1.out; obtain rfl : b1 = true := hb1.trans (decide_eq_true h2); clear hc1 hb1)
      go_ret
      exact ⟨rfl, hbx⟩
  · have H1 := Lib.hid h1
    clear h1
    go_enter Try.func16, Try.ntmps16
    go_wp2_with (go_at_call 32; (with_reducible refine (count_any _ bl _ hb2).mono ?_); rintro e1 w1 ⟨n1, b1, rfl, rfl, hc1, hc2⟩; obtain rfl : b1 = false := (by
      by_cases h : okB bl
      · rw [(hc1 h).2]; exact decide_eq_false (fun h2 => H1.out ⟨h, h2⟩)
      · exact (hc2 h).1); clear hc1 hc2)
    go_ret
    exact ⟨rfl, hbx⟩
end Go.Proofs.Ytoldfpkafcefnaa
namespace Go.Proofs.Ytoldfpkafcefnaa
set_option linter.unusedVariables false
set_option linter.unusedSimpArgs false
open Go.RowKit

theorem Try.infoRow : (Try.prog.info? 24).map (fun i => (i.zero, i.size, i.bytes)) = some (some (.slice none 0 0), 1, 24) := by kernel_rfl
theorem Try.infoBool : (Try.prog.info? 4).map (fun i => (i.zero, i.size, i.bytes)) = some (some (.bool false), 1, 1) := by kernel_rfl
/-- make([]T, n), T of one cell, for a walk. -/
theorem make_E {P : Program} (t e : TypeId) (i : TypeInfo) (z : Value) (by' : Nat) (h1 : P.underlying t = some (.slice e)) (h2 : P.info? e = some i) (h3 : i.zero = some z) (h4 : i.size = 1) (h5 : i.bytes = by') (hby : by' ≤ 32) (hz : z.cells = #[z])
    (w : World) {ops : Array Oper} {rest : List Oper} {o : Oper} {a : Act} {Q : Exit → Act → World → Prop} (hg : o.guard = none) (l c : Operand) (hop : o.op = Op.makeSlice t l c)
    (n : Nat) (hl : a.eval l = .int .i64 n) (hc : a.eval c = .int .i64 n) (hn : n ≤ 128)
    (hK : ∀ v w', OwnE w' e w.heap.size v (List.replicate n z) → Below w.heap.size w w' → wpList P ops Q rest (a.put o.dst v) w') :
    wpList P ops Q (o :: rest) a w :=
  wpList_make_E w hg l c t hop w.heap.size e i z h1 h2 h3 h4 hz n hl hc (by rw [h5]; exact Nat.le_trans (Nat.mul_le_mul hby hn) (by decide)) (by simp [maxLen]; omega) (Nat.le_refl _) (fun v w' h6 h7 _ => hK v w' h6 h7)
/-- A store over a cell of another block that is no limb. -/
theorem FracsC.over {w : World} {r : Value} {q : List Rat} {p : Addr} {x u : Value} (h : FracsC w r q) (hp : p.block ≠ (base r).block) (hc : w.cell? p = some x) (hx : ∀ z, x ≠ .int .u32 z) : FracsC (w.setCell p u) r q :=
  ⟨h.sl, h.len, fun j hj => by
    obtain ⟨a, b, h1, h2, h3, h4, h5⟩ := h.at' j hj
    have hne : ∀ k, p ≠ ptr r k := fun k e => hp (by rw [e]; exact ptr_block r k)
    exact ⟨a, b, by rw [World.cell?_setCell_other _ _ _ _ (hne _)]; exact h1, by rw [World.cell?_setCell_other _ _ _ _ (hne _)]; exact h2, by rw [World.cell?_setCell_other _ _ _ _ (hne _)]; exact h3, ⟨h4.1.over hc hx u, h4.2⟩, ⟨h5.1.over hc hx u, h5.2⟩⟩⟩
theorem cnt_pos {bl : List Int} (hok : okB bl) (h0 : 0 < bl.length) : 0 < cnt bl := by
  have h := hok.lt (List.getElem?_eq_getElem h0)
  omega
/-- The loop of Check: the first members' sums and marks. -/
def ChkI (c : RC) (bl : List Int) (tF tB : TypeId) (B3 B4 B5 : Nat) (v3 v4 : Value) (k : Nat) (rep : Nat → Nat) (es : List Value) (fs : List Bool) (wr : World) : Prop :=
  Heads bl (fun i => bsums bl (rowsQ c i) (cnt bl)) (fun i => c.lost.getD i false) k rep ∧ OwnE wr tF B3 v3 es ∧ es.length = cnt bl ∧ OwnE wr tB B4 v4 (fs.map Value.bool) ∧ fs.length = cnt bl ∧
  (∀ b, b < cnt (bl.take k) → ∃ a n kk, es[b]? = some (.slice (some a) n kk) ∧ FracsC wr (.slice (some a) n kk) (bsums bl (rowsQ c (rep b)) (cnt bl)) ∧ B5 ≤ a.block ∧ fs[b]? = some (c.lost.getD (rep b) false)) ∧
  (∀ b, cnt (bl.take k) ≤ b → b < cnt bl → es[b]? = some (.slice none 0 0))
theorem ChkI.start {c : RC} {bl : List Int} {tF tB : TypeId} {B3 B4 : Nat} (B5 : Nat) {v3 v4 : Value} {w : World} (h3 : OwnE w tF B3 v3 (List.replicate (cnt bl) (.slice none 0 0))) (h4 : OwnE w tB B4 v4 (List.replicate (cnt bl) (.bool false))) :
    ChkI c bl tF tB B3 B4 B5 v3 v4 0 (fun _ => 0) (List.replicate (cnt bl) (.slice none 0 0)) (List.replicate (cnt bl) false) w := by
  refine ⟨Heads.zero _ _ _, h3, by simp, by rw [List.map_replicate]; exact h4, by simp, fun b hb => ?_, fun b _ hb => ?_⟩
  · simp [cnt_nil] at hb
  · rw [List.getElem?_replicate, if_pos hb]
theorem ChkI.below {c : RC} {bl : List Int} {tF tB : TypeId} {B3 B4 B5 : Nat} {v3 v4 : Value} {k : Nat} {rep : Nat → Nat} {es : List Value} {fs : List Bool} {wr w5 : World}
    (h : ChkI c bl tF tB B3 B4 B5 v3 v4 k rep es fs wr) (hb : Below wr.heap.size wr w5) : ChkI c bl tF tB B3 B4 B5 v3 v4 k rep es fs w5 := by
  obtain ⟨hH, h3, hel, h4, hfl, hseen, hnew⟩ := h
  refine ⟨hH, h3.below hb, hel, h4.below hb, hfl, fun b hb' => ?_, hnew⟩
  obtain ⟨a, n, kk, q1, q2, q3, q4⟩ := hseen b hb'
  exact ⟨a, n, kk, q1, q2.below hb, q3, q4⟩
theorem ChkI.fresh {c : RC} {bl : List Int} {tF tB tE : TypeId} {B3 B4 B5 : Nat} {v3 v4 : Value} {k : Nat} {rep : Nat → Nat} {es : List Value} {fs : List Bool} {w5 : World}
    (h : ChkI c bl tF tB B3 B4 B5 v3 v4 k rep es fs w5) (hok : okB bl) {b : Nat} (hk : bl[k]? = some (b : Int)) (hb : b = cnt (bl.take k)) (h34 : (ptr v3 b).block ≠ (base v4).block)
    (hv3 : (base v3).block < B5) (hv4 : (base v4).block < B5) {g5 n : Nat} {row : List Rat} {BB : Nat} (how : OwnFr w5 tE BB (.slice (some ⟨g5, 0, none⟩) n n) n) (hBB : B5 ≤ BB) (hn : n = cnt bl)
    (hel : ∀ j, j < n → ElemC w5 (.slice (some ⟨g5, 0, none⟩) n n) j (bsum bl row j)) (hrq : rowsQ c k = row) (x : Bool) (hx : x = c.lost.getD k false) :
    ChkI c bl tF tB B3 B4 B5 v3 v4 (k + 1) (fun a => if a = cnt (bl.take k) then k else rep a) (es.set b (.slice (some ⟨g5, 0, none⟩) n n)) (fs.set b x)
      ((w5.setCell (ptr v3 b) (.slice (some ⟨g5, 0, none⟩) n n)).setCell (ptr v4 b) (.bool x)) ∧ (B3 ≤ B4 → Below B3 w5 ((w5.setCell (ptr v3 b) (.slice (some ⟨g5, 0, none⟩) n n)).setCell (ptr v4 b) (.bool x))) := by
  obtain ⟨hH, h3, hel3, h4, hfl, hseen, hnew⟩ := h
  obtain ⟨hk1, hk2⟩ := List.getElem?_eq_some_iff.1 hk
  have hbc := hok.lt hk
  have hbc2 : b < cnt bl := by omega
  have hbes : b < es.length := by omega
  have hbfs : b < (fs.map Value.bool).length := by rw [List.length_map]; omega
  have hct := cnt_take bl k hk1
  rw [if_pos (by rw [hk2, hb])] at hct
  have hE : es[b]'hbes = .slice none 0 0 := by
    have := hnew b (by omega) hbc2
    rw [List.getElem?_eq_getElem hbes] at this
    injection this
  have hc3 := h3.cell b hbes
  rw [hE] at hc3
  have s3 := h3.set b hbes (.slice (some ⟨g5, 0, none⟩) n n)
  have h4' := h4.other (ptr v3 b) (.slice (some ⟨g5, 0, none⟩) n n) h34
  have hc4 := h4'.cell b hbfs
  have hc4' : ((w5.setCell (ptr v3 b) (.slice (some ⟨g5, 0, none⟩) n n))).cell? (ptr v4 b) = some (.bool (fs[b]'(by omega))) := by rw [hc4]; simp
  have s4 := h4'.set b hbfs (.bool x)
  have h43 : (ptr v4 b).block ≠ (base v3).block := by rw [ptr_block]; rw [ptr_block] at h34; exact fun e => h34 e.symm
  have h3' := s3.1.other (ptr v4 b) (.bool x) h43
  have hover : ∀ (r : Value) (q : List Rat), B5 ≤ (base r).block → FracsC w5 r q → FracsC ((w5.setCell (ptr v3 b) (.slice (some ⟨g5, 0, none⟩) n n)).setCell (ptr v4 b) (.bool x)) r q := fun r q hr hq => by
    have q1 := hq.over (p := ptr v3 b) (u := .slice (some ⟨g5, 0, none⟩) n n) (by rw [ptr_block]; omega) hc3 (fun z => by simp)
    exact q1.over (p := ptr v4 b) (u := .bool x) (by rw [ptr_block]; omega) hc4' (fun z => by simp)
  have hb4 := h4.block (by omega)
  refine ⟨⟨hH.fresh hok (by rw [hk, hb]), h3', by rw [List.length_set]; exact hel3, by rw [List.map_set]; exact s4.1, by rw [List.length_set]; exact hfl, fun a ha => ?_, fun a ha ha2 => ?_⟩, fun h34' => s3.2.trans (s4.2.mono h34')⟩
  · rw [hct] at ha
    by_cases h1 : a = cnt (bl.take k)
    · simp only [h1, if_true]
      rw [← hb]
      refine ⟨⟨g5, 0, none⟩, n, n, by rw [List.getElem?_set_self hbes], hover _ _ (by have := how.block; omega) (how.fracs (by rw [bsums_length]; exact hn.symm) (fun j hj => ?_)), by have := how.block; simp only [base] at this; show B5 ≤ g5; omega, by rw [List.getElem?_set_self (by omega), hx]⟩
      rw [bsums_length] at hj
      rw [bsums_get _ _ _ _ hj, hrq]
      exact hel j (by omega)
    · simp only [if_neg h1]
      obtain ⟨p, m, kk, q1, q2, q3, q4⟩ := hseen a (by omega)
      refine ⟨p, m, kk, by rw [List.getElem?_set_ne (by omega)]; exact q1, hover _ _ (by simpa [base] using q3) q2, q3, by rw [List.getElem?_set_ne (by omega)]; exact q4⟩
  · rw [hct] at ha
    rw [List.getElem?_set_ne (by omega)]
    exact hnew a (by omega) ha2
theorem ChkI.old {c : RC} {bl : List Int} {tF tB : TypeId} {B3 B4 B5 : Nat} {v3 v4 : Value} {k : Nat} {rep : Nat → Nat} {es : List Value} {fs : List Bool} {w5 : World}
    (h : ChkI c bl tF tB B3 B4 B5 v3 v4 k rep es fs w5) {b : Nat} (hk : bl[k]? = some (b : Int)) (hb : b < cnt (bl.take k)) (h1 : c.lost.getD k false = c.lost.getD (rep b) false)
    (h2 : alikeQ b (bsums bl (rowsQ c k) (cnt bl)) (bsums bl (rowsQ c (rep b)) (cnt bl))) : ChkI c bl tF tB B3 B4 B5 v3 v4 (k + 1) rep es fs w5 := by
  obtain ⟨hH, h3, hel, h4, hfl, hseen, hnew⟩ := h
  obtain ⟨hk1, hk2⟩ := List.getElem?_eq_some_iff.1 hk
  have hc := cnt_take bl k hk1
  rw [if_neg (by rw [hk2]; omega)] at hc
  refine ⟨hH.old hk hb h1 h2, h3, hel, h4, hfl, fun a ha => hseen a (by omega), fun a ha => hnew a (by omega)⟩
end Go.Proofs.Ytoldfpkafcefnaa
