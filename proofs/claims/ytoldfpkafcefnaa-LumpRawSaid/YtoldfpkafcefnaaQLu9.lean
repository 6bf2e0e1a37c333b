/-
  package lump: split.
  Ahead of it: package lump: split's test of a class, and the search for one. Splitting a partition: the plain law. No program is named here.
-/
import Derived.Test.YtoldfpkafcefnaaQLu5
import Derived.Test.YtoldfpkafcefnaaQTa6
namespace Go.Proofs.Ytoldfpkafcefnaa
set_option linter.unusedVariables false
set_option linter.unusedSimpArgs false
open Go.RowKit

set_option maxRecDepth 100000 in
set_option maxHeartbeats 1600000 in
/-- The closure of split: x's block is b and its sums are alike. -/
theorem test_any (own b : Int) (so s : List Rat) (vx vs : Value) (q1 q2 : Nat) (w : World) (hx : FracsC w vx so) (hs : FracsC w vs s) (hl : s.length = so.length) (h1 : ∀ x ∈ so, fits x) (h2 : ∀ x ∈ s, fits x)
    (c1 : w.cell? ⟨q1, 0, none⟩ = some (.int .i64 b)) (c2 : w.cell? ⟨q2, 0, none⟩ = some vs) :
    Calls Try.prog 64 #[.agg #[.int .i64 own, vx], .pointer (some ⟨q1, 0, none⟩), .pointer (some ⟨q2, 0, none⟩)] w (RSame w (own = b ∧ alikeQ b s so)) := by
  obtain ⟨ax, nx, kx, rfl, _⟩ := id hx.sl
  obtain ⟨as', ns, ks, rfl, _⟩ := id hs.sl
  have hbx := below_alloc w (.cells #[.int .i64 own, .slice ax nx kx] 94)
  have hx2 := hx.below hbx
  have hs2 := hs.below hbx
  have c1' := cell_below hbx c1
  have c2' := cell_below hbx c2
  have H1 := Lib.hid h1
  have H2 := Lib.hid h2
  have HL := Lib.hid hl
  clear hl h1 h2
  go_enter Try.func64, Try.ntmps64
  by_cases hob : own = b
  · subst hob
    have hbb : (own == own) = true := by simp
    go_wp2_with (first
      | (go_at_call 36; (with_reducible refine (alike_any _ _ _ _ own _ hs2 hx2 HL.out H2.out H1.out).mono ?_); rintro e9 w9 ⟨⟨b9, rfl, hb9⟩, hbel9⟩; have HB9 := Lib.hid hb9; clear hb9))
    go_ret
    exact ⟨⟨b9, rfl, by first | exact HB9.out | (simp only [true_and]; exact HB9.out) | (simp; exact HB9.out)⟩, below_then hbx hbel9⟩
  · have hbb : (own == b) = false := by simpa using hob
    go_wp2_with fail
    go_ret
    exact ⟨⟨false, rfl, fun h => (by cases h), fun h => absurd h.1 hob⟩, hbx⟩
/-- v reads as a list of classes. -/
structure ClsV (w : World) (v : Value) (cl : List (Int × List Rat)) : Prop where
  sl : IsSl v
  len : slen v = cl.length
  at' : ∀ (j : Nat) (h : j < cl.length), ∃ r, w.cell? (ptr v (j * 2)) = some (.int .i64 cl[j].1) ∧ w.cell? (ptr v (j * 2 + 1)) = some r ∧ FracsC w r cl[j].2
theorem ClsV.below {w w' : World} {v : Value} {cl : List (Int × List Rat)} (h : ClsV w v cl) (hb : Below w.heap.size w w') : ClsV w' v cl :=
  ⟨h.sl, h.len, fun j hj => by obtain ⟨r, e1, e2, e3⟩ := h.at' j hj; exact ⟨r, cell_below hb e1, cell_below hb e2, e3.below hb⟩⟩
def hits (b : Int) (s : List Rat) (x : Int × List Rat) : Prop := x.1 = b ∧ alikeQ b s x.2
def RIndex (w0 : World) (cl : List (Int × List Rat)) (b : Int) (s : List Rat) (e : Ending) (w : World) : Prop :=
  (∃ z : Int, e = .returned (.int .i64 z) ∧ ((z = -1 ∧ ∀ x ∈ cl, ¬ hits b s x) ∨ ∃ (j : Nat) (hj : j < cl.length), z = j ∧ hits b s cl[j])) ∧ Below w0.heap.size w0 w
set_option maxRecDepth 100000 in
set_option maxHeartbeats 1600000 in
theorem index_any (v vs : Value) (cl : List (Int × List Rat)) (b : Int) (s : List Rat) (q1 q2 : Nat) (w : World) (hv : ClsV w v cl) (hs : FracsC w vs s) (hl : ∀ x ∈ cl, s.length = x.2.length) (h1 : ∀ x ∈ cl, ∀ y ∈ x.2, fits y) (h2 : ∀ x ∈ s, fits x)
    (c1 : w.cell? ⟨q1, 0, none⟩ = some (.int .i64 b)) (c2 : w.cell? ⟨q2, 0, none⟩ = some vs) (hn : cl.length ≤ 1000) :
    Calls Try.prog 63 #[v, .func (.func 64) #[] #[.pointer (some ⟨q1, 0, none⟩), .pointer (some ⟨q2, 0, none⟩)]] w (RIndex w cl b s) := by
  have sv := hv.sl
  have lv := hv.len
  have H1 := Lib.hid h1
  have H2 := Lib.hid h2
  have HL := Lib.hid hl
  clear hl h1 h2
  go_enter Try.func63, Try.ntmps63
  go_wp2_with fail
  go_loopw [8] (fun u8 wr => ∃ (k : Nat), k ≤ cl.length ∧ u8 = .int .i64 k ∧ (∀ (j : Nat) (h : j < cl.length), j < k → ¬ hits b s cl[j]) ∧ Below w.heap.size w wr) (fun u8 _ => cl.length - (intOf u8).toNat)
  case atStart => exact ⟨0, Nat.zero_le _, rfl, fun j _ h => by omega, Below.refl _ _⟩
  case round =>
    obtain ⟨k, hk, rfl, hst, hbr⟩ := hrel
    have HST := Lib.hid hst
    clear hst
    by_cases hkl : k < cl.length
    · obtain ⟨r, d1, d2, d3⟩ := (hv.below hbr).at' k hkl
      have i1 : (0 : Int) ≤ (k : Int) := by omega
      have i2 : (k : Int) < (cl.length : Nat) := by omega
      have hsr := hs.below hbr
      have c1r := cell_below hbr c1
      have c2r := cell_below hbr c2
      have F1 := Lib.hid (H1.out _ (List.getElem_mem hkl))
      have L1 := Lib.hid (HL.out _ (List.getElem_mem hkl))
      have HX : Hid (∀ h : k < cl.length, cl[k] = cl[k]'hkl) := Lib.hid (fun _ => rfl)
      generalize hcx : cl[k]'hkl = x at *
      have HCX := Lib.hid hcx
      clear hcx
      obtain ⟨xo, xs⟩ := x
      obtain ⟨ar, nr, kr, rfl, _⟩ := id d3.sl
      go_wp2_with (first
        | (go_at_call 64; (with_reducible refine (test_any xo b xs s _ _ q1 q2 _ d3 hsr L1.out F1.out H2.out c1r c2r).mono ?_); rintro e9 w9 ⟨⟨b9, rfl, hb9⟩, hbel9⟩; have HB9 := Lib.hid hb9; clear hb9))
      have hbr9 := below_then hbr hbel9
      · go_ret
        exact ⟨⟨_, rfl, Or.inr ⟨k, hkl, rfl, by rw [HCX.out]; exact HB9.out.1 (by assumption)⟩⟩, hbr9⟩
      · have hbr9 := below_then hbr hbel9
        have HNH : Hid (∀ (j : Nat) (h : j < cl.length), j < k + 1 → ¬ hits b s cl[j]) := Lib.hid (fun j h h' => by
          rcases Nat.lt_or_ge j k with h4 | h4
          · exact HST.out j h h4
          · obtain rfl : j = k := by omega
            rw [HCX.out]
            intro h5
            have h6 := HB9.out.2 h5
            rename_i h7
            rw [h6] at h7
            cases h7)
        go_roundw
        case rel => exact ⟨k + 1, by omega, by go_num, HNH.out, hbr9⟩
        case measure => simp [intOf]; omega
    · obtain rfl : k = cl.length := by omega
      go_wp2_with fail
      go_ret
      refine ⟨⟨-1, rfl, Or.inl ⟨rfl, fun x hx => ?_⟩⟩, hbr⟩
      obtain ⟨j, hj, rfl⟩ := List.getElem_of_mem hx
      exact HST.out j hj hj
end Go.Proofs.Ytoldfpkafcefnaa
namespace Go.Proofs.Ytoldfpkafcefnaa
set_option linter.unusedVariables false

/-- nx parts the members that differ in their block or in their sums. -/
def SplitP (bl : List Int) (f : Nat → List Rat) (nx : List Int) : Prop :=
  okB nx ∧ nx.length = bl.length ∧ ∀ (i j : Nat) (a b : Int), bl[i]? = some a → bl[j]? = some b → (nx[i]? = nx[j]? ↔ a = b ∧ alikeQ a (f i) (f j))
theorem okB_snoc {l : List Int} {c : Int} (h : okB l) (h0 : 0 ≤ c) (h1 : c ≤ (cnt l : Int)) : okB (l ++ [c]) := by
  intro k b hk
  have hk1 := (List.getElem?_eq_some_iff.1 hk).1
  rcases Nat.lt_or_ge k l.length with h2 | h2
  · rw [List.getElem?_append_left h2] at hk
    rw [List.take_append_of_le_length (by omega)]
    exact h k b hk
  · have h3 : k = l.length := by simp at hk1; omega
    subst h3
    rw [List.getElem?_append_right (Nat.le_refl _)] at hk
    simp at hk
    subst hk
    rw [List.take_append_of_le_length (Nat.le_refl _), List.take_length]
    exact ⟨h0, h1⟩
structure ClsI (bl : List Int) (f : Nat → List Rat) (k : Nat) (nx : List Int) (cl : List (Int × List Rat)) : Prop where
  len : nx.length = k
  ok : okB nx
  num : cl.length = cnt nx
  mem : ∀ i, i < k → ∃ (c : Nat) (x : Int × List Rat) (b : Int), nx[i]? = some (c : Int) ∧ cl[c]? = some x ∧ bl[i]? = some b ∧ hits b (f i) x
  rep : ∀ (c : Nat) (x : Int × List Rat), cl[c]? = some x → ∃ i, i < k ∧ nx[i]? = some (c : Int) ∧ bl[i]? = some x.1 ∧ x.2 = f i
  dis : ∀ (c d : Nat) (x y : Int × List Rat), cl[c]? = some x → cl[d]? = some y → x.1 = y.1 → alikeQ x.1 x.2 y.2 → c = d
theorem ClsI.zero (bl : List Int) (f : Nat → List Rat) : ClsI bl f 0 [] [] :=
  ⟨rfl, fun k b h => by simp at h, rfl, fun i h => by omega, fun c x h => by simp at h, fun c d x y h => by simp at h⟩
theorem ClsI.old {bl : List Int} {f : Nat → List Rat} {k : Nat} {nx : List Int} {cl : List (Int × List Rat)} (h : ClsI bl f k nx cl) {b : Int} (hk : bl[k]? = some b) {c : Nat} (hc : c < cl.length) (hh : hits b (f k) (cl[c]'hc)) :
    ClsI bl f (k + 1) (nx ++ [(c : Int)]) cl := by
  obtain ⟨len, ok, num, mem, rep, dis⟩ := h
  refine ⟨by simp [len], okB_snoc ok (by omega) (by omega), ?_, fun i hi => ?_, fun d x hx => ?_, dis⟩
  · rw [cnt_snoc, if_neg (by omega)]; exact num
  · rcases Nat.lt_or_ge i k with h1 | h1
    · obtain ⟨d, x, b', e1, e2, e3, e4⟩ := mem i h1
      exact ⟨d, x, b', by rw [List.getElem?_append_left (by omega)]; exact e1, e2, e3, e4⟩
    · obtain rfl : i = k := by omega
      exact ⟨c, cl[c], b, by rw [List.getElem?_append_right (by omega), len]; simp, List.getElem?_eq_getElem hc, hk, hh⟩
  · obtain ⟨i, e1, e2, e3, e4⟩ := rep d x hx
    exact ⟨i, by omega, by rw [List.getElem?_append_left (by omega)]; exact e2, e3, e4⟩
theorem ClsI.fresh {bl : List Int} {f : Nat → List Rat} {k : Nat} {nx : List Int} {cl : List (Int × List Rat)} (h : ClsI bl f k nx cl) {b : Int} (hk : bl[k]? = some b) (hh : ∀ x ∈ cl, ¬ hits b (f k) x) :
    ClsI bl f (k + 1) (nx ++ [(cl.length : Int)]) (cl ++ [(b, f k)]) := by
  obtain ⟨len, ok, num, mem, rep, dis⟩ := h
  have key : ∀ (c : Nat) (x : Int × List Rat), (cl ++ [(b, f k)])[c]? = some x → (c < cl.length ∧ cl[c]? = some x) ∨ (c = cl.length ∧ x = (b, f k)) := fun c x hx => by
    have h1 := (List.getElem?_eq_some_iff.1 hx).1
    rcases Nat.lt_or_ge c cl.length with h2 | h2
    · rw [List.getElem?_append_left h2] at hx; exact Or.inl ⟨h2, hx⟩
    · have h3 : c = cl.length := by simp at h1; omega
      subst h3
      rw [List.getElem?_append_right (Nat.le_refl _)] at hx
      simp at hx
      exact Or.inr ⟨rfl, hx.symm⟩
  refine ⟨by simp [len], okB_snoc ok (by omega) (by omega), ?_, fun i hi => ?_, fun d x hx => ?_, fun c d x y hx hy h1 h2 => ?_⟩
  · rw [cnt_snoc, if_pos (by omega)]; simp [num]
  · rcases Nat.lt_or_ge i k with h1 | h1
    · obtain ⟨d, x, b', e1, e2, e3, e4⟩ := mem i h1
      exact ⟨d, x, b', by rw [List.getElem?_append_left (by omega)]; exact e1, by rw [List.getElem?_append_left (List.getElem?_eq_some_iff.1 e2).1]; exact e2, e3, e4⟩
    · obtain rfl : i = k := by omega
      exact ⟨cl.length, (b, f i), b, by rw [List.getElem?_append_right (by omega), len]; simp, by rw [List.getElem?_append_right (Nat.le_refl _)]; simp, hk, rfl, alikeQ.refl _ _⟩
  · rcases key d x hx with ⟨h1, h2⟩ | ⟨rfl, rfl⟩
    · obtain ⟨i, e1, e2, e3, e4⟩ := rep d x h2
      exact ⟨i, by omega, by rw [List.getElem?_append_left (by omega)]; exact e2, e3, e4⟩
    · exact ⟨k, by omega, by rw [List.getElem?_append_right (by omega), len]; simp, hk, rfl⟩
  · rcases key c x hx with ⟨h3, h4⟩ | ⟨rfl, rfl⟩ <;> rcases key d y hy with ⟨h5, h6⟩ | ⟨rfl, rfl⟩
    · exact dis c d x y h4 h6 h1 h2
    · have h7 : x.1 = b := h1
      rw [h7] at h2
      exact absurd ⟨h7, h2.symm⟩ (hh x (List.mem_of_getElem? h4))
    · exact absurd ⟨h1.symm, h2⟩ (hh y (List.mem_of_getElem? h6))
    · rfl
theorem ClsI.done {bl : List Int} {f : Nat → List Rat} {nx : List Int} {cl : List (Int × List Rat)} {n : Nat} (h : ClsI bl f bl.length nx cl) (hf : ∀ i, (f i).length = n) : SplitP bl f nx := by
  obtain ⟨len, ok, num, mem, rep, dis⟩ := h
  refine ⟨ok, len, fun i j a b hi hj => ?_⟩
  obtain ⟨c, x, b1, e1, e2, e3, e4, e5⟩ := mem i (List.getElem?_eq_some_iff.1 hi).1
  obtain ⟨d, y, b2, g1, g2, g3, g4, g5⟩ := mem j (List.getElem?_eq_some_iff.1 hj).1
  rw [hi] at e3
  injection e3 with e3
  rw [hj] at g3
  injection g3 with g3
  subst e3 g3
  obtain ⟨i', _, _, _, x2⟩ := rep c x e2
  obtain ⟨j', _, _, _, y2⟩ := rep d y g2
  have l1 : (f i).length = x.2.length := by rw [x2, hf, hf]
  have l2 : (f j).length = y.2.length := by rw [y2, hf, hf]
  have l3 : x.2.length = (f i).length := l1.symm
  constructor
  · intro h
    rw [e1, g1] at h
    injection h with h
    have hcd : c = d := by omega
    subst hcd
    rw [e2] at g2
    injection g2 with g2
    subst g2
    have hab : a = b := e4.symm.trans g4
    subst hab
    exact ⟨rfl, e5.trans g5.symm l1⟩
  · rintro ⟨rfl, h⟩
    have h1 : alikeQ x.1 x.2 y.2 := by
      rw [e4]
      exact (e5.symm.trans h l3).trans g5 (by rw [l3, hf, hf])
    rw [e1, g1, dis c d x y e2 g2 (e4.trans g4.symm) h1]
end Go.Proofs.Ytoldfpkafcefnaa
namespace Go.Proofs.Ytoldfpkafcefnaa
set_option linter.unusedVariables false
set_option linter.unusedSimpArgs false
open Go.RowKit

theorem Try.infoCls : (Try.prog.info? 94).map (fun i => (i.zero, i.size, i.bytes)) = some (some (.agg #[.int .i64 0, .slice none 0 0]), 2, 32) := by kernel_rfl
theorem Try.infoInt : (Try.prog.info? 3).map (fun i => (i.zero, i.size, i.bytes)) = some (some (.int .i64 0), 1, 8) := by kernel_rfl
theorem FracsC.grown {w w' : World} {v r : Value} {q : List Rat} (h : FracsC w r q) (hg : w.grownBy w' v.ownBlock) (hn : NoLimb w v) (hne : v.ownBlock ≠ some (base r).block) : FracsC w' r q :=
  ⟨h.sl, h.len, fun j hj => by
    obtain ⟨a, b, e1, e2, e3, e4, e5⟩ := h.at' j hj
    have hc : ∀ k u, w.cell? (ptr r k) = some u → w'.cell? (ptr r k) = some u := fun k u hu => hg.cell hu (by rw [ptr_block]; exact fun e => hne e.symm)
    exact ⟨a, b, hc _ _ e1, hc _ _ e2, hc _ _ e3, e4.grown hg hn, e5.grown hg hn⟩⟩
/-- v is a row of classes that the call made. -/
def ClsRow (w : World) (eF eC : TypeId) (B : Nat) (v : Value) (cl : List (Int × List Rat)) : Prop :=
  ∃ xs, OwnR w eC B 2 v cl.length xs ∧ ∀ (j : Nat) (h : j < cl.length), ∃ (g n : Nat), xs[j * 2]? = some (.int .i64 cl[j].1) ∧ xs[j * 2 + 1]? = some (.slice (some ⟨g, 0, none⟩) n n) ∧ OwnFr w eF B (.slice (some ⟨g, 0, none⟩) n n) n ∧ FracsC w (.slice (some ⟨g, 0, none⟩) n n) cl[j].2
section
variable {w w' : World} {eF eC : TypeId} {B : Nat} {v : Value} {cl : List (Int × List Rat)}
theorem ClsRow.nil (w : World) (eF eC : TypeId) (B : Nat) : ClsRow w eF eC B (.slice none 0 0) [] := ⟨[], OwnR.nil _ _ _ _, fun j h => by simp at h⟩
theorem ClsRow.below (h : ClsRow w eF eC B v cl) (hb : Below w.heap.size w w') : ClsRow w' eF eC B v cl := by
  obtain ⟨xs, h1, h2⟩ := h
  exact ⟨xs, h1.below hb, fun j hj => by obtain ⟨g, n, e1, e2, e3, e4⟩ := h2 j hj; exact ⟨g, n, e1, e2, e3.below hb, e4.below hb⟩⟩
theorem ClsRow.reads (h : ClsRow w eF eC B v cl) : ClsV w v cl := by
  obtain ⟨xs, h1, h2⟩ := h
  refine ⟨h1.sl, h1.len, fun j hj => ?_⟩
  obtain ⟨g, n, e1, e2, e3, e4⟩ := h2 j hj
  have hc : ∀ i u, xs[i]? = some u → w.cell? (ptr v i) = some u := fun i u hi => by
    obtain ⟨h6, h7⟩ := List.getElem?_eq_some_iff.1 hi
    rw [h1.cell i h6, h7]
  exact ⟨_, hc _ _ e1, hc _ _ e2, e4⟩
/-- A store into another row. -/
theorem ClsRow.over (h : ClsRow w eF eC B v cl) {p : Addr} {x : Value} (hp : ∀ e cur fz, w.heap[p.block]? = some (.cells cur e fz) → e ≠ eF ∧ e ≠ eC) (hc : w.cell? p = some x) (hx : ∀ z, x ≠ .int .u32 z) (u : Value) : ClsRow (w.setCell p u) eF eC B v cl := by
  obtain ⟨xs, h1, h2⟩ := h
  refine ⟨xs, h1.over ?_ u, fun j hj => ?_⟩
  · cases ho : v.ownBlock with
    | none => exact Or.inl rfl
    | some g =>
      refine Or.inr (fun e => ?_)
      injection e with e
      subst e
      obtain ⟨cc, fz, hh⟩ := Lib.ownsRow_kind h1.own _ ho
      exact (hp _ _ _ hh).2 rfl
  · obtain ⟨g, n, e1, e2, e3, e4⟩ := h2 j hj
    have hne : p.block ≠ g := fun e => by
      obtain ⟨g', cs, e5, e6, _⟩ := e3
      obtain ⟨cc, fz, hh⟩ := Lib.ownsRow_kind e6 g rfl
      rw [← e] at hh
      exact (hp _ _ _ hh).1 rfl
    exact ⟨g, n, e1, e2, e3.over hne u, e4.over hne hc hx⟩
theorem ClsRow.snoc {k : Nat} {b : Int} {s : List Rat} {g n : Nat} {v' : Value} {xs : List Value} (h : ClsRow w eF eC B v cl) (hxs : OwnR w eC B 2 v cl.length xs ∧ ∀ (j : Nat) (h : j < cl.length), ∃ (g n : Nat), xs[j * 2]? = some (.int .i64 cl[j].1) ∧ xs[j * 2 + 1]? = some (.slice (some ⟨g, 0, none⟩) n n) ∧ OwnFr w eF B (.slice (some ⟨g, 0, none⟩) n n) n ∧ FracsC w (.slice (some ⟨g, 0, none⟩) n n) cl[j].2)
    (hfr : OwnFr w eF B (.slice (some ⟨g, 0, none⟩) n n) n) (hs : FracsC w (.slice (some ⟨g, 0, none⟩) n n) s) (hv : OwnR w' eC B 2 v' (cl.length + 1) (xs ++ [.int .i64 b, .slice (some ⟨g, 0, none⟩) n n])) (hg : w.grownBy w' v.ownBlock) (hF : eF ≠ eC) : ClsRow w' eF eC B v' (cl ++ [(b, s)]) := by
  obtain ⟨h1, h2⟩ := hxs
  have hl : xs.length = cl.length * 2 := h1.clen
  have key : ∀ (g' n' : Nat) (q : List Rat), OwnFr w eF B (.slice (some ⟨g', 0, none⟩) n' n') n' → FracsC w (.slice (some ⟨g', 0, none⟩) n' n') q → OwnFr w' eF B (.slice (some ⟨g', 0, none⟩) n' n') n' ∧ FracsC w' (.slice (some ⟨g', 0, none⟩) n' n') q := fun g' n' q f1 f2 => by
    have hne : v.ownBlock ≠ some g' := fun e => by
      obtain ⟨gg, cs, e5, e6, _⟩ := f1
      obtain ⟨cc, fz, hh⟩ := Lib.ownsRow_kind e6 g' rfl
      obtain ⟨cc2, fz2, hh2⟩ := Lib.ownsRow_kind h1.own g' e
      rw [hh] at hh2
      injection hh2 with hh2
      injection hh2 with _ hh2
      exact hF hh2
    refine ⟨?_, f2.grown hg h1.nl hne⟩
    obtain ⟨gg, cs, e5, e6, e7⟩ := f1
    exact ⟨gg, cs, e5, World.ownsRow.kept e6 hg (Or.inr (fun e => hne e.symm)), e7⟩
  refine ⟨_, by rw [List.length_append]; exact hv, fun j hj => ?_⟩
  rcases Nat.lt_or_ge j cl.length with h3 | h3
  · obtain ⟨g', n', e1, e2, e3, e4⟩ := h2 j h3
    rw [List.getElem_append_left h3]
    exact ⟨g', n', by rw [List.getElem?_append_left (by omega)]; exact e1, by rw [List.getElem?_append_left (by omega)]; exact e2, key _ _ _ e3 e4⟩
  · obtain rfl : j = cl.length := by simp at hj; omega
    have e0 : (cl ++ [(b, s)])[cl.length]'hj = (b, s) := by simp
    rw [e0, ← hl]
    exact ⟨g, n, by rw [List.getElem?_append_right (Nat.le_refl _)]; simp, by rw [List.getElem?_append_right (by omega)]; simp, key _ _ _ hfr hs⟩
end
/-- append(classes, class{b, s}), for a walk. -/
theorem append1_cls {P : Program} (t e eF : TypeId) (i : TypeInfo) (ht : P.underlying t = some (.slice e)) (hi : P.info? e = some i) (hz : i.zero = some (.agg #[.int .i64 0, .slice none 0 0])) (hsize : i.size = 2) (hby : i.bytes = 32) (hF : eF ≠ e)
    (w0 : World) {ops : Array Oper} {rest : List Oper} {o : Oper} {a : Act} {Q : Exit → Act → World → Prop} (hgd : o.guard = none) (s x : Operand)
    (ho : o.op = .call { callee := .builtin .append, args := #[s, x], argTypes := #[t, t] }) (B : Nat) (e' : TypeId)
    (v : Value) (cl : List (Int × List Rat)) (hs : a.eval s = v) (hown : ClsRow w0 eF e B v cl) (b : Int) (q : List Rat) (g n : Nat) (hfr : OwnFr w0 eF B (.slice (some ⟨g, 0, none⟩) n n) n) (hq : FracsC w0 (.slice (some ⟨g, 0, none⟩) n n) q)
    (hxe : a.eval x = .slice (some ⟨w0.heap.size, 0, none⟩) 1 1) (hn : cl.length ≤ 1000) (hbase : B ≤ w0.heap.size)
    (h : ∀ v' w', ClsRow w' eF e B v' (cl ++ [(b, q)]) → w0.grownBy w' v.ownBlock → (∀ k, v.ownBlock = some k → B ≤ k) → (∀ k, v.ownBlock = some k → ∃ c fz, w0.heap[k]? = some (.cells c e fz)) → IsSl v' → wpList P ops Q rest (a.put o.dst v') w') :
    wpList P ops Q (o :: rest) a (w0.alloc (.cells #[.int .i64 b, .slice (some ⟨g, 0, none⟩) n n] e')) := by
  obtain ⟨xs, h1, h2⟩ := id hown
  refine wpList_append1_R w0 hgd s x t ho B e e' i _ 2 32 ht hi hz hsize hby rfl (by decide) (fun c hc z => by
      have hc2 : c ∈ [Value.int .i64 0, .slice none 0 0] := hc
      simp at hc2; rcases hc2 with rfl | rfl <;> simp) v cl.length xs hs h1 #[.int .i64 b, .slice (some ⟨g, 0, none⟩) n n] rfl hxe
    (fun u hu => by simp at hu; rcases hu with rfl | rfl <;> rfl) (fun u hu z => by simp at hu; rcases hu with rfl | rfl <;> simp) (by simp [maxLen]; omega) (by omega) hbase ?_
  intro v' w' k1 k2 k3
  exact h v' w' (hown.snoc (k := 0) ⟨h1, h2⟩ hfr hq k1 k2 hF) k2 (fun k hk => (h1.block k hk).1) (Lib.ownsRow_kind h1.own) k1.sl
end Go.Proofs.Ytoldfpkafcefnaa
