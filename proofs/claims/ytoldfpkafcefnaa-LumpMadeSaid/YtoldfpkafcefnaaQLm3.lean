/-
  LumpMade: for every two tapes the law returns true, and the tapes read as they did. No condition.
  Ahead of it: package drydocklaw22: agrees. package drydocklaw22: LumpMade, the walk.
-/
import Derived.Test.YtoldfpkafcefnaaQRf5
import Derived.Test.YtoldfpkafcefnaaQRf7
import Derived.Test.YtoldfpkafcefnaaQRd1
import Derived.Test.YtoldfpkafcefnaaQSa4
import Derived.Test.YtoldfpkafcefnaaQAw2
import Derived.Test.YtoldfpkafcefnaaRows
import Derived.WalkKit
import Derived.ProofKit
import Derived.OpenShut
import Derived.ChangeSlices
namespace Go.Proofs.Ytoldfpkafcefnaa
set_option linter.unusedVariables false
set_option linter.unusedSimpArgs false
open Go.RowKit

def emptyQ : CQ := ⟨[], [], []⟩
theorem emptyQ.reads (w : World) : ChainC w zeroCh emptyQ := ⟨_, _, _, rfl, ⟨IsSl.nil, rfl, fun j h => by simp [emptyQ] at h⟩, ⟨IsSl.nil, rfl, fun j h => by simp [emptyQ] at h⟩, ⟨IsSl.nil, rfl, fun j h => by simp [emptyQ] at h⟩⟩
/-- What Coarsest answers. -/
def CoP (c : RC) (L : List Int) (er : Int) : Prop := (¬ validP c ∧ L = [] ∧ er = 1) ∨ (validP c ∧ CoarseP c L ∧ er = 0)
theorem CoP.uniq {c : RC} {L L' : List Int} {er er' : Int} (h : CoP c L er) (h' : CoP c L' er') : L' = L ∧ er' = er := by
  rcases h with ⟨h1, rfl, rfl⟩ | ⟨h1, h2, rfl⟩ <;> rcases h' with ⟨g1, rfl, rfl⟩ | ⟨g1, g2, rfl⟩
  · exact ⟨rfl, rfl⟩
  · exact absurd g1 h1
  · exact absurd h1 g1
  · exact ⟨CoarseP.unique h1 g2 h2, rfl⟩
theorem RCoarse.read {w0 w : World} {c : RC} {e : Ending} (h : RCoarse w0 c e w) : ∃ v L er, e = .returned (.tuple #[v, .int .i64 er]) ∧ IntsV w v L ∧ Below w0.heap.size w0 w ∧ CoP c L er := by
  obtain ⟨h1, h2, h3⟩ := h
  by_cases hv : validP c
  · obtain ⟨v, nx, rfl, h4, h5⟩ := h2 hv
    exact ⟨v, nx, 0, rfl, h4, h3, Or.inr ⟨hv, h5, rfl⟩⟩
  · exact ⟨_, [], 1, h1 hv, ⟨IsSl.nil, rfl, fun j h => by simp at h⟩, h3, Or.inl ⟨hv, rfl, rfl⟩⟩
/-- What Quotient answers. -/
def QuP (c : RC) (bl : List Int) (Q : CQ) (er : Int) : Prop := (¬ checkP c bl ∧ Q = emptyQ ∧ er = 1) ∨ (checkP c bl ∧ validP (quo c bl).raw ∧ Q = quo c bl ∧ er = 0) ∨ (checkP c bl ∧ ¬ validP (quo c bl).raw ∧ Q = emptyQ ∧ er = 2)
theorem QuP.uniq {c : RC} {bl : List Int} {Q Q' : CQ} {er er' : Int} (h : QuP c bl Q er) (h' : QuP c bl Q' er') : Q' = Q ∧ er' = er := by
  rcases h with ⟨h1, rfl, rfl⟩ | ⟨h1, h2, rfl, rfl⟩ | ⟨h1, h2, rfl, rfl⟩ <;> rcases h' with ⟨g1, rfl, rfl⟩ | ⟨g1, g2, rfl, rfl⟩ | ⟨g1, g2, rfl, rfl⟩ <;> first | exact ⟨rfl, rfl⟩ | exact absurd g1 h1 | exact absurd h1 g1 | exact absurd g2 h2 | exact absurd h2 g2
theorem RQuo.read {w0 w : World} {c : RC} {bl : List Int} {e : Ending} (h : RQuo w0 c bl e w) : ∃ v Q er, e = .returned (.tuple #[v, .int .i64 er]) ∧ ChainC w v Q ∧ Below w0.heap.size w0 w ∧ QuP c bl Q er := by
  obtain ⟨v, er, rfl, hb, h1, h2, h3⟩ := h
  by_cases hc : checkP c bl
  · by_cases hq : validP (quo c bl).raw
    · obtain ⟨rfl, h4⟩ := h2 hc hq
      exact ⟨v, _, 0, rfl, h4, hb, Or.inr (Or.inl ⟨hc, hq, rfl, rfl⟩)⟩
    · obtain ⟨rfl, rfl⟩ := h3 hc hq
      exact ⟨_, _, 2, rfl, emptyQ.reads _, hb, Or.inr (Or.inr ⟨hc, hq, rfl, rfl⟩)⟩
  · obtain ⟨rfl, rfl⟩ := h1 hc
    exact ⟨_, _, 1, rfl, emptyQ.reads _, hb, Or.inl ⟨hc, rfl, rfl⟩⟩
theorem keep9 {X Y : World} {a1 a2 a3 a4 a5 a6 a7 a8 a9 : Addr} {x1 x2 x3 x4 x5 x6 x7 x8 x9 : Value}
    (h : X.cell? a1 = some x1 ∧ X.cell? a2 = some x2 ∧ X.cell? a3 = some x3 ∧ X.cell? a4 = some x4 ∧ X.cell? a5 = some x5 ∧ X.cell? a6 = some x6 ∧ X.cell? a7 = some x7 ∧ X.cell? a8 = some x8 ∧ X.cell? a9 = some x9) (hb : Below X.heap.size X Y) :
    Y.cell? a1 = some x1 ∧ Y.cell? a2 = some x2 ∧ Y.cell? a3 = some x3 ∧ Y.cell? a4 = some x4 ∧ Y.cell? a5 = some x5 ∧ Y.cell? a6 = some x6 ∧ Y.cell? a7 = some x7 ∧ Y.cell? a8 = some x8 ∧ Y.cell? a9 = some x9 := by
  obtain ⟨k1, k2, k3, k4, k5, k6, k7, k8, k9⟩ := h
  exact ⟨cell_below hb k1, cell_below hb k2, cell_below hb k3, cell_below hb k4, cell_below hb k5, cell_below hb k6, cell_below hb k7, cell_below hb k8, cell_below hb k9⟩
set_option maxRecDepth 100000 in
set_option maxHeartbeats 3200000 in
theorem agrees_any (va vb : Value) (c : RC) (bl : List Int) (w : World) (ha : ChainN w va c) (hb : IntsV w vb bl) :
    Calls Try.prog 9 #[va, vb] w (fun e w' => e = .returned (.bool true) ∧ Below w.heap.size w w') := by
  obtain ⟨rv, sv, lv, rfl, hr, hs, hl⟩ := id ha
  obtain ⟨ra, rn, rk, rfl, _⟩ := id hr.sl
  obtain ⟨sa, sn, sk, rfl, _⟩ := id hs.sl
  obtain ⟨la, ln, lk, rfl, _⟩ := id (CellsV.sl hl)
  have hbx := below_alloc w (.cells #[.slice ra rn rk, .slice sa sn sk, .slice la ln lk] 27)
  have HA := Lib.hid (ha.below hbx)
  have HB := Lib.hid (hb.below hbx)
  have HC := Lib.hid (C3.new w 27 (.slice ra rn rk) (.slice sa sn sk) (.slice la ln lk))
  obtain ⟨_, c0, c1, c2, _, _, _⟩ := HC.out
  clear ha hb hr hs hl
  go_enter Try.func9, Try.ntmps9
  go_upto_region 5 with (first
    | (go_at_call 18; (with_reducible refine (coarse_any _ c _ HA.out).mono ?_); intro e1 w1 h1; obtain ⟨v1, L, er1, rfl, hI1, hb1, hc1⟩ := h1.read
       obtain ⟨_, c0, c1, c2, _, _, _⟩ := HC.out.belowS hb1)
    | (go_at_call 23; (with_reducible refine (rcoarse_any _ c _ (HA.out.below hb1)).mono ?_); intro e2 w2 h2; obtain ⟨v2, L2, er2, rfl, hI2, hb2, hc2⟩ := h2.read
       obtain ⟨rfl, rfl⟩ := hc1.uniq hc2
       have hb12 := below_then hb1 hb2
       have HI1 := Lib.hid (hI1.below hb2)
       have HI2 := Lib.hid hI2
       obtain ⟨_, c0, c1, c2, _, _, _⟩ := HC.out.belowS hb12
       clear hc1 hc2 hI1 hI2)
    | (go_at_call 15; (with_reducible refine (quo_any _ _ c bl _ (HA.out.below hb12) (HB.out.below hb12)).mono ?_); intro e3 w3 h3; obtain ⟨v3, Q, er3, rfl, hQ3, hb3, hc3⟩ := h3.read
       obtain ⟨qr, qs3, ql, rfl, m1, m2, m3⟩ := id hQ3
       obtain ⟨q1, q2, q3, rfl, _⟩ := id m1.sl
       obtain ⟨q4, q5, q6, rfl, _⟩ := id m2.sl
       obtain ⟨q7, q8, q9, rfl, _⟩ := id (CellsV.sl m3)
       have ba3 := below_alloc w3 (.cells #[.slice q1 q2 q3, .slice q4 q5 q6, .slice q7 q8 q9] 27)
       have HQ3 := Lib.hid (hQ3.below ba3)
       have HC3 := Lib.hid (C3.new w3 27 (.slice q1 q2 q3) (.slice q4 q5 q6) (.slice q7 q8 q9))
       have hb13 := below_then hb12 (below_then hb3 ba3)
       have HI13 := Lib.hid (HI1.out.below (below_then hb3 ba3))
       have HI23 := Lib.hid (HI2.out.below (below_then hb3 ba3))
       obtain ⟨_, c0, c1, c2, _, _, _⟩ := HC.out.belowS hb13
       clear hQ3 m1 m2 m3 ba3)
    | (go_at_call 24; (with_reducible refine (rquo_any _ _ c bl _ (HA.out.below hb13) (HB.out.below hb13)).mono ?_); intro e4 w4 h4; obtain ⟨v4, Q4, er4, rfl, hQ4, hb4, hc4⟩ := h4.read
       obtain ⟨rfl, rfl⟩ := hc3.uniq hc4
       obtain ⟨pr, ps4, pl, rfl, m1, m2, m3⟩ := id hQ4
       obtain ⟨p1, p2, p3, rfl, _⟩ := id m1.sl
       obtain ⟨p4, p5, p6, rfl, _⟩ := id m2.sl
       obtain ⟨p7, p8, p9, rfl, _⟩ := id (CellsV.sl m3)
       have ba4 := below_alloc w4 (.cells #[.slice p1 p2 p3, .slice p4 p5 p6, .slice p7 p8 p9] 27)
       have hb34 := below_then hb4 ba4
       have HQ4 := Lib.hid (hQ4.below ba4)
       have HQ34 := Lib.hid (HQ3.out.below hb34)
       have HC4 := Lib.hid (C3.new w4 27 (.slice p1 p2 p3) (.slice p4 p5 p6) (.slice p7 p8 p9))
       have HC34 := Lib.hid (HC3.out.belowS hb34)
       have hb14 := below_then hb13 hb34
       have HC14 := Lib.hid (HC.out.belowS hb14)
       have HA4 := Lib.hid (HA.out.below hb14)
       have HB4 := Lib.hid (HB.out.below hb14)
       have HI14 := Lib.hid (HI13.out.below hb34)
       have HI24 := Lib.hid (HI23.out.below hb34)
       have HBW := Lib.hid (below_then hbx hb14)
       clear hQ4 m1 m2 m3 ba4 hc3 hc4))
  generalize w4.alloc (.cells #[.slice p1 p2 p3, .slice p4 p5 p6, .slice p7 p8 p9] 27) = W5 at *
  have hD := below_drew (B := W5.heap.size) W5
  obtain ⟨_, a1, a2, a3, _, _, _⟩ := HC34.out.belowS hD
  obtain ⟨_, b1, b2, b3, _, _, _⟩ := HC4.out.belowS hD
  obtain ⟨_, c1, c2, c3, _, _, _⟩ := HC14.out.belowS hD
  have H9 := (And.intro a1 (And.intro a2 (And.intro a3 (And.intro b1 (And.intro b2 (And.intro b3 (And.intro c1 (And.intro c2 c3))))))))
  clear a1 a2 a3 b1 b2 b3 c1 c2 c3
  go_region_held3 (fun w' => w'.cell? ⟨w3.heap.size, 0, none⟩ = some (.slice q1 q2 q3) ∧ w'.cell? ⟨w3.heap.size, 1, none⟩ = some (.slice q4 q5 q6) ∧ w'.cell? ⟨w3.heap.size, 2, none⟩ = some (.slice q7 q8 q9) ∧ w'.cell? ⟨w4.heap.size, 0, none⟩ = some (.slice p1 p2 p3) ∧ w'.cell? ⟨w4.heap.size, 1, none⟩ = some (.slice p4 p5 p6) ∧ w'.cell? ⟨w4.heap.size, 2, none⟩ = some (.slice p7 p8 p9) ∧ w'.cell? ⟨w.heap.size, 0, none⟩ = some (.slice ra rn rk) ∧ w'.cell? ⟨w.heap.size, 1, none⟩ = some (.slice sa sn sk) ∧ w'.cell? ⟨w.heap.size, 2, none⟩ = some (.slice la ln lk)) (first
    | with_reducible exact H9
    | with_reducible exact keep9 (by assumption) (by assumption)) (first
    | (go_at_call 25; (with_reducible refine (same_ints _ _ L2 L2 _ (HI14.out.below hD) (HI24.out.below hD)).mono ?_); rintro e5 w5 ⟨⟨b5, rfl, hb5⟩, hbel5⟩; obtain rfl : b5 = true := hb5.2 rfl; clear hb5; have hb5D := below_then hD hbel5)
    | (go_at_call 17; (with_reducible refine (same_chain _ _ Q4 Q4 _ (HQ34.out.below hb5D) (HQ4.out.below hb5D)).mono ?_); rintro e6 w6 ⟨⟨b6, rfl, hb6⟩, hbel6⟩; obtain rfl : b6 = true := hb6.2 rfl; clear hb6; have hb6D := below_then hb5D hbel6)
    | (go_at_call 16; (with_reducible refine (check_any _ _ c bl _ (HA4.out.below hb6D) (HB4.out.below hb6D)).mono ?_); rintro e7 w7 ⟨⟨b7, rfl, hb7⟩, hbel7⟩; have HB7 := Lib.hid hb7; clear hb7; have hb7D := below_then hb6D hbel7)
    | (go_at_call 26; (with_reducible refine (rcheck_any _ _ c bl _ (HA4.out.below hb7D) (HB4.out.below hb7D)).mono ?_); rintro e8 w8 ⟨⟨b8, rfl, hb8⟩, hbel8⟩; obtain rfl : b7 = b8 := Bool.eq_iff_iff.2 (HB7.out.trans hb8.symm); clear hb8; have hb8D := below_then hb7D hbel8))
  cases b7 <;> (
    go_wp2
    go_ret
    exact ⟨rfl, below_then HBW.out hb8D⟩)
end Go.Proofs.Ytoldfpkafcefnaa
namespace Go.Proofs.Ytoldfpkafcefnaa
set_option linter.unusedVariables false
set_option linter.unusedSimpArgs false
open Go.RowKit

/-- append(s, x), s an own list of ints. -/
theorem append1_i64m {P : Program} (t e : TypeId) (i : TypeInfo) (ht : P.underlying t = some (.slice e)) (hi : P.info? e = some i) (hz : i.zero = some (.int .i64 0)) (hsize : i.size = 1) (hby : i.bytes = 8)
    (w0 : World) {ops : Array Oper} {rest : List Oper} {o : Oper} {a : Act} {Q : Exit → Act → World → Prop} (hgd : o.guard = none) (s x : Operand)
    (ho : o.op = .call { callee := .builtin .append, args := #[s, x], argTypes := #[t, t] }) (B : Nat) (e' : TypeId)
    (v : Value) (es : List Int) (hs : a.eval s = v) (hown : OwnE w0 e B v (es.map (Value.int .i64))) (y : Int) (hxe : a.eval x = .slice (some ⟨w0.heap.size, 0, none⟩) 1 1) (hn : es.length ≤ 1000) (hbase : B ≤ w0.heap.size)
    (h : ∀ v' w', OwnE w' e B v' ((es ++ [y]).map (Value.int .i64)) → Below B w0 w' → wpList P ops Q rest (a.put o.dst v') w') : wpList P ops Q (o :: rest) a (w0.alloc (.cells #[.int .i64 y] e')) := by
  refine wpList_append1_E w0 hgd s x t ho B e e' i (.int .i64 0) 8 ht hi hz hsize hby rfl v (es.map (Value.int .i64)) hs hown (.int .i64 y) hxe rfl (by simp [maxLen]; omega) (by simp; omega) hbase ?_
  intro v' w' h2 h4
  exact h v' w' (by rw [List.map_append]; exact h2) h4
set_option maxRecDepth 100000 in
set_option maxHeartbeats 6400000 in
theorem made_law (v vo : Value) (l l2 : List Nat) (w : World) (h : CellsV w v (bytes l)) (hb : ∀ x ∈ l, x < 256) (h2 : CellsV w vo (bytes l2)) (hb2 : ∀ x ∈ l2, x < 256) :
    Calls Try.prog 3 #[v, vo] w (fun e w' => e = .returned (.bool true) ∧ Below w.heap.size w w') := by
  obtain ⟨i1, hi1, hz1, hs1, hy1⟩ := info_parts Try.infoInt
  have hAI := append1_i64m (P := Try.prog) 28 3 i1 Try.underlying28 hi1 hz1 hs1 hy1
  clear hi1 hz1 hs1 hy1
  have s2 := CellsV.sl h2
  have l2n : slen vo = l2.length := by have := CellsV.len h2; simpa [bytes] using this
  have hl2 : l2.length ≤ 9223372036854775807 := by have := s2.le; omega
  go_enter Try.func3, Try.ntmps3
  go_wp2_with (first
    | (go_at_call 8; (with_reducible refine (read_any _ l _ h hb).mono ?_); rintro e1 w1 ⟨vd, vc, c, of, share, rfl, hD, hOf, hTP, hCP, hb1⟩
       obtain ⟨dr, ds, dl, rfl, k1, k2, k3⟩ := id hD
       obtain ⟨ard, nrd, krd, rfl, _⟩ := id k1.sl
       obtain ⟨asd, nsd, ksd, rfl, _⟩ := id k2.sl
       obtain ⟨ald, nld, kld, rfl, _⟩ := id (CellsV.sl k3)
       have hns : nsd = of.length := by have := k2.len; simpa [copQ, slen] using this
       subst hns
       have ho10 := hCP.le
       have ba2 := below_alloc w1 (.cells #[.slice ard nrd krd, .slice asd of.length ksd, .slice ald nld kld] 27)
       have hC2 := C3.new w1 27 (.slice ard nrd krd) (.slice asd of.length ksd) (.slice ald nld kld)
       have HC2 := Lib.hid hC2
       have HD2 := Lib.hid (hD.below ba2)
       have HO2 := Lib.hid (hOf.below ba2)
       have HB2 := Lib.hid (below_then hb1 ba2)
       obtain ⟨_, c0, c1, c2, _, _, _⟩ := id hC2
       clear hD hOf hTP hCP k1 k2 k3 hC2 ba2))
  generalize w1.alloc (.cells #[.slice ard nrd krd, .slice asd of.length ksd, .slice ald nld kld] 27) = W2 at *
  generalize w1.heap.size = S2 at *
  clear hb1
  go_loopw [7, 8] (fun u7 u8 wr => ∃ (k : Nat) (L : List Int), k ≤ of.length ∧ u8 = .int .i64 k ∧ L.length = k ∧ OwnE wr 3 W2.heap.size u7 (L.map (Value.int .i64)) ∧ Below W2.heap.size W2 wr) (fun _ u8 _ => of.length - (intOf u8).toNat)
  case atStart => exact ⟨0, [], Nat.zero_le _, rfl, rfl, OwnE.nil _ _ _, Below.refl _ _⟩
  case round =>
    obtain ⟨k, L, hk, rfl, hL, ho, hbr⟩ := hrel
    have HO := Lib.hid ho
    have s4 := ho.sl
    have hws := hbr.size
    obtain ⟨_, c0, c1, c2, _, _, _⟩ := HC2.out.belowS hbr
    have HL := Lib.hid hL
    have hL1 : L.length ≤ 1000 := by omega
    clear hL
    by_cases hkl : k < of.length
    · have i1 : (0 : Int) ≤ (k : Int) := by omega
      by_cases hk2 : k < l2.length
      · have hx := CellsV.cell (CellsV.below h2 (below_then HB2.out hbr)) k (by simpa [bytes] using hk2)
        have hx256 := hb2 _ (List.getElem_mem hk2)
        simp only [bytes, List.getElem_map] at hx
        generalize l2[k]'hk2 = x at *
        have i2 : (k : Int) < (l2.length : Nat) := by omega
        go_wp2_with (first
          | (at_builtin; refine hAI _ rfl _ _ rfl W2.heap.size _ u7 L rfl ho ((x % 3 : Nat) : Int) rfl hL1 hws ?_; intro v5 w5 ho5 hb5))
        go_roundw
        case rel => exact ⟨k + 1, _, hkl, by go_num, by simp [HL.out], ho5, hbr.trans hb5⟩
        case measure => simp [intOf]; omega
      · go_wp2_with (first
          | (at_builtin; refine hAI _ rfl _ _ rfl W2.heap.size _ u7 L rfl ho 0 rfl hL1 hws ?_; intro v5 w5 ho5 hb5))
        go_roundw
        case rel => exact ⟨k + 1, _, hkl, by go_num, by simp [HL.out], ho5, hbr.trans hb5⟩
        case measure => simp [intOf]; omega
    · obtain rfl : k = of.length := by omega
      have HINT : Hid (IntsV wr u7 L) := Lib.hid ⟨ho.sl, ho.len, fun j hj => ho.cell j hj⟩
      have hL10 : L.length ≤ 128 := by rw [HL.out]; omega
      have HBR := Lib.hid hbr
      have HBW := Lib.hid (below_then HB2.out hbr)
      have hbD := below_then hbr (below_drew (B := wr.heap.size) wr)
      obtain ⟨_, a1, a2, a3, _, _, _⟩ := HC2.out.belowS hbD
      have hIN := HINT.out.below (below_drew (B := wr.heap.size) wr)
      clear ho HO
      go_wp2_with fail
      clear hbr hws c0 c1 c2
      have tok1 : True := trivial
      go_region_held3 (fun w' => w'.cell? ⟨S2, 0, none⟩ = some (.slice ard nrd krd) ∧ w'.cell? ⟨S2, 1, none⟩ = some (.slice asd of.length ksd) ∧ w'.cell? ⟨S2, 2, none⟩ = some (.slice ald nld kld)) (first
        | with_reducible exact ⟨a1, a2, a3⟩
        | with_reducible exact keep3b (by assumption) (by assumption)) (first
        | (go_at_call 9; have _t := tok1; clear tok1 _t; (with_reducible refine (agrees_any _ _ (copQ c of share).raw of _ (HD2.out.below hbD).raw (HO2.out.below hbD)).mono ?_); rintro e5 w5 ⟨rfl, hb5⟩
           have hbE := below_then hbD hb5
           have hIN5 := hIN.below hb5)
        | (go_at_call 9; (with_reducible refine (agrees_any _ _ (copQ c of share).raw L _ (HD2.out.below hbE).raw hIN5).mono ?_); rintro e6 w6 ⟨rfl, hb6⟩
           have hbF := below_then hbE hb6
           have hIN6 := hIN5.below hb6)
        | (go_at_call 10; (with_reducible refine (num_any _ L _ hIN6 hL10).mono ?_); rintro e7 w7 ⟨v7, M, rfl, ho7, _, _, hb7⟩
           have hI7 : IntsV w7 v7 M := ⟨ho7.sl, ho7.len, fun j hj => ho7.cell j hj⟩
           have hbG := below_then hbF hb7)
        | (go_at_call 9; (with_reducible refine (agrees_any _ _ (copQ c of share).raw M _ (HD2.out.below hbG).raw hI7).mono ?_); rintro e8 w8 ⟨rfl, hb8⟩
           have hbH := below_then hbG hb8)
        | (go_at_call 11; (with_reducible refine (awake_any _).mono ?_); rintro e12 w12 ⟨rfl, hb12⟩
           have hbI := below_then hbH hb12))
      go_wp2
      go_ret
      exact ⟨rfl, below_then HB2.out hbI⟩
end Go.Proofs.Ytoldfpkafcefnaa
namespace Go.Proofs.Ytoldfpkafcefnaa
open Go.ChangeShapes Go.WideShapes Go.ChangeAt Go.RowKit
set_option linter.unusedVariables false
set_option linter.unusedSimpArgs false

theorem Try.ownK : ownKnob Try.prog.godebug = none := by kernel_rfl
theorem Try.laidOut : laidOutB Try.prog = true := by kernel_rfl
theorem Try.cellsU8 : Try.prog.cellsOf 5 = 1 := by kernel_rfl
/-- A slice of bytes that came in. -/
theorem bytes_in {W : World} {a : Addr} {len cap : Nat} {zs : List Int} (hl : len ≤ cap) (hm : cap ≤ maxLen) (hz : zs.length = cap) (hcell : ∀ i, i < zs.length → W.cell? (a.add i) = some (.int .u8 (zs.getD i 0))) (hwz : ∀ n ∈ zs, (Lit.int .u8 n).wf = true) :
    CellsV W (.slice (some a) len cap) (bytes ((zs.take len).map Int.toNat)) ∧ ∀ x ∈ (zs.take len).map Int.toNat, x < 256 := by
  have hb : ∀ n ∈ zs, 0 ≤ n ∧ n < 256 := fun n hn => by
    have := hwz n hn
    simp [Lit.wf, IntKind.min, IntKind.max, IntKind.signed, IntKind.bits] at this
    omega
  refine ⟨⟨⟨a, len, cap, rfl, hl, hm, fun e => by cases e⟩, by simp [bytes, slen]; omega, fun j hj => ?_⟩, fun x hx => ?_⟩
  · have hj2 : j < len := by simp [bytes] at hj; omega
    have hj3 : j < zs.length := by omega
    have h1 := hcell j hj3
    have h2 := hb _ (List.getElem_mem hj3)
    have e1 : zs.getD j 0 = zs[j] := by simp [List.getD, List.getElem?_eq_getElem hj3]
    rw [e1] at h1
    simp only [ptr, base, bytes, List.getElem_map, List.getElem_take]
    rw [h1]
    congr 2
    omega
  · obtain ⟨n, hn, rfl⟩ := List.mem_map.1 hx
    have := hb n (List.mem_of_mem_take hn)
    omega
set_option maxRecDepth 100000 in
theorem made_lifted (os : Os) (started : os.Started) (H : Type) (enc : TypeId × Value → H) :
    ReturnsInHanded {} Try.checked os 3 .any (Rows.lumpMadeSpec.pre6 enc Try.prog Try.f3 Rows.lumpMadeRow.domain false) (Rows.lumpMadeSpec.post enc Try.prog Try.f3 false true false false) := by
  refine returnsInHanded_of_change (C := Try.checked) Try.ownK started (by kernel_rfl) Try.func3
    (ChangeSpec.witness6 (enc := enc) (C := Try.checked) false ⟨#[], #[.slice none 0 0, .slice none 0 0], []⟩ 8 (by kernel_rfl) (by kernel_rfl) (by kernel_rfl) (by kernel_rfl)) ?_
  intro W base args ds gs before hval0 hW hcnd _
  have hval : ∀ (j : Nat) t v, Try.f3.params[j]? = some t → args[j]? = some v → Value.okWide Try.prog W .any base t v := hval0
  have hW' := hW
  obtain ⟨p, q, hA0, hV, rfl, hfz, hnd⟩ := hW
  have hA : DataW.TrodAll enc Try.prog W 0 (fun _ => true) true Try.f3.params.toList args.toList ds p := hA0
  rw [Try.params3] at hA hval
  obtain ⟨v0, v1, d0, d1, p0, p1, rfl, rfl, rfl, h0, h1⟩ := trodAll_two hA
  obtain ⟨rfl, rfl⟩ := trodVars_none hV
  obtain ⟨a0, len0, cap0, rfl⟩ := okWide_slice Try.underlying22 (hval 0 22 v0 rfl rfl)
  obtain ⟨a1, len1, cap1, rfl⟩ := okWide_slice Try.underlying22 (hval 1 22 v1 rfl rfl)
  have h0k := h0
  have h1k := h1
  clear hA0 hval0
  simp only [List.append_nil] at hW'
  have hlt : ∀ x ∈ p0 ++ p1, x.block < W.heap.size := fun x hx => hW'.lt x hx
  have hargs : ∀ (a : Option Addr) (len cap : Nat) (d : DataW H) (p : List MemPlace), DataW.Trod enc Try.prog W 0 (fun _ => true) true 22 (.slice a len cap) d p → (∀ x ∈ p, x.block < W.heap.size) → ∀ (W' : World), Below W.heap.size W W' → DataW.Trod enc Try.prog W' 0 (fun b => decide (b < W.heap.size)) true 22 (.slice a len cap) d p :=
    fun a len cap d p hd hl W' hn => Below.trod Try.laidOut (by kernel_rfl) (of_decide_eq_true (by kernel_rfl)) hd hn hl
  have rd : ∀ (a : Option Addr) (len cap : Nat) (d : DataW H) (p : List MemPlace), DataW.Trod enc Try.prog W 0 (fun _ => true) true 22 (.slice a len cap) d p → ∃ l, CellsV W (.slice a len cap) (bytes l) ∧ ∀ x ∈ l, x < 256 := by
    intro a len cap d p hd
    obtain ⟨fuel, hf⟩ := hd
    rcases open_ints Try.underlying22 Try.underlying5 Try.cellsU8 hf with ⟨hcs, hx⟩ | ⟨a, len', cap', zs, hcs, _, hl, hm, hz, hx, hcell, hwz⟩
    · simp [Value.cells] at hcs
      obtain ⟨rfl, rfl, rfl⟩ := hcs
      exact ⟨[], ⟨IsSl.nil, rfl, fun j h => by simp [bytes] at h⟩, fun x h => by simp at h⟩
    · simp [Value.cells] at hcs
      obtain ⟨rfl, rfl, rfl⟩ := hcs
      simp only [if_true] at hz
      exact ⟨_, bytes_in hl hm hz hcell hwz⟩
  obtain ⟨l0, r0, q0⟩ := rd _ _ _ _ _ h0
  obtain ⟨l1, r1, q1⟩ := rd _ _ _ _ _ h1
  refine (made_law _ _ l0 l1 W r0 q0 r1 q1).mono fun e W' ⟨he, hnx⟩ => ?_
  subst he
  refine ⟨_, rfl, _, _, _, [], (p0 ++ p1) ++ [], [], hW', ?_, ?_, rfl, hnx.frame _, fun h => by cases h⟩
  · exact trodAll_mk1 (shut_bool Try.underlying4 _)
  · have h9 := trodAll_mk2 (hargs _ _ _ _ _ h0k (fun x hx => hlt x (List.mem_append_left _ hx)) _ hnx) (hargs _ _ _ _ _ h1k (fun x hx => hlt x (List.mem_append_right _ hx)) _ hnx)
    rw [← List.append_nil (p0 ++ p1)] at h9
    exact h9
theorem lumpMade_holds : Rows.LumpMadeSaid :=
  OpenClaim.holds_of_wide 3 Try.f3 rfl rfl rfl rfl rfl rfl rfl ⟨rfl, rfl, rfl, rfl, rfl⟩ rfl rfl rfl rfl rfl (by kernel_rfl) Try.func3 (by kernel_rfl)
    (of_decide_eq_true (by kernel_rfl)) (by unfold Func.isWrapper; first | (rw [if_pos (by decide +kernel)]; kernel_rfl) | (rw [if_neg (by decide +kernel)]; exact ⟨rfl, rfl⟩))
    (fun os started H enc _ => made_lifted os started H enc)
#print axioms lumpMade_holds
end Go.Proofs.Ytoldfpkafcefnaa
