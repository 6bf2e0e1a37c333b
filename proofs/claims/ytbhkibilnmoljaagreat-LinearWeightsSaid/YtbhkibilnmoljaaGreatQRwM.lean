/-
  A matrix in the making: a slice of n made rows, of which the first k are finished. No code is walked here.
  Ahead of it: package linear: dot. package linear: Apply.
-/
import Derived.Test.YtbhkibilnmoljaaGreatQLi13
namespace Go.Proofs.YtbhkibilnmoljaaGreat
set_option linter.unusedVariables false
set_option linter.unusedSimpArgs false
open Go.RowKit

theorem lsum_rowL (n : Nat) (f : Nat → Rat) : lsum (rowL n f) = sg n f := by
  rw [lsum_sg, rowL_length]
  exact sg_congr fun j hj => by
    rw [List.getD_eq_getElem?_getD, List.getElem?_eq_getElem (by rw [rowL_length]; exact hj), rowL_get]; rfl
theorem rowL_take (n k : Nat) (f : Nat → Rat) (h : k ≤ n) : (rowL n f).take k = rowL k f := by
  unfold rowL; rw [← List.map_take, List.take_range, Nat.min_eq_left h]
theorem qs_of (l : List Rat) : qs (l.map RF.of) = l := by
  unfold qs; rw [List.map_map]
  have : (RF.q ∘ RF.of) = id := by funext q; exact RF.of_q q
  rw [this, List.map_id]
set_option maxRecDepth 100000 in
set_option maxHeartbeats 3200000 in
theorem dot_can (vu vv : Value) (n : Nat) (a b : Nat → Rat) (w : World) (hu : FracsC w vu (rowL n a)) (hv : FracsC w vv (rowL n b)) (hn : n ≤ 1000) (hfa : ∀ k, k < n → fits (a k)) (hfb : ∀ k, k < n → fits (b k))
    (hp : ∀ k, k < n → fits (a k * b k)) (hs : ∀ k, k ≤ n → fits (sg k fun j => a j * b j)) :
    Calls Tryz.prog 34 #[vu, vv] w (RF0 w (sg n fun j => a j * b j)) := by
  have su := hu.sl
  have lu : slen vu = n := by rw [hu.len, rowL_length]
  have sv := hv.sl
  have lv : slen vv = n := by rw [hv.len, rowL_length]
  obtain ⟨i0, hi, hz0, hz1, hz2⟩ := info_parts Tryz.infoF
  have hM := make_fr (P := Tryz.prog) 27 25 i0 Tryz.underlying27 hi hz0 hz1 (by rw [hz2]; decide)
  clear hi hz0 hz1 hz2
  have HU := Lib.hid hu
  have HV := Lib.hid hv
  have HFA := Lib.hid hfa
  have HFB := Lib.hid hfb
  have HP := Lib.hid hp
  have HS := Lib.hid hs
  have hb0 := below_alloc w (.cells #[.bool false, .slice none 0 0, .slice none 0 0] 25)
  have HR0 := Lib.hid (C3.new w 25 (.bool false) (.slice none 0 0) (.slice none 0 0))
  have hsz0 : (w.alloc (.cells #[.bool false, .slice none 0 0, .slice none 0 0] 25)).heap.size = w.heap.size + 1 := by simp
  have HSZ := Lib.hid hsz0
  clear hu hv hfa hfb hp hs hsz0
  go_enter Tryz.func34, Tryz.ntmps34
  go_upto_region 1 with fail
  obtain ⟨W0, hW0⟩ : ∃ W0, w.alloc (.cells #[.bool false, .slice none 0 0, .slice none 0 0] 25) = W0 := ⟨_, rfl⟩
  rw [hW0] at hb0 HR0 HSZ ⊢
  clear hW0
  have hB0 : w.heap.size ≤ W0.heap.size := hb0.size
  go_wp2_with (refine hM W0 rfl _ _ rfl W0.heap.size _ n rfl rfl rfl (by omega) (Nat.le_refl _) ?_; intro vl w1 hown hb1 hvb; have sl := hown.sl; have ll := hown.len)
  clear hM
  go_loopg [15] (n) (fun g u15 wr => ∃ (k : Nat), k ≤ n ∧ g = n - k ∧ u15 = .int .i64 k ∧ OwnFr wr 25 W0.heap.size vl n ∧ (∀ j, j < k → ElemC wr vl j (a j * b j)) ∧ Below W0.heap.size W0 wr)
  case atStart => exact ⟨0, Nat.zero_le _, rfl, rfl, hown, fun j h => by omega, hb1⟩
  case round =>
    obtain ⟨k, hk, hg, rfl, ho, he, hbr⟩ := hrel
    obtain ⟨w2, hw2⟩ : ∃ w2, w2 = wr := ⟨_, rfl⟩
    subst hw2
    clear hown hb1
    have HE := Lib.hid he
    have HG := Lib.hid hg
    have HO := Lib.hid ho
    have HBR := Lib.hid hbr
    have hbw := hb0.trans (hbr.mono hB0)
    clear he hg
    by_cases hkn : k < n
    · obtain ⟨ea, eb, g1, g2, g3, g4, g5⟩ := (HU.out.below hbw).at' k (by rw [rowL_length]; exact hkn)
      obtain ⟨ec, ed, g6, g7, g8, g9, g10⟩ := (HV.out.below hbw).at' k (by rw [rowL_length]; exact hkn)
      rw [rowL_get] at g1 g4 g5 g6 g9 g10
      obtain ⟨ea1, ea2, ea3, rfl, _⟩ := g4.v.sl
      obtain ⟨eb1, eb2, eb3, rfl, _⟩ := g5.v.sl
      obtain ⟨ec1, ec2, ec3, rfl, _⟩ := g9.v.sl
      obtain ⟨ed1, ed2, ed3, rfl, _⟩ := g10.v.sl
      have HFU : Hid (FracC w2 (.agg #[.bool (decide (a k < 0)), .slice ea1 ea2 ea3, .slice eb1 eb2 eb3]) (a k)) := Lib.hid ⟨_, _, rfl, g4, g5⟩
      have HFV : Hid (FracC w2 (.agg #[.bool (decide (b k < 0)), .slice ec1 ec2 ec3, .slice ed1 ed2 ed3]) (b k)) := Lib.hid ⟨_, _, rfl, g9, g10⟩
      have S0 := Lib.hid (And.intro g1 (And.intro g2 (And.intro g3 (And.intro g6 (And.intro g7 g8)))))
      have HF1 := Lib.hid (HFA.out k hkn)
      have HF2 := Lib.hid (HFB.out k hkn)
      have HF3 := Lib.hid (HP.out k hkn)
      have i1 : (0 : Int) ≤ (k : Int) := by omega
      have i2 : (k : Int) < (n : Nat) := by omega
      clear g4 g5 g9 g10 ho hbr hbw
      go_wp2_with fail
      go_cut [8, 9] (fun u8 u9 wy => ∃ (b8 : Nat) (t' : Bool) (x' y' : Value), u8 = .pointer (some ⟨b8, 0, none⟩) ∧ u9 = .int .i64 0 ∧ C3 wy b8 (.bool t') x' y' ∧ FracC wy (.agg #[.bool t', x', y']) (a k * b k) ∧ Below w2.heap.size w2 wy)
      case first =>
        go_region_held3 (fun w' => w'.cell? (ptr vu (k * 3)) = some (.bool (decide (a k < 0))) ∧ w'.cell? (ptr vu (k * 3 + 1)) = some (.slice ea1 ea2 ea3) ∧ w'.cell? (ptr vu (k * 3 + 2)) = some (.slice eb1 eb2 eb3) ∧ w'.cell? (ptr vv (k * 3)) = some (.bool (decide (b k < 0))) ∧ w'.cell? (ptr vv (k * 3 + 1)) = some (.slice ec1 ec2 ec3) ∧ w'.cell? (ptr vv (k * 3 + 2)) = some (.slice ed1 ed2 ed3) ∧ Below w2.heap.size w2 w') (first
          | with_reducible exact kp6a S0.out (below_drew _)
          | with_reducible exact kp6w (by assumption) (below_alloc _ _)
          | with_reducible exact kp6w (by assumption) (by assumption)
          | with_reducible exact kp6a S0.out (below_then hB31 (below_alloc _ _))
          | with_reducible exact kp6s S0.out hB31 (Nat.le_refl _) _ _ _) (first
          | (go_at_call 56; (with_reducible refine (mul_can _ _ (a k) (b k) _ (HFU.out.below (kp6c (by assumption))) (HFV.out.below (kp6c (by assumption))) HF1.out HF2.out HF3.out).mono ?_); rintro e31 w31 ⟨v31, rfl, hv31, hb31⟩
             obtain ⟨t31, x31, y31, rfl, ⟨a311, l311, k311, rfl, _⟩, ⟨a312, l312, k312, rfl, _⟩⟩ := hv31.isF
             have hB31 := below_then (kp6c (by assumption)) hb31
             have hc5 := (fun (p : Addr) hp => hb31.cell (p := p) hp)
             have hf5 := (fun (p : Addr) hp => hb31.frozen (p := p) hp)
             have zq := hb31.size
             (try simp only [sizeA, sizeD] at zq)
             (try have z1 : w2.heap.size < w31.heap.size := (by omega))))
        all_goals
          have hE := kp6c (by assumption)
          go_wp2_with fail
          go_meet
          case rel =>
            first
              | exact ⟨_, _, _, _, rfl, rfl, C3.new w31 _ _ _ _, hv31.below (below_alloc _ _), hE⟩
              | exact ⟨_, _, _, _, rfl, rfl, ((C3.newB (b := w2.heap.size) w2.drew 25 (.bool false) (.slice none 0 0) (.slice none 0 0) rfl).belowS hb31).set _ _ _, hv31.set3 ((C3.newB (b := w2.heap.size) w2.drew 25 (.bool false) (.slice none 0 0) (.slice none 0 0) rfl).belowS hb31) (fun z => by simp) (fun z => by simp) _ _ _, hE⟩
              | exact ⟨_, _, _, _, rfl, rfl, (((C3.newB (b := w2.heap.size) w2 25 (.bool false) (.slice none 0 0) (.slice none 0 0) rfl).belowS (below_drew _)).belowS hb31).set _ _ _, hv31.set3 (((C3.newB (b := w2.heap.size) w2 25 (.bool false) (.slice none 0 0) (.slice none 0 0) rfl).belowS (below_drew _)).belowS hb31) (fun z => by simp) (fun z => by simp) _ _ _, hE⟩
      case rest =>
        obtain ⟨b8, t6, x6, y6, rfl, rfl, hC6, hv6, hb6⟩ := hcut
        obtain ⟨w3, hw3⟩ : ∃ w3, w3 = wc := ⟨_, rfl⟩
        subst hw3
        obtain ⟨_, _, _, hF6, ⟨a61, l61, k61, rfl, _⟩, ⟨a62, l62, k62, rfl, _⟩⟩ := id hv6.isF
        injection hF6 with hF6
        injection hF6 with hF6
        simp only [List.cons.injEq, and_true, Value.bool.injEq] at hF6
        obtain ⟨rfl, rfl, rfl⟩ := hF6
        have ho3 := HO.out.below hb6
        obtain ⟨c0, d0, _⟩ := ho3.cell (k * 3) (by omega)
        obtain ⟨c1, d1, _⟩ := ho3.cell (k * 3 + 1) (by omega)
        obtain ⟨c2, d2, _⟩ := ho3.cell (k * 3 + 2) (by omega)
        have f0 := ho3.frozen (k * 3)
        have f1 := ho3.frozen (k * 3 + 1)
        have f2 := ho3.frozen (k * 3 + 2)
        have n01 := ho3.inj (show k * 3 ≠ k * 3 + 1 by omega)
        have n02 := ho3.inj (show k * 3 ≠ k * 3 + 2 by omega)
        have n12 := ho3.inj (show k * 3 + 1 ≠ k * 3 + 2 by omega)
        have HS3 := Lib.hid (ho3.set3 k (.bool t6) (.slice a61 l61 k61) (.slice a62 l62 k62) (fun z => by simp) (fun z => by simp) (fun z => by simp))
        have HE3 := Lib.hid (fun j hj => (HE.out j hj).below hb6)
        have HO3 := Lib.hid ho3
        have HV6 := Lib.hid hv6
        have HB3 := Lib.hid (below_then2 HBR.out hb6 HBR.out.size)
        obtain ⟨_, q1, q2, q3, _, _, _⟩ := hC6
        clear ho3 hv6 hb6 g1 g2 g3 g6 g7 g8
        go_wp2_with fail
        go_roundg (n - (k + 1))
        case measure => (have := HG.out; omega)
        case rel =>
          refine ⟨k + 1, by omega, rfl, by go_num, HS3.out.1, fun j hj => ?_, HB3.out.trans HS3.out.2⟩
          rcases Nat.lt_or_ge j k with h6 | h6
          · exact ElemC.set3_other HO3.out hkn (by omega) (HE3.out j h6) _ _ _ (fun z => by simp) (fun z => by simp)
          · obtain rfl : j = k := by omega
            exact ElemC.set3 HO3.out hkn HV6.out
    · obtain rfl : k = n := by omega
      have hfr : FracsC w2 vl (rowL k fun j => a j * b j) := ho.fracs (rowL_length _ _) (fun j hj => by rw [rowL_length] at hj; rw [rowL_get]; exact HE.out j hj)
      have hraw := hfr.raw
      have HOK : Hid (∀ x ∈ (rowL k fun j => a j * b j).map RF.of, x.ok) := Lib.hid (fun x hx => by
        obtain ⟨q, hq, rfl⟩ := List.mem_map.1 hx
        obtain ⟨j, hj, rfl⟩ := List.mem_map.1 hq
        exact RF.of_ok (HP.out j (List.mem_range.1 hj)))
      have HFT : Hid (∀ j, j ≤ ((rowL k fun j => a j * b j).map RF.of).length → fits (lsum (qs (((rowL k fun j => a j * b j).map RF.of).take j)))) := Lib.hid (fun j hj => by
        rw [List.length_map, rowL_length] at hj
        rw [← List.map_take, qs_of, rowL_take _ _ _ hj, lsum_rowL]
        exact HS.out j hj)
      have HVAL : Hid (lsum (qs ((rowL k fun j => a j * b j).map RF.of)) = sg k fun j => a j * b j) := Lib.hid (by rw [qs_of, lsum_rowL])
      have HR2 := Lib.hid (HR0.out.below hbr HR0.out.lt)
      have HBW := Lib.hid hbw
      clear hfr ho hbr hbw
      go_wp2_with (go_at_call 57; (with_reducible refine (sum_frac vl _ _ hraw HOK.out HFT.out).mono ?_); rw [HVAL.out]; rintro e5 w5 ⟨v5, rfl, hv5, hb5⟩
                   obtain ⟨t9, x9, y9, rfl, ⟨a1, l91, k91, rfl, _⟩, ⟨a2, l92, k92, rfl, _⟩⟩ := hv5.isF
                   have HR5 := Lib.hid (HR2.out.belowS hb5)
                   obtain ⟨_, c0, c1, c2, f0, f1, f2⟩ := HR5.out)
      refine bodyPost_c3 rfl rfl Tryz.aggF Tryz.sizeF (HR5.out.set _ _ _) rfl ?_
      exact ⟨_, rfl, hv5.set3 HR5.out (fun z => by simp) (fun z => by simp) _ _ _, below_set3 (below_then HBW.out hb5) (Nat.le_refl _) _ _ _⟩
end Go.Proofs.YtbhkibilnmoljaaGreat
namespace Go.Proofs.YtbhkibilnmoljaaGreat
set_option linter.unusedVariables false
set_option linter.unusedSimpArgs false
open Go.RowKit

end Go.Proofs.YtbhkibilnmoljaaGreat
namespace Go.Proofs.YtbhkibilnmoljaaGreat
set_option linter.unusedVariables false
set_option linter.unusedSimpArgs false
open Go.RowKit

theorem OwnFr.overM {w : World} {e : TypeId} {B n : Nat} {v : Value} (h : OwnFr w e B v n) {p : Addr} (hp : p.block ≠ (base v).block) (u : Value) : OwnFr (w.setCell p u) e B v n := by
  obtain ⟨g, cs, rfl, h1, h2⟩ := h
  refine ⟨g, cs, rfl, ⟨h1.1, ?_⟩, h2⟩
  rcases h1.2 with ⟨h', _⟩ | ⟨g', cap, cur, h', hb, hg, rest⟩
  · cases h'
  · refine .inr ⟨g', cap, cur, h', hb, ?_, rest⟩
    injection h' with h4
    injection h4 with h4
    injection h4 with h4
    subst h4
    simp only [base] at hp
    rw [Below.heap_setCell _ _ _ _ (fun e => hp e.symm)]; exact hg
structure RowsM (w : World) (B : Nat) (v : Value) (rs : List Value) (n k : Nat) (q : Nat → List Rat) : Prop where
  own : OwnR w 27 B 1 v n rs
  row : ∀ (i : Nat) (h : i < rs.length), i < k → FracsC w rs[i] (q i) ∧ (base rs[i]).block ≠ (base v).block
section
variable {w w' : World} {B n k : Nat} {v : Value} {rs : List Value} {q : Nat → List Rat}
theorem RowsM.rl (h : RowsM w B v rs n k q) : rs.length = n := by have := h.own.clen; omega
theorem RowsM.start (h : OwnR w 27 B 1 v n (List.replicate n (.slice none 0 0))) : RowsM w B v (List.replicate n (.slice none 0 0)) n 0 q :=
  ⟨h, fun i _ hi => by omega⟩
theorem RowsM.below (h : RowsM w B v rs n k q) (hb : Below w.heap.size w w') : RowsM w' B v rs n k q :=
  ⟨h.own.below hb, fun i h1 h2 => ⟨(h.row i h1 h2).1.below hb, (h.row i h1 h2).2⟩⟩
theorem RowsM.vblock (h : RowsM w B v rs n k q) (hn : 0 < n) : B ≤ (base v).block ∧ (base v).block < w.heap.size := by
  obtain ⟨g, _, e2, e3, e4, _⟩ := h.own.blk (by have := h.own.clen; omega)
  omega
/-- A row is stored as row i, of those that are not finished. -/
theorem RowsM.put (h : RowsM w B v rs n k q) (i : Nat) (hi : i < n) (hk : k ≤ i) {u : Value} (hu : ∀ z, u ≠ .int .u32 z) : RowsM (w.setCell (ptr v i) u) B v (rs.set i u) n k q ∧ Below B w (w.setCell (ptr v i) u) := by
  have hir : i < rs.length := by rw [h.rl]; exact hi
  have hvb := h.vblock (by omega)
  obtain ⟨s1, s2⟩ := h.own.set1 i hir u hu
  have hpL : (ptr v i).block = (base v).block := ptr_block _ _
  refine ⟨⟨s1, fun j hj hjk => ?_⟩, (Below.refl B w).setCell (by rw [hpL]; exact hvb.1) _⟩
  have hj0 : j < rs.length := by simpa using hj
  rw [List.getElem_set_ne (by omega)]
  obtain ⟨r1, r2⟩ := h.row j hj0 hjk
  exact ⟨r1.setc (by rw [hpL]; exact r2) (h.own.cell i hir) (fun z => h.own.cell_ne i hir z) _, r2⟩
/-- A cell of another block, no limb, is written. -/
theorem RowsM.other (h : RowsM w B v rs n k q) {p : Addr} {x : Value} (hp : p.block ≠ (base v).block) (hr : ∀ (i : Nat) (h : i < rs.length), i < k → (base rs[i]).block ≠ p.block) (hc : w.cell? p = some x) (hx : ∀ z, x ≠ .int .u32 z) (u : Value) : RowsM (w.setCell p u) B v rs n k q := by
  have hm : OwnR (w.setCell p u) 27 B 1 v n rs := by
    have hlt := h.own.block
    refine ⟨⟨h.own.own.1, ?_⟩, fun g hg cur e' fz hcc => ?_⟩
    · rcases h.own.own.2 with ⟨rfl, h0⟩ | ⟨g, cap, cur, rfl, hb, hg, rest⟩
      · exact .inl ⟨rfl, h0⟩
      · refine .inr ⟨g, cap, cur, rfl, hb, ?_, rest⟩
        rw [Below.heap_setCell _ _ _ _ (by intro e; exact hp (e.symm.trans rfl))]; exact hg
    · have hg2 : g = (base v).block := by
        obtain ⟨a, b, c, rfl, _⟩ := h.own.sl
        cases a with
        | none => cases hg
        | some a => simp only [Value.ownBlock, Option.some.injEq] at hg; exact hg.symm
      rw [Below.heap_setCell _ _ _ _ (by intro e; exact hp (by rw [← e, hg2]))] at hcc
      exact h.own.nl g hg cur e' fz hcc
  exact ⟨hm, fun i h1 h2 => ⟨(h.row i h1 h2).1.setc (hr i h1 h2) hc hx u, (h.row i h1 h2).2⟩⟩
theorem RowsM.set3 (h : RowsM w B v rs n k q) {e : TypeId} {B' c : Nat} {t : Value} (ho : OwnFr w e B' t c) (hb : (base t).block ≠ (base v).block) (hr : ∀ (i : Nat) (h : i < rs.length), i < k → (base rs[i]).block ≠ (base t).block) (j : Nat) (hj : j < c) (x y z : Value) (hx : ∀ m, x ≠ .int .u32 m) (hy : ∀ m, y ≠ .int .u32 m) :
    RowsM (((w.setCell (ptr t (j * 3)) x).setCell (ptr t (j * 3 + 1)) y).setCell (ptr t (j * 3 + 2)) z) B v rs n k q := by
  have hp : ∀ m, (ptr t m).block = (base t).block := fun m => ptr_block _ _
  obtain ⟨c0, d0, e0⟩ := ho.cell (j * 3) (by omega)
  have h1 := h.other (p := ptr t (j * 3)) (by rw [hp]; exact hb) (fun i h1 h2 => by rw [hp]; exact hr i h1 h2) d0 e0 x
  have o1 := (ho.set (j * 3) x hx).1
  obtain ⟨c1, d1, e1⟩ := o1.cell (j * 3 + 1) (by omega)
  have h2 := h1.other (p := ptr t (j * 3 + 1)) (by rw [hp]; exact hb) (fun i h1 h2 => by rw [hp]; exact hr i h1 h2) d1 e1 y
  have o2 := (o1.set (j * 3 + 1) y hy).1
  obtain ⟨c2, d2, e2⟩ := o2.cell (j * 3 + 2) (by omega)
  exact h2.other (p := ptr t (j * 3 + 2)) (by rw [hp]; exact hb) (fun i h1 h2 => by rw [hp]; exact hr i h1 h2) d2 e2 z
/-- Row k is finished. -/
theorem RowsM.done (h : RowsM w B v rs n k q) (hk : k < rs.length) (hf : FracsC w rs[k] (q k)) (hb : (base rs[k]).block ≠ (base v).block) : RowsM w B v rs n (k + 1) q :=
  ⟨h.own, fun i h1 h2 => by
    rcases Nat.lt_or_ge i k with h3 | h3
    · exact h.row i h1 h3
    · obtain rfl : i = k := by omega
      exact ⟨hf, hb⟩⟩
theorem RowsM.mat {m : Nat} {A : Mx} (h : RowsM w B v rs n n (fun i => rowL m (A i))) : MatF w v n m A :=
  ⟨h.own.sl, h.own.len, fun i hi => by
    have h1 : i < rs.length := by rw [h.rl]; exact hi
    exact ⟨rs[i], h.own.cell i h1, (h.row i h1 hi).1⟩⟩
end
end Go.Proofs.YtbhkibilnmoljaaGreat
