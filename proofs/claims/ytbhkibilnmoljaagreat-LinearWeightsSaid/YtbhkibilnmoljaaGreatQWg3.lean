/-
  package drydockref05, of a matrix of one element: Solve.
-/
import Derived.Test.YtbhkibilnmoljaaGreatQWg2
namespace Go.Proofs.YtbhkibilnmoljaaGreat
set_option linter.unusedVariables false
set_option linter.unusedSimpArgs false
open Go.RowKit




/-- A row is replaced by one that was appended to. -/
theorem OneT.push {w w' : World} {B S n m i : Nat} {vt r r' : Value} {x y : Nat → Rat} {p : List Rat} (h : OneT w B S vt r n x) (hr : FrRow w' 25 B r' (rowL n x ++ p)) (hg : w.grownBy w' r.ownBlock) (hm : 0 < m) (hy : rowL n x ++ p = rowL m y) (hi : i = 0) :
    OneT (w'.setCell (ptr vt i) r') B w'.heap.size vt r' m y ∧ Below B w (w'.setCell (ptr vt i) r') := by
  subst hi
  have hBw : B ≤ w.heap.size := by
    obtain ⟨g, _, _, hB, hgs, _⟩ := h.t.blk (by simp)
    omega
  have hb : Below B w w' := below_of_grown hg hBw (fun k hk => (h.row.block k hk).1)
  obtain ⟨ys, y1, y2⟩ := id h.row
  have ht := h.t.grown hg (h.t.kinds y1 (by decide))
  have hs := ht.set1 0 (by simp) r' (fun z e => by obtain ⟨a1, a2, a3, e1, _⟩ := hr.sl; rw [e1] at e; cases e)
  rw [hy] at hr
  obtain ⟨zs, z1, z2⟩ := id hr
  have hr2 : FrRow (w'.setCell (ptr vt 0) r') 25 B r' (rowL m y) := hr.grown hs.2 ht.nl (z1.kinds ht (by decide))
  obtain ⟨g, k1, k2, k3, k4, _⟩ := ht.blk (by simp)
  obtain ⟨g', j1, j2, j3, j4, _⟩ := hr.blk (by rw [rowL_length]; exact hm)
  refine ⟨⟨hs.1, hr2, hm, by rw [k2]; exact k4, by rw [j2]; exact j4, by simp [World.setCell]⟩, hb.setCell (p := ptr vt 0) (by rw [ptr_block, k2]; exact k3) _⟩
theorem r2reduce_can (va : Value) (q : Rat) (w : World) (ha : FracC w va q) (hq : fits q) : Calls Tryz.prog 27 #[va] w (RF0 w q) := by
  have h := r2reduce_ok va (RF.of q) w ha.raw (RF.of_ok hq)
  rw [RF.of_q] at h
  exact h
/-- The row with its right side. -/
def two (p q : Rat) : Nat → Rat := fun j => if j = 0 then p else q
theorem two_row {i : Nat} (hi : i = 0) (p q : Rat) : rowL (1 + i) (two p q) ++ [q] = rowL (1 + (i + 1)) (two p q) := by subst hi; rfl
theorem two_fits {p q : Rat} (hp : fits p) (hq : fits q) : ∀ k, k < 2 → fits (two p q k) := fun k _ => by unfold two; split <;> assumption
theorem two_div {p q : Rat} (h0 : p ≠ 0) (hqp : fits (q / p)) : ∀ k, k < 2 → fits (two p q k / two p q 0) := fun k _ => by
  have e : two p q 0 = p := rfl
  rw [e]
  unfold two
  split
  · rw [q_self h0]; exact fits_one
  · exact hqp
set_option maxRecDepth 100000 in
set_option maxHeartbeats 6400000 in
theorem rsolve1_any (va vb : Value) (p q : Rat) (w : World) (ha : MatF w va 1 1 (elM p)) (hb : FracsC w vb [q]) (h0 : p ≠ 0) (hp : fits p) (hq : fits q) (hqp : fits (q / p)) : Calls Tryz.prog 6 #[va, vb] w (RAnsV w (solAns p q)) := by
  obtain ⟨i3, hi3, hz3, hs3, hy3⟩ := info_parts Tryz.infoF
  have hAP := fun {ops : Array Oper} {o : Oper} {a : Act} {w : World} {K : Act → World → Prop} {Q : Exit → Act → World → Prop} {E : Prop} => step_app_frB (P := Tryz.prog) 27 25 i3 Tryz.underlying27 hi3 hz3 hs3 hy3 (ops := ops) (o := o) (a := a) (w := w) (K := K) (Q := Q) (E := E)
  have hA1 := append1_fr (P := Tryz.prog) 27 25 i3 Tryz.underlying27 hi3 hz3 hs3 hy3
  clear hi3 hz3 hs3 hy3
  have HS : Hid (shapeP (rawM 1 1 (elM p))) := Lib.hid (rawM_shape (by decide) (by decide) (by decide) (by decide) (elM_fit hp))
  have HC : Hid ((rawM 1 1 (elM p)).length = 1 ∧ cols (rawM 1 1 (elM p)) = 1) := Lib.hid ⟨rawM_length _ _ _, el1_cols p⟩
  have HN : Hid (MatN w va (rawM 1 1 (elM p))) := Lib.hid ha.raw
  have HQ1 : Hid (rQ (rawM 1 1 (elM p)) 0 0 = p) := Lib.hid (el1_q p)
  have HW : Hid (wtsM (rawM 1 1 (elM p)) = wt p) := Lib.hid (wtF_one p)
  obtain ⟨a, hra⟩ : ∃ a, rawM 1 1 (elM p) = a := ⟨_, rfl⟩
  rw [hra] at HS HC HN HQ1 HW
  have H0 := Lib.hid h0
  have HP := Lib.hid hp
  clear hra h0 hp
  have sa := ha.sl
  obtain ⟨v1, v2, v3, rfl, _⟩ := id hb.sl
  have sb := hb.sl
  obtain rfl : v2 = 1 := hb.len
  have HFQ := Lib.hid hq
  have HQP := Lib.hid hqp
  have HBC := Lib.hid hb
  have hv : vecP (rawV 1 (fun _ => q)) 1 := ⟨rawV_ok (fun _ _ => hq), rawV_length 1 _⟩
  have HB : Hid (FracsN w (.slice v1 1 v3) (rawV 1 (fun _ => q))) := Lib.hid (by have h := hb.raw; exact h)
  have HV : Hid (decide (vecP (rawV 1 (fun _ => q)) 1) = true) := Lib.hid (decide_eq_true hv)
  have HVO := Lib.hid hv.1
  have HVC : Hid (∀ w0, FracsN w0 (.slice v1 1 v3) (rawV 1 (fun _ => q)) → Calls Tryz.prog 23 #[.slice v1 1 v3, .int .i64 1] w0 fun e w' => e = .returned (.bool true) ∧ Below w0.heap.size w0 w') := Lib.hid (fun w0 h => (rvector_any _ (rawV 1 (fun _ => q)) 1 w0 h).mono fun e w' h => by rw [HV.out] at h; exact h)
  have HWQ : Hid (wts (qs (rawV 1 (fun _ => q))) = wt q) := Lib.hid (wts_one q)
  clear ha hb hq hqp hv
  obtain ⟨W, hW⟩ : ∃ W, wt p = W := ⟨_, rfl⟩
  obtain ⟨W', hW'⟩ : ∃ W', wt q = W' := ⟨_, rfl⟩
  rw [hW] at HW
  rw [hW'] at HWQ
  have HWB : Hid (W ≤ 8192 ∧ W' ≤ 8192) := Lib.hid ⟨by rw [← hW]; exact wt_le HP.out, by rw [← hW']; exact wt_le HFQ.out⟩
  have wl1 := HWB.out.1
  have wl2 := HWB.out.2
  unfold solAns
  rw [hW, hW']
  clear hW hW'
  by_cases hw : 1900 < W + W'
  · rw [if_pos hw]
    have hwi : (1900 : Int) < (W : Int) + (W' : Int) := by omega
    go_enter Tryz.func6, Tryz.ntmps6
    go_wp2_with (first
      | (go_at_call 22; (with_reducible refine (rshape_ok va a 1 1 _ HN.out HS.out HC.out.1 HC.out.2).mono ?_); rintro e1 w1 ⟨rfl, hb1⟩)
      | (go_at_call 23; (with_reducible refine (HVC.out _ (HB.out.below hb1)).mono ?_); rintro e2 w2 ⟨rfl, hb2⟩
         have hB2 := below_then hb1 hb2)
      | (go_at_call 24; (with_reducible refine (rweights_any va a _ (HN.out.below hB2) HS.out).mono ?_); rw [HW.out]; rintro e3 w3 ⟨rfl, hb3⟩
         have hB3 := below_then hB2 hb3)
      | (go_at_call 25; (with_reducible refine (rweight_any _ _ _ (HB.out.below hB3) HVO.out (by rw [rawV_length]; decide)).mono ?_); rw [HWQ.out]; rintro e4 w4 ⟨rfl, hb4⟩
         have hB4 := below_then hB3 hb4))
    go_ret2
    exact ⟨_, rfl, FracsC.nil _, hB4⟩
  · rw [if_neg hw]
    have hwi : ¬ (1900 : Int) < (W : Int) + (W' : Int) := by omega
    go_enter Tryz.func6, Tryz.ntmps6
    go_wp2_with (first
      | (go_at_call 22; (with_reducible refine (rshape_ok va a 1 1 _ HN.out HS.out HC.out.1 HC.out.2).mono ?_); rintro e1 w1 ⟨rfl, hb1⟩)
      | (go_at_call 23; (with_reducible refine (HVC.out _ (HB.out.below hb1)).mono ?_); rintro e2 w2 ⟨rfl, hb2⟩
         have hB2 := below_then hb1 hb2)
      | (go_at_call 24; (with_reducible refine (rweights_any va a _ (HN.out.below hB2) HS.out).mono ?_); rw [HW.out]; rintro e3 w3 ⟨rfl, hb3⟩
         have hB3 := below_then hB2 hb3)
      | (go_at_call 25; (with_reducible refine (rweight_any _ _ _ (HB.out.below hB3) HVO.out (by rw [rawV_length]; decide)).mono ?_); rw [HWQ.out]; rintro e4 w4 ⟨rfl, hb4⟩
         have hB4 := below_then hB3 hb4)
      | (go_at_call 26; (with_reducible refine (rcopied_any va a 1 1 _ (HN.out.below hB4) HS.out HC.out.1 HC.out.2).mono ?_); rintro e5 w5 ⟨v5, rs5, rfl, hl5, hm5, hb5⟩
         obtain ⟨r5, ht5⟩ := hm5.one hl5 (by decide)
         have HT5 := Lib.hid (ht5.congr (y := two p q) (fun j hj => by obtain rfl : j = 0 := (by omega); rw [HQ1.out]; rfl))
         have HB4 := Lib.hid hB4
         have HB5 := Lib.hid hb5
         have HSZ5 := Lib.hid hm5.sz
         clear ht5 hm5 hb5 hB4 hb4 hB3 hb3 hB2 hb2 hb1))
    obtain ⟨B, hBd⟩ : ∃ B, w4.heap.size = B := ⟨_, rfl⟩
    rw [hBd] at HT5 HB5 HSZ5
    go_loopg [10] (1) (fun g u10 wr => ∃ (i : Nat) (r : Value), i ≤ 1 ∧ g = 1 - i ∧ u10 = .int .i64 i ∧ OneT wr B wr.heap.size v5 r (1 + i) (two p q) ∧ Below B w4 wr)
    case atStart => exact ⟨0, r5, Nat.zero_le _, rfl, rfl, HT5.out, HB5.out⟩
    case round =>
      obtain ⟨i, r, hi, hg, rfl, hT, hbr⟩ := hrel
      obtain ⟨w6, hw6⟩ : ∃ w6, w6 = wr := ⟨_, rfl⟩
      subst hw6
      obtain ⟨r1, r2, r3, rfl, _⟩ := id hT.row.sl
      have HG := Lib.hid hg
      have HT := Lib.hid hT
      have HBR := Lib.hid hbr
      have hBw := below_then2 HB4.out (hbr.mono (by have := HB5.out.size; omega)) HB4.out.size
      have sv5 : IsSl v5 := hT.t.sl
      have lv5 : slen v5 = 1 := hT.t.len
      clear hg HT5 HB5
      by_cases hi1 : i < 1
      · have hi0 : i = 0 := by omega
        have HI0 := Lib.hid hi0
        have hc : w6.cell? (ptr v5 i) = some (.slice r1 r2 r3) := by rw [hi0]; exact hT.cell
        have hq0 : ∀ h, ([q])[i]'h = q := fun h => by have := HI0.out; subst this; rfl
        obtain ⟨ea, eb, g1, g2, g3, g4, g5⟩ := (HBC.out.below hBw).at' i (by simpa using hi1)
        rw [hq0] at g1 g4 g5
        obtain ⟨ea1, ea2, ea3, rfl, _⟩ := g4.v.sl
        obtain ⟨eb1, eb2, eb3, rfl, _⟩ := g5.v.sl
        have HE : Hid (FracC w6 (.agg #[.bool (decide (q < 0)), .slice ea1 ea2 ea3, .slice eb1 eb2 eb3]) q) := Lib.hid ⟨_, _, rfl, g4, g5⟩
        have j1 : (0 : Int) ≤ (i : Int) := by omega
        have j2 : (i : Int) < 1 := by omega
        clear g4 g5 hq0 hT hbr hBw hi0
        go_wp2_with (go_at_call 27; (with_reducible refine (r2reduce_can _ q _ HE.out HFQ.out).mono ?_); rintro e13 w13 ⟨v13, rfl, hv13, hb13⟩
                     obtain ⟨t13, x13, y13, rfl, ⟨a131, l131, k131, rfl, q131⟩, ⟨a132, l132, k132, rfl, q132⟩⟩ := hv13.isF
                     have hba := below_alloc w13 (.cells #[.bool t13, .slice a131 l131 k131, .slice a132 l132 k132] 25)
                     have hb14 := below_then hb13 hba
                     have HV14 := Lib.hid (hv13.below hba)
                     have HC14 := Lib.hid (C3.new w13 25 (.bool t13) (.slice a131 l131 k131) (.slice a132 l132 k132))
                     have HT14 := Lib.hid (HT.out.below hb14)
                     have HB14 := Lib.hid (below_then2 HBR.out hb14 (by have := HBR.out.size; have := HT.out.sz; omega))
                     have hc14 := cell_below hb14 hc
                     obtain ⟨_, c0, c1, c2, _, _, _⟩ := HC14.out
                     clear hb13 hba hb14 hv13 g1 g2 g3 hc)
        obtain ⟨b11, hb11⟩ : ∃ b, w13.heap.size = b := ⟨_, rfl⟩
        rw [hb11] at HC14 c0 c1 c2
        rw [hb11]
        clear hb11
        generalize w13.alloc (.cells #[.bool t13, .slice a131 l131 k131, .slice a132 l132 k132] 25) = w7 at *
        have hbD := below_drew (B := w7.heap.size) w7
        refine wpL.start 8 (fun w' => w'.cell? (ptr v5 i) = some (.slice r1 r2 r3) ∧ w'.cell? ⟨b11, 0, none⟩ = some (.bool t13) ∧ w'.cell? ⟨b11, 1, none⟩ = some (.slice a131 l131 k131) ∧ w'.cell? ⟨b11, 2, none⟩ = some (.slice a132 l132 k132)) (by kernel_rfl) ⟨cell_below hbD hc14, cell_below hbD c0, cell_below hbD c1, cell_below hbD c2⟩ (fun hHeld => ?_)
        generalize w7.drew = w7d at *
        (refine wpL.takeU 0 (by kernel_rfl) (by kernel_rfl) (by kernel_rfl) (by kernel_rfl) (by kernel_rfl) (by assumption) (by kernel_rfl) ?_; intro oi hoi; simp only [List.getElem?_toArray, List.getElem?_cons_succ, List.getElem?_cons_zero, Option.some.injEq] at hoi; subst hoi)
        first
          | (refine ⟨undef, fun _ _ _ h => h, Or.inr ⟨by rfl, rfl⟩, ?_⟩; simp only [Act.put, List.setIfInBounds_toArray, List.set_cons_zero, List.set_cons_succ])
          | (refine ⟨?_, fun _ _ _ h => h, Or.inl ⟨by rfl, ?_⟩, ?_⟩; rotate_left; focus (intro w hSw; go_simp; try with_reducible rfl)
             simp only [Act.put, List.setIfInBounds_toArray, List.set_cons_zero, List.set_cons_succ])
          | fail "op 0"
        (refine wpL.takeU 1 (by kernel_rfl) (by kernel_rfl) (by kernel_rfl) (by kernel_rfl) (by kernel_rfl) (by assumption) (by kernel_rfl) ?_; intro oi hoi; simp only [List.getElem?_toArray, List.getElem?_cons_succ, List.getElem?_cons_zero, Option.some.injEq] at hoi; subst hoi)
        first
          | (refine ⟨undef, fun _ _ _ h => h, Or.inr ⟨by rfl, rfl⟩, ?_⟩; simp only [Act.put, List.setIfInBounds_toArray, List.set_cons_zero, List.set_cons_succ])
          | (refine ⟨?_, fun _ _ _ h => h, Or.inl ⟨by rfl, ?_⟩, ?_⟩; rotate_left; focus (intro w hSw; go_simp; try with_reducible rfl)
             simp only [Act.put, List.setIfInBounds_toArray, List.set_cons_zero, List.set_cons_succ])
          | fail "op 1"
        (refine wpL.take 2 (by kernel_rfl) (by kernel_rfl) (by kernel_rfl) (by kernel_rfl) (by kernel_rfl) (by kernel_rfl) (by assumption) (by kernel_rfl) ?_; intro oi hoi; simp only [List.getElem?_toArray, List.getElem?_cons_succ, List.getElem?_cons_zero, Option.some.injEq] at hoi; subst hoi)
        first
          | (refine ⟨undef, fun _ _ _ h => h, Or.inr ⟨by rfl, rfl⟩, ?_⟩; simp only [Act.put, List.setIfInBounds_toArray, List.set_cons_zero, List.set_cons_succ])
          | (refine ⟨?_, fun _ _ _ h => h, Or.inl ⟨by rfl, ?_⟩, ?_⟩; rotate_left; focus (intro w hSw; (try dsimp only at hSw); go_simp; try with_reducible rfl)
             simp only [Act.put, List.setIfInBounds_toArray, List.set_cons_zero, List.set_cons_succ])
          | fail "op 2"
        (refine wpL.take 3 (by kernel_rfl) (by kernel_rfl) (by kernel_rfl) (by kernel_rfl) (by kernel_rfl) (by kernel_rfl) (by assumption) (by kernel_rfl) ?_; intro oi hoi; simp only [List.getElem?_toArray, List.getElem?_cons_succ, List.getElem?_cons_zero, Option.some.injEq] at hoi; subst hoi)
        first
          | (refine ⟨undef, fun _ _ _ h => h, Or.inr ⟨by rfl, rfl⟩, ?_⟩; simp only [Act.put, List.setIfInBounds_toArray, List.set_cons_zero, List.set_cons_succ])
          | (refine ⟨?_, fun _ _ _ h => h, Or.inl ⟨by rfl, ?_⟩, ?_⟩; rotate_left; focus (intro w hSw; (try dsimp only at hSw); go_simp; try with_reducible rfl)
             simp only [Act.put, List.setIfInBounds_toArray, List.set_cons_zero, List.set_cons_succ])
          | fail "op 3"
        (refine wpL.take 4 (by kernel_rfl) (by kernel_rfl) (by kernel_rfl) (by kernel_rfl) (by kernel_rfl) (by kernel_rfl) (by assumption) (by kernel_rfl) ?_; intro oi hoi; simp only [List.getElem?_toArray, List.getElem?_cons_succ, List.getElem?_cons_zero, Option.some.injEq] at hoi; subst hoi)
        first
          | (refine ⟨undef, fun _ _ _ h => h, Or.inr ⟨by rfl, rfl⟩, ?_⟩; simp only [Act.put, List.setIfInBounds_toArray, List.set_cons_zero, List.set_cons_succ])
          | (refine ⟨?_, fun _ _ _ h => h, Or.inl ⟨by rfl, ?_⟩, ?_⟩; rotate_left; focus (intro w hSw; (try dsimp only at hSw); go_simp; try with_reducible rfl)
             simp only [Act.put, List.setIfInBounds_toArray, List.set_cons_zero, List.set_cons_succ])
          | fail "op 4"
        (refine wpL.take 5 (by kernel_rfl) (by kernel_rfl) (by kernel_rfl) (by kernel_rfl) (by kernel_rfl) (by kernel_rfl) (by assumption) (by kernel_rfl) ?_; intro oi hoi; simp only [List.getElem?_toArray, List.getElem?_cons_succ, List.getElem?_cons_zero, Option.some.injEq] at hoi; subst hoi)
        first
          | (refine ⟨undef, fun _ _ _ h => h, Or.inr ⟨by rfl, rfl⟩, ?_⟩; simp only [Act.put, List.setIfInBounds_toArray, List.set_cons_zero, List.set_cons_succ])
          | (refine ⟨?_, fun _ _ _ h => h, Or.inl ⟨by rfl, ?_⟩, ?_⟩; rotate_left; focus (intro w hSw; (try dsimp only at hSw); go_simp; try with_reducible rfl)
             simp only [Act.put, List.setIfInBounds_toArray, List.set_cons_zero, List.set_cons_succ])
          | fail "op 5"
        (refine wpL.take 6 (by kernel_rfl) (by kernel_rfl) (by kernel_rfl) (by kernel_rfl) (by kernel_rfl) (by kernel_rfl) (by assumption) (by kernel_rfl) ?_; intro oi hoi; simp only [List.getElem?_toArray, List.getElem?_cons_succ, List.getElem?_cons_zero, Option.some.injEq] at hoi; subst hoi)
        first
          | (refine ⟨undef, fun _ _ _ h => h, Or.inr ⟨by rfl, rfl⟩, ?_⟩; simp only [Act.put, List.setIfInBounds_toArray, List.set_cons_zero, List.set_cons_succ])
          | (refine ⟨?_, fun _ _ _ h => h, Or.inl ⟨by rfl, ?_⟩, ?_⟩; rotate_left; focus (intro w hSw; (try dsimp only at hSw); go_simp; try with_reducible rfl)
             simp only [Act.put, List.setIfInBounds_toArray, List.set_cons_zero, List.set_cons_succ])
          | fail "op 6"
        (refine wpL.one 7 (by kernel_rfl) (by kernel_rfl) ?_; intro oi hoi K hK; simp only [List.getElem?_toArray, List.getElem?_cons_succ, List.getElem?_cons_zero, Option.some.injEq] at hoi; subst hoi)
        rw [if_pos (by rfl)]
        go_simp
        have hb8 := below_alloc w7d (.cells #[.bool t13, .slice a131 l131 k131, .slice a132 l132 k132] 25)
        have hVB := VarB.new w7d #[.bool t13, .slice a131 l131 k131, .slice a132 l132 k132] 25
        have hc8 := cell_below hb8 hHeld.1
        refine hK.out _ _ (fun _ => ⟨hc8, cell_below hb8 hHeld.2.1, cell_below hb8 hHeld.2.2.1, cell_below hb8 hHeld.2.2.2⟩) ?_
        clear hK K hHeld c0 c1 c2 hc14
        try simp only [Act.put, List.setIfInBounds_toArray, List.set_cons_zero, List.set_cons_succ]
        have hv8 := (HV14.out.below hbD).below hb8
        have hT8 := (HT14.out.below hbD).below hb8
        have hB7 : B ≤ w7.heap.size := by have := HB14.out.size; omega
        have hB8 := below_then2 (below_then2 HB14.out hbD hB7) hb8 (Nat.le_trans hB7 hbD.size)
        have hsz8 : B ≤ (w7d.alloc (.cells #[.bool t13, .slice a131 l131 k131, .slice a132 l132 k132] 25)).heap.size := Nat.le_trans (Nat.le_trans hB7 hbD.size) hb8.size
        generalize hw9 : w7d.alloc (.cells #[.bool t13, .slice a131 l131 k131, .slice a132 l132 k132] 25) = w9 at *
        clear hw9
        have hro := hT8.row
        have hlen9 : (rowL (1 + i) (two p q)).length ≤ 1000 := by rw [rowL_length]; omega
        (refine wpL.one 8 (by kernel_rfl) (by kernel_rfl) ?_; intro oi hoi K hK; simp only [List.getElem?_toArray, List.getElem?_cons_succ, List.getElem?_cons_zero, Option.some.injEq] at hoi; subst hoi)
        refine hAP rfl _ _ (by rfl) B (.slice r1 r2 r3) (rowL (1 + i) (two p q)) (by rfl) hro (.bool t13) (.slice a131 l131 k131) (.slice a132 l132 k132) q hv8 w7d.heap.size (by rfl) hVB hlen9 hsz8 ?_
        intro v10 w10 hf10 hg10 hn10 ho10
        obtain ⟨y1, y2, y3, rfl, _⟩ := id hf10.sl
        refine hK.out _ _ (fun h => by first | cases h | simp at h) ?_
        clear hK K ho10
        try simp only [Act.put, List.setIfInBounds_toArray, List.set_cons_zero, List.set_cons_succ]
        obtain ⟨ys, z1, z2⟩ := id hro
        have hown10 := hT8.t.grown hg10 (hT8.t.kinds z1 (by decide))
        have c10 : w10.cell? (ptr v5 i) = some (.slice r1 r2 r3) := by rw [HI0.out]; exact hown10.cell 0 (by simp)
        have f10 : w10.frozen? (ptr v5 i) = false := by rw [HI0.out]; exact hown10.frozen 0 (by simp)
        have hpush := hT8.push (m := 1 + (i + 1)) (y := two p q) hf10 hg10 (by omega) (two_row HI0.out p q) HI0.out
        have HPU := Lib.hid hpush.1
        have HBP := Lib.hid (hB8.trans hpush.2)
        clear hpush hT8 hB8 hv8 hVB hro z2 hf10 hg10 hn10 hown10 hbD hb8 hc8
        (refine wpL.one 9 (by kernel_rfl) (by kernel_rfl) ?_; intro oi hoi K hK; simp only [List.getElem?_toArray, List.getElem?_cons_succ, List.getElem?_cons_zero, Option.some.injEq] at hoi; subst hoi)
        rw [if_pos (by rfl)]
        go_simp
        refine hK.out _ _ (fun h => by first | cases h | simp at h) ?_
        clear hK K
        try simp only [Act.put, List.setIfInBounds_toArray, List.set_cons_zero, List.set_cons_succ]
        (refine wpL.one 10 (by kernel_rfl) (by kernel_rfl) ?_; intro oi hoi K hK; simp only [List.getElem?_toArray, List.getElem?_cons_succ, List.getElem?_cons_zero, Option.some.injEq] at hoi; subst hoi)
        rw [if_pos (by rfl)]
        go_simp
        refine hK.out _ _ (fun h => by first | cases h | simp at h) ?_
        clear hK K c10 f10
        refine wpL.done (by kernel_rfl) ?_ _
        go_wp2_with fail
        go_roundg (1 - (i + 1))
        case measure => (have := HG.out; omega)
        case rel => exact ⟨i + 1, _, by omega, rfl, by go_num, by have h := HPU.out; simpa [World.setCell] using h.up, HBP.out⟩
      · obtain rfl : i = 1 := by omega
        have hsz6 : B ≤ w6.heap.size := by have := hbr.size; omega
        have HT2 : Hid (OneT w6 B w6.heap.size v5 (.slice r1 r2 r3) 2 (two p q)) := Lib.hid hT
        have H02 : Hid (two p q 0 ≠ 0) := Lib.hid H0.out
        clear hT hbr hBw
        go_wp2_with (go_at_call 28; (with_reducible refine (relim_one v5 _ B 2 (two p q) _ HT2.out hsz6 (by decide) H02.out (two_fits HP.out HFQ.out) (two_div H0.out HQP.out)).mono ?_); rintro e14 w14 ⟨d14, rfl, hd14, ht14, hb14⟩
                     obtain ⟨t4, x4, y4, rfl, ⟨a41, l41, k41, rfl, _⟩, ⟨a42, l42, k42, rfl, _⟩⟩ := hd14
                     have hba := below_alloc w14 (.cells #[.bool t4, .slice a41 l41 k41, .slice a42 l42 k42] 25)
                     have HT14 := Lib.hid (ht14.below hba)
                     have HB14 := Lib.hid (below_then2 (HBR.out.trans hb14) hba (by have := hb14.size; have := ht14.sz; omega))
                     clear hba hb14 ht14)
        generalize w14.alloc (.cells #[.bool t4, .slice a41 l41 k41, .slice a42 l42 k42] 25) = w15 at *
        go_loopg [15, 16] (1) (fun g u15 u16 wr => ∃ (i : Nat), i ≤ 1 ∧ g = 1 - i ∧ u16 = .int .i64 i ∧ FrRow wr 25 w15.heap.size u15 (rowL i (fun _ => q / p)) ∧ Below w15.heap.size w15 wr)
        case atStart => exact ⟨0, Nat.zero_le _, rfl, rfl, FrRow.nil _ _ _, Below.refl _ _⟩
        case round =>
          obtain ⟨i, hi, hg, rfl, hfr, hbr⟩ := hrel
          obtain ⟨w16, hw16⟩ : ∃ w16, w16 = wr := ⟨_, rfl⟩
          subst hw16
          have HG2 := Lib.hid hg
          have HFR2 := Lib.hid hfr
          have HBR2 := Lib.hid hbr
          have srow := hfr.sl
          clear hg hfr
          by_cases hi2 : i < 1
          · have hi0 : i = 0 := by omega
            have HI0 := Lib.hid hi0
            have hT16 := HT14.out.below hbr
            have srr := hT16.row.sl
            have lr2 : r2 = 2 := by have h := hT16.row.fracs.len; rw [rowL_length] at h; exact h
            have hc : w16.cell? (ptr v5 i) = some (.slice r1 r2 r3) := by rw [hi0]; exact hT16.cell
            obtain ⟨ea, eb, g1, g2, g3, g4, g5⟩ := hT16.row.fracs.at' 1 (by rw [rowL_length]; decide)
            rw [rowL_get] at g1 g4 g5
            have hd : divTo (two p q) 2 1 = q / p := rfl
            rw [hd] at g1 g4 g5
            obtain ⟨ea1, ea2, ea3, rfl, _⟩ := g4.v.sl
            obtain ⟨eb1, eb2, eb3, rfl, _⟩ := g5.v.sl
            have hv16 : FracC w16 (.agg #[.bool (decide (q / p < 0)), .slice ea1 ea2 ea3, .slice eb1 eb2 eb3]) (q / p) := ⟨_, _, rfl, g4, g5⟩
            have hfr16 := HFR2.out
            have hrl : (rowL i (fun _ : Nat => q / p)).length ≤ 1000 := by rw [rowL_length]; omega
            have hsz16 : w15.heap.size ≤ w16.heap.size := hbr.size
            have j1 : (0 : Int) ≤ (i : Int) := by omega
            have j2 : (i : Int) < 1 := by omega
            subst lr2
            clear g4 g5 hT16 hi0 hbr hd
            go_wp2_with (first
              | (at_builtin; refine hA1 w16 rfl _ _ rfl w15.heap.size _ u15 (rowL i (fun _ => q / p)) rfl hfr16 _ _ _ (q / p) hv16 rfl hrl hsz16 ?_; intro v17 w17 ho17 hg17 hn17 hq17 sv17
                 have hg5 : Below w15.heap.size w16 w17 := below_of_grown hg17 hsz16 (fun k hk => (hfr16.block k hk).1)
                 have HO17 := Lib.hid ho17
                 have HB17 := Lib.hid (HBR2.out.trans hg5)))
            go_roundg (1 - (i + 1))
            case measure => (have := HG2.out; omega)
            case rel => exact ⟨i + 1, by omega, rfl, by go_num, by rw [← rowL_snoc]; exact HO17.out, HB17.out⟩
          · obtain rfl : i = 1 := by omega
            go_wp2_with fail
            go_ret2
            exact ⟨_, rfl, HFR2.out.fracs, below_then2 (below_then2 HB4.out (HB14.out.mono (by omega)) HB4.out.size) hbr (Nat.le_trans HB4.out.size HB14.out.size)⟩
end Go.Proofs.YtbhkibilnmoljaaGreat
