/-
  package drydockref05, of a matrix of one element: Invert.
-/
import Derived.Test.YtbhkibilnmoljaaGreatQWg3
namespace Go.Proofs.YtbhkibilnmoljaaGreat
set_option linter.unusedVariables false
set_option linter.unusedSimpArgs false
open Go.RowKit




/-- append(s, x...), both rows of fractions, in a region that draws. -/
theorem step_app_frV {P : Program} (t e : TypeId) (i : TypeInfo) (ht : P.underlying t = some (.slice e)) (hi : P.info? e = some i) (hz : i.zero = some (.agg #[.bool false, .slice none 0 0, .slice none 0 0])) (hsize : i.size = 3) (hby : i.bytes = 56)
    {ops : Array Oper} {o : Oper} {a : Act} {w : World} {K : Act → World → Prop} {Q : Exit → Act → World → Prop} {E : Prop} (hgd : o.guard = none) (s x : Operand)
    (ho : o.op = .call { callee := .builtin .append, args := #[s, x], argTypes := #[t, t] }) (B : Nat) (v : Value) (q : List Rat) (hs : a.eval s = v) (hown : FrRow w e B v q) (ad : Addr) (m c : Nat) (p : List Rat) (hxe : a.eval x = .slice (some ad) m c) (hf : FracsC w (.slice (some ad) m c) p)
    (hn : q.length + p.length ≤ 1000) (hbase : B ≤ w.heap.size)
    (h : ∀ v' w', FrRow w' e B v' (q ++ p) → w.grownBy w' v.ownBlock → NoLimb w v → (v'.ownBlock = v.ownBlock ∨ v'.ownBlock = some w.heap.size) → K (a.put o.dst v') w') :
    if Region.wanted o (yielded ops a.tmps) = true then Oper.wp P o a w K Q else E := by
  obtain ⟨xs, h1, h2⟩ := hown
  obtain ⟨news, n1, n2, n3, n4, n5⟩ := hf.cells
  have hm : m = p.length := hf.len
  rw [if_pos (by simp [Region.wanted, hgd])]
  obtain ⟨v', w', hr, k1, k2, k3, k4⟩ := run_append_R (P := P) w B t o.type e i _ 3 56 ht hi hz hsize hby rfl (by decide) v q.length xs h1.own ad m c news (by rw [n1, hm])
    (fun j u hu => by have := n2 j u hu; simpa only [ptr, base] using this) n4 (by simp [maxLen]; omega) (by omega) hbase h1.nl n5 (fun c hc z => by
      have hc2 : c ∈ [Value.bool false, .slice none 0 0, .slice none 0 0] := hc
      simp at hc2; rcases hc2 with rfl | rfl <;> simp)
  unfold Oper.wp execOp
  simp only [ho, resolve, invoke, builtin, Sem.run_bind, Sem.run_pure, Result.andThen_ok, List.map_toArray, List.map_cons, List.map_nil, hs, hxe, hr]
  have hR : OwnR w' e B 3 v' (q.length + m) (xs ++ news) := ⟨k1, k4⟩
  refine h v' w' ⟨xs ++ news, by rw [List.length_append, ← hm]; exact hR, ?_⟩ k2 h1.nl k3
  exact (h2.app h1.clen n3).grown k2 h1.nl
theorem FracsC.some {w : World} {v : Value} {q : List Rat} (h : FracsC w v q) (hq : 0 < q.length) : ∃ ad m c, v = .slice (some ad) m c ∧ m = q.length := by
  obtain ⟨a, m, c, rfl, h1, h2, h3⟩ := id h.sl
  have hl : m = q.length := h.len
  cases a with
  | none => have := h3 rfl; omega
  | some ad => exact ⟨ad, m, c, rfl, hl⟩
theorem one_row {i : Nat} (hi : i = 0) : rowL 1 (oneM i) = [1] := by subst hi; rfl
theorem two_drop (p q : Rat) : (rowL 2 (divTo (two p q) 2)).drop 1 = [q / p] := rfl
set_option maxRecDepth 100000 in
set_option maxHeartbeats 6400000 in
theorem rinvert1_any (va : Value) (p : Rat) (w : World) (ha : MatF w va 1 1 (elM p)) (h0 : p ≠ 0) (hp : fits p) (hqp : fits (1 / p)) : Calls Tryz.prog 8 #[va] w (RAnsM w (invAns p)) := by
  obtain ⟨i3, hi3, hz3, hs3, hy3⟩ := info_parts Tryz.infoF
  have hAP := fun {ops : Array Oper} {o : Oper} {a : Act} {w : World} {K : Act → World → Prop} {Q : Exit → Act → World → Prop} {E : Prop} => step_app_frV (P := Tryz.prog) 27 25 i3 Tryz.underlying27 hi3 hz3 hs3 hy3 (ops := ops) (o := o) (a := a) (w := w) (K := K) (Q := Q) (E := E)
  have hA1 := append_fr (P := Tryz.prog) 27 25 i3 Tryz.underlying27 hi3 hz3 hs3 hy3
  obtain ⟨i4, hi4, hz4, hs4, hy4⟩ := info_parts Tryz.infoRow
  have hAR := append1_one (P := Tryz.prog) 28 27 i4 _ 24 Tryz.underlying28 hi4 hz4 hs4 hy4 (by decide) rfl (fun z => by simp)
  clear hi3 hz3 hs3 hy3 hi4 hz4 hs4 hy4
  have HS : Hid (shapeP (rawM 1 1 (elM p))) := Lib.hid (rawM_shape (by decide) (by decide) (by decide) (by decide) (elM_fit hp))
  have HC : Hid ((rawM 1 1 (elM p)).length = 1 ∧ cols (rawM 1 1 (elM p)) = 1) := Lib.hid ⟨rawM_length _ _ _, el1_cols p⟩
  have HN : Hid (MatN w va (rawM 1 1 (elM p))) := Lib.hid ha.raw
  have HQ1 : Hid (rQ (rawM 1 1 (elM p)) 0 0 = p) := Lib.hid (el1_q p)
  have HW : Hid (wtsM (rawM 1 1 (elM p)) = wt p) := Lib.hid (wtF_one p)
  obtain ⟨a, hra⟩ : ∃ a, rawM 1 1 (elM p) = a := ⟨_, rfl⟩
  rw [hra] at HS HC HN HQ1 HW
  have H0 := Lib.hid h0
  have HP := Lib.hid hp
  clear hra h0 hp
  have sa := ha.sl
  have HQP := Lib.hid hqp
  have HID : Hid (∀ w0, Calls Tryz.prog 30 #[.int .i64 1] w0 fun e w' => ∃ v, e = .returned (.tuple #[v, .int .i64 0]) ∧ MatF w' v 1 1 oneM ∧ Below w0.heap.size w0 w') := Lib.hid (fun w0 => rident_ok 1 w0 (by decide) (by decide))
  clear ha hqp
  obtain ⟨W, hW⟩ : ∃ W, wt p = W := ⟨_, rfl⟩
  rw [hW] at HW
  unfold invAns
  rw [hW]
  clear hW
  by_cases hw : 1900 < W
  · rw [if_pos hw]
    have hwi : (1900 : Int) < (W : Int) := by omega
    go_enter Tryz.func8, Tryz.ntmps8
    go_wp2_with (first
      | (go_at_call 22; (with_reducible refine (rshape_ok va a 1 1 _ HN.out HS.out HC.out.1 HC.out.2).mono ?_); rintro e1 w1 ⟨rfl, hb1⟩)
      | (go_at_call 24; (with_reducible refine (rweights_any va a _ (HN.out.below hb1) HS.out).mono ?_); rw [HW.out]; rintro e2 w2 ⟨rfl, hb2⟩
         have hB2 := below_then hb1 hb2))
    go_ret2
    exact ⟨_, rfl, MatC.nil _, hB2⟩
  · rw [if_neg hw]
    have hwi : ¬ (1900 : Int) < (W : Int) := by omega
    go_enter Tryz.func8, Tryz.ntmps8
    go_wp2_with (first
      | (go_at_call 22; (with_reducible refine (rshape_ok va a 1 1 _ HN.out HS.out HC.out.1 HC.out.2).mono ?_); rintro e1 w1 ⟨rfl, hb1⟩)
      | (go_at_call 24; (with_reducible refine (rweights_any va a _ (HN.out.below hb1) HS.out).mono ?_); rw [HW.out]; rintro e2 w2 ⟨rfl, hb2⟩
         have hB2 := below_then hb1 hb2)
      | (go_at_call 26; (with_reducible refine (rcopied_any va a 1 1 _ (HN.out.below hB2) HS.out HC.out.1 HC.out.2).mono ?_); rintro e5 w5 ⟨v5, rs5, rfl, hl5, hm5, hb5⟩
         obtain ⟨r5, ht5⟩ := hm5.one hl5 (by decide)
         have hT5 := ht5.congr (y := two p 1) (fun j hj => by obtain rfl : j = 0 := (by omega); rw [HQ1.out]; rfl)
         have hsz5 := hm5.sz
         clear ht5 hm5)
      | (go_at_call 30; (with_reducible refine (HID.out _).mono ?_); rintro e6 w6 ⟨v6, rfl, hm6, hb6⟩
         have HT6 := Lib.hid (hT5.below hb6).up
         have HM6 := Lib.hid hm6
         have HB6 := Lib.hid (below_then2 hb5 hb6 hsz5)
         have HB2 := Lib.hid hB2
         have sm6 := hm6.sl
         have lm6 := hm6.len
         clear hT5 hsz5 hm6 hb6 hb5 hB2 hb2 hb1))
    obtain ⟨B, hBd⟩ : ∃ B, w2.heap.size = B := ⟨_, rfl⟩
    rw [hBd] at HT6 HB6
    go_loopg [10] (1) (fun g u10 wr => ∃ (i : Nat) (r : Value), i ≤ 1 ∧ g = 1 - i ∧ u10 = .int .i64 i ∧ OneT wr B wr.heap.size v5 r (1 + i) (two p 1) ∧ Below B w2 wr ∧ (i = 0 → MatF wr v6 1 1 oneM))
    case atStart => exact ⟨0, r5, Nat.zero_le _, rfl, rfl, HT6.out, HB6.out, fun _ => HM6.out⟩
    case round =>
      obtain ⟨i, r, hi, hg, rfl, hT, hbr, hM⟩ := hrel
      obtain ⟨w7, hw7⟩ : ∃ w7, w7 = wr := ⟨_, rfl⟩
      subst hw7
      obtain ⟨r1, r2, r3, rfl, _⟩ := id hT.row.sl
      have HG := Lib.hid hg
      have HT := Lib.hid hT
      have HBR := Lib.hid hbr
      have hB7 : B ≤ w7.heap.size := by have := hbr.size; omega
      have sv5 : IsSl v5 := hT.t.sl
      have lv5 : slen v5 = 1 := hT.t.len
      clear hg HT6 HB6
      by_cases hi1 : i < 1
      · have hi0 : i = 0 := by omega
        have HI0 := Lib.hid hi0
        have hc : w7.cell? (ptr v5 i) = some (.slice r1 r2 r3) := by rw [hi0]; exact hT.cell
        obtain ⟨ri, hci, hri⟩ := (hM hi0).row i hi1
        rw [one_row hi0] at hri
        obtain ⟨ad, m1, c1, rfl, _⟩ := hri.some (by simp)
        have HRI := Lib.hid hri
        have j1 : (0 : Int) ≤ (i : Int) := by omega
        have j2 : (i : Int) < 1 := by omega
        clear hri hT hbr hi0 hM
        go_wp2_with fail
        have hbD := below_drew (B := w7.heap.size) w7
        refine wpL.start 10 (fun w' => w'.cell? (ptr v5 i) = some (.slice r1 r2 r3) ∧ w'.cell? (ptr v6 i) = some (.slice (some ad) m1 c1)) (by kernel_rfl) ⟨cell_below hbD hc, cell_below hbD hci⟩ (fun hHeld => ?_)
        generalize w7.drew = w9 at *
        (refine wpL.takeU 0 (by kernel_rfl) (by kernel_rfl) (by kernel_rfl) (by kernel_rfl) (by kernel_rfl) (by assumption) (by kernel_rfl) ?_; intro oi hoi; simp only [List.getElem?_toArray, List.getElem?_cons_succ, List.getElem?_cons_zero, Option.some.injEq] at hoi; subst hoi)
        first
          | (refine ⟨undef, fun _ _ _ h => h, Or.inr ⟨by rfl, rfl⟩, ?_⟩; simp only [Act.put, List.setIfInBounds_toArray, List.set_cons_zero, List.set_cons_succ])
          | (refine ⟨?_, fun _ _ _ h => h, Or.inl ⟨by rfl, ?_⟩, ?_⟩; rotate_left; focus (intro w hSw; go_simp; try with_reducible rfl)
             simp only [Act.put, List.setIfInBounds_toArray, List.set_cons_zero, List.set_cons_succ])
          | fail "op 0"
        (refine wpL.takeU 1 (by kernel_rfl) (by kernel_rfl) (by kernel_rfl) (by kernel_rfl) (by kernel_rfl) (by assumption) (by kernel_rfl) ?_; intro oi hoi; simp only [List.getElem?_toArray, List.getElem?_cons_succ, List.getElem?_cons_zero, Option.some.injEq] at hoi; subst hoi)
        first
          | (refine ⟨undef, fun _ _ _ h => h, Or.inr ⟨by rfl, rfl⟩, ?_⟩; simp only [Act.put, List.setIfInBounds_toArray, List.set_cons_zero, List.set_cons_succ])
          | (refine ⟨?_, fun _ _ _ h => h, Or.inl ⟨by rfl, ?_⟩, ?_⟩; rotate_left; focus (intro w hSw; go_simp; try with_reducible rfl)
             simp only [Act.put, List.setIfInBounds_toArray, List.set_cons_zero, List.set_cons_succ])
          | fail "op 1"
        (refine wpL.take 2 (by kernel_rfl) (by kernel_rfl) (by kernel_rfl) (by kernel_rfl) (by kernel_rfl) (by kernel_rfl) (by assumption) (by kernel_rfl) ?_; intro oi hoi; simp only [List.getElem?_toArray, List.getElem?_cons_succ, List.getElem?_cons_zero, Option.some.injEq] at hoi; subst hoi)
        first
          | (refine ⟨undef, fun _ _ _ h => h, Or.inr ⟨by rfl, rfl⟩, ?_⟩; simp only [Act.put, List.setIfInBounds_toArray, List.set_cons_zero, List.set_cons_succ])
          | (refine ⟨?_, fun _ _ _ h => h, Or.inl ⟨by rfl, ?_⟩, ?_⟩; rotate_left; focus (intro w hSw; (try dsimp only at hSw); go_simp; try with_reducible rfl)
             simp only [Act.put, List.setIfInBounds_toArray, List.set_cons_zero, List.set_cons_succ])
          | fail "op 2"
        (refine wpL.take 3 (by kernel_rfl) (by kernel_rfl) (by kernel_rfl) (by kernel_rfl) (by kernel_rfl) (by kernel_rfl) (by assumption) (by kernel_rfl) ?_; intro oi hoi; simp only [List.getElem?_toArray, List.getElem?_cons_succ, List.getElem?_cons_zero, Option.some.injEq] at hoi; subst hoi)
        first
          | (refine ⟨undef, fun _ _ _ h => h, Or.inr ⟨by rfl, rfl⟩, ?_⟩; simp only [Act.put, List.setIfInBounds_toArray, List.set_cons_zero, List.set_cons_succ])
          | (refine ⟨?_, fun _ _ _ h => h, Or.inl ⟨by rfl, ?_⟩, ?_⟩; rotate_left; focus (intro w hSw; (try dsimp only at hSw); go_simp; try with_reducible rfl)
             simp only [Act.put, List.setIfInBounds_toArray, List.set_cons_zero, List.set_cons_succ])
          | fail "op 3"
        (refine wpL.take 4 (by kernel_rfl) (by kernel_rfl) (by kernel_rfl) (by kernel_rfl) (by kernel_rfl) (by kernel_rfl) (by assumption) (by kernel_rfl) ?_; intro oi hoi; simp only [List.getElem?_toArray, List.getElem?_cons_succ, List.getElem?_cons_zero, Option.some.injEq] at hoi; subst hoi)
        first
          | (refine ⟨undef, fun _ _ _ h => h, Or.inr ⟨by rfl, rfl⟩, ?_⟩; simp only [Act.put, List.setIfInBounds_toArray, List.set_cons_zero, List.set_cons_succ])
          | (refine ⟨?_, fun _ _ _ h => h, Or.inl ⟨by rfl, ?_⟩, ?_⟩; rotate_left; focus (intro w hSw; (try dsimp only at hSw); go_simp; try with_reducible rfl)
             simp only [Act.put, List.setIfInBounds_toArray, List.set_cons_zero, List.set_cons_succ])
          | fail "op 4"
        (refine wpL.take 5 (by kernel_rfl) (by kernel_rfl) (by kernel_rfl) (by kernel_rfl) (by kernel_rfl) (by kernel_rfl) (by assumption) (by kernel_rfl) ?_; intro oi hoi; simp only [List.getElem?_toArray, List.getElem?_cons_succ, List.getElem?_cons_zero, Option.some.injEq] at hoi; subst hoi)
        first
          | (refine ⟨undef, fun _ _ _ h => h, Or.inr ⟨by rfl, rfl⟩, ?_⟩; simp only [Act.put, List.setIfInBounds_toArray, List.set_cons_zero, List.set_cons_succ])
          | (refine ⟨?_, fun _ _ _ h => h, Or.inl ⟨by rfl, ?_⟩, ?_⟩; rotate_left; focus (intro w hSw; (try dsimp only at hSw); go_simp; try with_reducible rfl)
             simp only [Act.put, List.setIfInBounds_toArray, List.set_cons_zero, List.set_cons_succ])
          | fail "op 5"
        (refine wpL.take 6 (by kernel_rfl) (by kernel_rfl) (by kernel_rfl) (by kernel_rfl) (by kernel_rfl) (by kernel_rfl) (by assumption) (by kernel_rfl) ?_; intro oi hoi; simp only [List.getElem?_toArray, List.getElem?_cons_succ, List.getElem?_cons_zero, Option.some.injEq] at hoi; subst hoi)
        first
          | (refine ⟨undef, fun _ _ _ h => h, Or.inr ⟨by rfl, rfl⟩, ?_⟩; simp only [Act.put, List.setIfInBounds_toArray, List.set_cons_zero, List.set_cons_succ])
          | (refine ⟨?_, fun _ _ _ h => h, Or.inl ⟨by rfl, ?_⟩, ?_⟩; rotate_left; focus (intro w hSw; (try dsimp only at hSw); go_simp; try with_reducible rfl)
             simp only [Act.put, List.setIfInBounds_toArray, List.set_cons_zero, List.set_cons_succ])
          | fail "op 6"
        (refine wpL.take 7 (by kernel_rfl) (by kernel_rfl) (by kernel_rfl) (by kernel_rfl) (by kernel_rfl) (by kernel_rfl) (by assumption) (by kernel_rfl) ?_; intro oi hoi; simp only [List.getElem?_toArray, List.getElem?_cons_succ, List.getElem?_cons_zero, Option.some.injEq] at hoi; subst hoi)
        first
          | (refine ⟨undef, fun _ _ _ h => h, Or.inr ⟨by rfl, rfl⟩, ?_⟩; simp only [Act.put, List.setIfInBounds_toArray, List.set_cons_zero, List.set_cons_succ])
          | (refine ⟨?_, fun _ _ _ h => h, Or.inl ⟨by rfl, ?_⟩, ?_⟩; rotate_left; focus (intro w hSw; (try dsimp only at hSw); go_simp; try with_reducible rfl)
             simp only [Act.put, List.setIfInBounds_toArray, List.set_cons_zero, List.set_cons_succ])
          | fail "op 7"
        (refine wpL.take 8 (by kernel_rfl) (by kernel_rfl) (by kernel_rfl) (by kernel_rfl) (by kernel_rfl) (by kernel_rfl) (by assumption) (by kernel_rfl) ?_; intro oi hoi; simp only [List.getElem?_toArray, List.getElem?_cons_succ, List.getElem?_cons_zero, Option.some.injEq] at hoi; subst hoi)
        first
          | (refine ⟨undef, fun _ _ _ h => h, Or.inr ⟨by rfl, rfl⟩, ?_⟩; simp only [Act.put, List.setIfInBounds_toArray, List.set_cons_zero, List.set_cons_succ])
          | (refine ⟨?_, fun _ _ _ h => h, Or.inl ⟨by rfl, ?_⟩, ?_⟩; rotate_left; focus (intro w hSw; (try dsimp only at hSw); go_simp; try with_reducible rfl)
             simp only [Act.put, List.setIfInBounds_toArray, List.set_cons_zero, List.set_cons_succ])
          | fail "op 8"
        (refine wpL.take 9 (by kernel_rfl) (by kernel_rfl) (by kernel_rfl) (by kernel_rfl) (by kernel_rfl) (by kernel_rfl) (by assumption) (by kernel_rfl) ?_; intro oi hoi; simp only [List.getElem?_toArray, List.getElem?_cons_succ, List.getElem?_cons_zero, Option.some.injEq] at hoi; subst hoi)
        first
          | (refine ⟨undef, fun _ _ _ h => h, Or.inr ⟨by rfl, rfl⟩, ?_⟩; simp only [Act.put, List.setIfInBounds_toArray, List.set_cons_zero, List.set_cons_succ])
          | (refine ⟨?_, fun _ _ _ h => h, Or.inl ⟨by rfl, ?_⟩, ?_⟩; rotate_left; focus (intro w hSw; (try dsimp only at hSw); go_simp; try with_reducible rfl)
             simp only [Act.put, List.setIfInBounds_toArray, List.set_cons_zero, List.set_cons_succ])
          | fail "op 9"
        have hT9 := HT.out.below hbD
        have hR9 := HRI.out.below hbD
        have hro := hT9.row
        have hB9 := below_then2 HBR.out hbD hB7
        have hsz9 : B ≤ w9.heap.size := Nat.le_trans hB7 hbD.size
        have hlen9 : (rowL (1 + i) (two p 1)).length + ([1] : List Rat).length ≤ 1000 := by rw [rowL_length]; simp; omega
        clear hc hci hHeld
        (refine wpL.one 10 (by kernel_rfl) (by kernel_rfl) ?_; intro oi hoi K hK; simp only [List.getElem?_toArray, List.getElem?_cons_succ, List.getElem?_cons_zero, Option.some.injEq] at hoi; subst hoi)
        refine hAP rfl _ _ (by rfl) B (.slice r1 r2 r3) (rowL (1 + i) (two p 1)) (by rfl) hro ad m1 c1 [1] (by go_simp) hR9 hlen9 hsz9 ?_
        intro v10 w10 hf10 hg10 hn10 ho10
        obtain ⟨y1, y2, y3, rfl, _⟩ := id hf10.sl
        refine hK.out _ _ (fun h => by first | cases h | simp at h) ?_
        clear hK K ho10
        try simp only [Act.put, List.setIfInBounds_toArray, List.set_cons_zero, List.set_cons_succ]
        obtain ⟨ys, z1, z2⟩ := id hro
        have hown10 := hT9.t.grown hg10 (hT9.t.kinds z1 (by decide))
        have c10 : w10.cell? (ptr v5 i) = some (.slice r1 r2 r3) := by rw [HI0.out]; exact hown10.cell 0 (by simp)
        have f10 : w10.frozen? (ptr v5 i) = false := by rw [HI0.out]; exact hown10.frozen 0 (by simp)
        have hpush := hT9.push (m := 1 + (i + 1)) (y := two p 1) hf10 hg10 (by omega) (two_row HI0.out p 1) HI0.out
        have HPU := Lib.hid hpush.1
        have HBP := Lib.hid (hB9.trans hpush.2)
        clear hpush hT9 hB9 hro z2 hf10 hg10 hn10 hown10 hbD hR9
        (refine wpL.one 11 (by kernel_rfl) (by kernel_rfl) ?_; intro oi hoi K hK; simp only [List.getElem?_toArray, List.getElem?_cons_succ, List.getElem?_cons_zero, Option.some.injEq] at hoi; subst hoi)
        rw [if_pos (by rfl)]
        go_simp
        refine hK.out _ _ (fun h => by first | cases h | simp at h) ?_
        clear hK K
        try simp only [Act.put, List.setIfInBounds_toArray, List.set_cons_zero, List.set_cons_succ]
        (refine wpL.one 12 (by kernel_rfl) (by kernel_rfl) ?_; intro oi hoi K hK; simp only [List.getElem?_toArray, List.getElem?_cons_succ, List.getElem?_cons_zero, Option.some.injEq] at hoi; subst hoi)
        rw [if_pos (by rfl)]
        go_simp
        refine hK.out _ _ (fun h => by first | cases h | simp at h) ?_
        clear hK K c10 f10
        refine wpL.done (by kernel_rfl) ?_ _
        go_wp2_with fail
        go_roundg (1 - (i + 1))
        case measure => (have := HG.out; omega)
        case rel =>
          refine ⟨i + 1, _, by omega, rfl, by go_num, by have h := HPU.out; simpa [World.setCell] using h.up, HBP.out, fun h => absurd h (by omega)⟩
      · obtain rfl : i = 1 := by omega
        have HT2 : Hid (OneT w7 B w7.heap.size v5 (.slice r1 r2 r3) 2 (two p 1)) := Lib.hid hT
        have H02 : Hid (two p 1 0 ≠ 0) := Lib.hid H0.out
        clear hT hbr hM
        go_wp2_with (go_at_call 28; (with_reducible refine (relim_one v5 _ B 2 (two p 1) _ HT2.out hB7 (by decide) H02.out (two_fits HP.out fits_one) (two_div H0.out HQP.out)).mono ?_); rintro e14 w14 ⟨d14, rfl, hd14, ht14, hb14⟩
                     obtain ⟨t4, x4, y4, rfl, ⟨a41, l41, k41, rfl, _⟩, ⟨a42, l42, k42, rfl, _⟩⟩ := hd14
                     have hba := below_alloc w14 (.cells #[.bool t4, .slice a41 l41 k41, .slice a42 l42 k42] 25)
                     have HT14 := Lib.hid (ht14.below hba)
                     have HB14 := Lib.hid (below_then2 (HBR.out.trans hb14) hba (by have := hb14.size; have := ht14.sz; omega))
                     clear hba hb14 ht14)
        generalize w14.alloc (.cells #[.bool t4, .slice a41 l41 k41, .slice a42 l42 k42] 25) = w15 at *
        go_loopg [13, 14] (1) (fun g u13 u14 wr => ∃ (i : Nat) (rs : List Value), i ≤ 1 ∧ g = 1 - i ∧ u14 = .int .i64 i ∧ rs.length = i ∧ MkM wr w15.heap.size u13 rs 1 (elM (1 / p)) ∧ Below w15.heap.size w15 wr)
        case atStart => exact ⟨0, [], Nat.zero_le _, rfl, rfl, rfl, ⟨OwnR.nil _ _ _ _, fun j h => by simp at h, Nat.le_refl _⟩, Below.refl _ _⟩
        case round =>
          obtain ⟨i, rs, hi, hg, rfl, hrs, hmk, hbr⟩ := hrel
          obtain ⟨w16, hw16⟩ : ∃ w16, w16 = wr := ⟨_, rfl⟩
          subst hw16
          have HG2 := Lib.hid hg
          have HRS := Lib.hid hrs
          have HM2 := Lib.hid hmk
          have HBR2 := Lib.hid hbr
          have svr := hmk.ra.sl
          clear hg hrs hmk
          by_cases hi2 : i < 1
          · have hi0 : i = 0 := by omega
            have HI0 := Lib.hid hi0
            have hT16 := HT14.out.below hbr
            have srr := hT16.row.sl
            have lr2 : r2 = 2 := by have h := hT16.row.fracs.len; rw [rowL_length] at h; exact h
            subst lr2
            have hc : w16.cell? (ptr v5 i) = some (.slice r1 2 r3) := by rw [hi0]; exact hT16.cell
            have hdrop := hT16.row.fracs.drop 1 (by rw [rowL_length]; decide)
            rw [two_drop] at hdrop
            obtain ⟨vD, hvD⟩ : ∃ vD, cut 3 (.slice r1 2 r3) 1 2 = vD := ⟨_, rfl⟩
            have hcut : ∀ w' : World, (Instr.slice 27 (.slice r1 2 r3) (some (.int .i64 1)) none none).run Tryz.prog w' = .ok vD w' := fun w' => by
              rw [run_slice_from w' srr Tryz.underlying27 (by omega) (by show (1 : Int) ≤ ((2 : Nat) : Int); omega), show Tryz.prog.elem 27 = 25 from by kernel_rfl, Tryz.sizeF, Result.andThen_ok]
              rw [← hvD]; rfl
            have hdrop : FracsC w16 vD [1 / p] := by rw [← hvD]; exact hdrop
            obtain ⟨ad, m1, c1, rfl, _⟩ := hdrop.some (by simp)
            have hnil := FrRow.nil w16 25 w15.heap.size
            have hle1 : ([] : List Rat).length + ([1 / p] : List Rat).length ≤ 1000 := by simp
            have hsz16 : w15.heap.size ≤ w16.heap.size := hbr.size
            have j1 : (0 : Int) ≤ (i : Int) := by omega
            have j2 : (i : Int) < 1 := by omega
            have hlen : rs.length ≤ 1000 := by rw [HRS.out]; omega
            clear hT16 hbr hi0 hvD
            go_wp2_with (first
              | (at_builtin; first
                 | (refine hA1 w16 rfl _ _ rfl w15.heap.size _ [] rfl hnil ad m1 c1 [1 / p] (by go_simp) hdrop hle1 hsz16 ?_; intro v17 w17 hf17 hg17 hn17 ho17 sv17
                    obtain ⟨y1, y2, y3, rfl, _⟩ := id sv17
                    have hb17 : Below w15.heap.size w16 w17 := below_of_grown hg17 hsz16 (fun k hk => by cases hk)
                    have hm17 : MkM w17 w15.heap.size u13 rs 1 (elM (1 / p)) := ⟨HM2.out.ra.grown hg17 (by cases hx : u13.ownBlock with | none => exact .inl rfl | some b => exact .inr (fun e => by cases e)), fun j hj => absurd hj (by rw [HRS.out, HI0.out]; omega), Nat.le_trans hsz16 hb17.size⟩
                    have HM17 := Lib.hid hm17
                    have HF17 := Lib.hid hf17
                    have hra17 := hm17.ra
                    have hsz17 := hm17.sz
                    clear hm17)
                 | (refine hAR w17 rfl _ _ rfl w15.heap.size _ u13 rs rfl hra17 (.slice y1 y2 y3) rfl (fun z => by simp) rfl hlen hsz17 ?_; intro v21 w21 ho21 hg21 hn21 hq21 sv21
                    have hG := HM17.out.push (r := .slice y1 y2 y3) (by have h := HF17.out; rw [HRS.out]; exact h) ho21 hg21 hn21
                    have HG5 := Lib.hid hG
                    clear hG)))
            go_roundg (1 - (i + 1))
            case measure => (have := HG2.out; omega)
            case rel => exact ⟨i + 1, _, by omega, rfl, by go_num, by rw [List.length_append, HRS.out]; rfl, HG5.out.1, (HBR2.out.trans hb17).trans HG5.out.2⟩
          · obtain rfl : i = 1 := by omega
            have HMC : Hid (MatC w16 u13 [[1 / p]]) := Lib.hid (by
              have h := HM2.out.mat
              rw [HRS.out] at h
              exact h.matC)
            go_wp2_with fail
            go_ret2
            exact ⟨_, rfl, HMC.out, below_then2 (below_then2 HB2.out (hBd ▸ HB14.out) HB2.out.size) hbr (Nat.le_trans HB2.out.size HB14.out.size)⟩
end Go.Proofs.YtbhkibilnmoljaaGreat
