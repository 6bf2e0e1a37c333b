/-
  package drydockref05: eliminate, of one row whose first element is not 0.
-/
import Derived.Test.YtbhkibilnmoljaaGreatQOne1
import Derived.Test.YtbhkibilnmoljaaGreatQOr2
import Derived.Test.YtbhkibilnmoljaaGreatQRb10
import Derived.Test.YtbhkibilnmoljaaGreatQRg1
namespace Go.Proofs.YtbhkibilnmoljaaGreat
set_option linter.unusedVariables false
set_option linter.unusedSimpArgs false
open Go.RowKit


theorem sign_ne1 {va : Value} {w : World} {q : Rat} (ha : FracC w va q) (hf : fits q) (hq : q ≠ 0) : Calls Tryz.prog 49 #[va] w fun en w' => ∃ z, en = .returned (.int .i64 z) ∧ (z == 0) = false ∧ Below w.heap.size w w' := by
  have h := r2sign_any va _ _ _ w ha.raw ⟨q.den_nz, hf.2, hf.1⟩
  rw [fq_self] at h
  refine h.mono ?_
  rintro e w' ⟨rfl, hb⟩
  exact ⟨_, rfl, by
    have : ¬ cmpR q 0 = 0 := fun e => hq ((cmpR_self_iff q 0).1 e)
    simpa using this, hb⟩
theorem r5mul_can (va vb : Value) (p q : Rat) (w : World) (ha : FracC w va p) (hb : FracC w vb q) (hp : fits p) (hq : fits q) (hf : fits (p * q)) : Calls Tryz.prog 37 #[va, vb] w (RF1 w (p * q)) := by
  have h := r5mul_raw va vb (RF.of p) (RF.of q) w ha.raw hb.raw (RF.of_ok hp) (RF.of_ok hq) (by rw [RF.of_q, RF.of_q]; exact hf)
  rw [RF.of_q, RF.of_q] at h
  exact h
/-- The first k elements are divided by the first one. -/
def divTo (x : Nat → Rat) (k : Nat) : Nat → Rat := fun t => if t < k then x t / x 0 else x t
theorem divTo_zero (x : Nat → Rat) : divTo x 0 = x := by funext t; unfold divTo; rw [if_neg (by omega)]
theorem divTo_at (x : Nat → Rat) (k : Nat) : divTo x k k = x k := by unfold divTo; rw [if_neg (by omega)]
theorem divTo_succ (x : Nat → Rat) (k : Nat) : (fun t => if t = k then x k / x 0 else divTo x k t) = divTo x (k + 1) := by
  funext t; unfold divTo
  by_cases h : t = k
  · subst h; rw [if_pos rfl, if_pos (by omega)]
  · rw [if_neg h]
    by_cases h2 : t < k
    · rw [if_pos h2, if_pos (by omega)]
    · rw [if_neg h2, if_neg (by omega)]
theorem results_tmp_cell {fn : Func} {p u : Tmp} {ty : TypeId} (h : fn.results = #[.tmp u, .cell p ty]) (tmps : Array Value) (P : Program) (w : World) :
    (results fn tmps).run P w = ((asAddr (tmps.getD p undef)).run P w).andThen fun a w1 => ((loadVar ty a).run P w1).andThen fun v w2 => .ok (.tuple #[tmps.getD u undef, v]) w2 := by
  simp only [results, h]
  simp [Sem.run_bind, Result.andThen]
theorem bodyPost_1c {P : Program} {fn : Func} {R : Ending → World → Prop} {a : Act} {w : World} {p u : Tmp} {ty : TypeId} {b : Nat} {v0 v1 v2 : Value} (h : fn.results = #[.tmp u, .cell p ty])
    (hp : a.tmps.getD p undef = .pointer (some ⟨b, 0, none⟩)) (hagg : ∀ w, (isAgg ty).run P w = .ok true w) (hs : ∀ w, (sizeOf ty).run P w = .ok 3 w) (hc : C3 w b v0 v1 v2) (hd : a.defers = [])
    (hR : R (.returned (.tuple #[a.tmps.getD u undef, .agg #[v0, v1, v2]])) w) : bodyPost P fn R .ret a w := by
  refine bodyPost_ret ?_ hd hR
  rw [results_tmp_cell h, hp]
  simp only [asAddr, Sem.run_pure, Result.andThen_ok, load_c3 hagg hs hc]
/-- What holds between the steps: the determinant so far in b7, the result's variable at S, the table. -/
structure InvE (w : World) (B S b7 : Nat) (vt r : Value) (n : Nat) (y : Nat → Rat) (t' : Bool) (a1 a2 : Option Addr) (l1 k1 l2 k2 : Nat) (q : Rat) (wr : World) : Prop where
  c7 : C3 wr b7 (.bool t') (.slice a1 l1 k1) (.slice a2 l2 k2)
  f7 : FracC wr (.agg #[.bool t', .slice a1 l1 k1, .slice a2 l2 k2]) q
  c5 : C3 wr S (.bool false) (.slice none 0 0) (.slice none 0 0)
  t : OneT wr B S vt r n y
  b : Below B w wr
  lt : S < b7
  bs : B ≤ S
section
variable {w w' wr : World} {B S b7 n : Nat} {vt r : Value} {y : Nat → Rat} {t' : Bool} {a1 a2 : Option Addr} {l1 k1 l2 k2 : Nat} {q : Rat}
theorem InvE.sz (h : InvE w B S b7 vt r n y t' a1 a2 l1 k1 l2 k2 q wr) : B ≤ wr.heap.size := by
  have := h.bs; have := h.t.sz; omega
theorem InvE.below (h : InvE w B S b7 vt r n y t' a1 a2 l1 k1 l2 k2 q wr) (hb : Below wr.heap.size wr w') : InvE w B S b7 vt r n y t' a1 a2 l1 k1 l2 k2 q w' :=
  ⟨h.c7.belowS hb, h.f7.below hb, h.c5.belowS hb, h.t.below hb, below_then2 h.b hb h.sz, h.lt, h.bs⟩
theorem InvE.set7 (h : InvE w B S b7 vt r n y t' a1 a2 l1 k1 l2 k2 q wr) {s : Bool} {c1 c2 : Option Addr} {m1 j1 m2 j2 : Nat} {p : Rat} (hf : FracC wr (.agg #[.bool s, .slice c1 m1 j1, .slice c2 m2 j2]) p) :
    InvE w B S b7 vt r n y s c1 c2 m1 j1 m2 j2 p (((wr.setCell ⟨b7, 0, none⟩ (.bool s)).setCell ⟨b7, 1, none⟩ (.slice c1 m1 j1)).setCell ⟨b7, 2, none⟩ (.slice c2 m2 j2)) := by
  have hl := h.lt
  have hs := h.bs
  exact ⟨h.c7.set _ _ _, hf.set3 h.c7 (fun z => by simp) (fun z => by simp) _ _ _, h.c5.c3 (by omega) _ _ _, h.t.c3 h.c7 (by omega) (fun z => by simp) (fun z => by simp) (fun z => by simp), below_set3 h.b (by omega) _ _ _, h.lt, h.bs⟩
theorem InvE.put (h : InvE w B S b7 vt r n y t' a1 a2 l1 k1 l2 k2 q wr) {k : Nat} (hk : k < n) {a b c : Value} {p : Rat} (hf : FracC wr (.agg #[a, b, c]) p) :
    InvE w B S b7 vt r n (fun t => if t = k then p else y t) t' a1 a2 l1 k1 l2 k2 q (((wr.setCell (ptr r (k * 3)) a).setCell (ptr r (k * 3 + 1)) b).setCell (ptr r (k * 3 + 2)) c) ∧
      ∀ {b' : Nat} {v0 v1 v2 : Value} {u : Rat}, S < b' → C3 wr b' v0 v1 v2 → FracC wr (.agg #[v0, v1, v2]) u → C3 (((wr.setCell (ptr r (k * 3)) a).setCell (ptr r (k * 3 + 1)) b).setCell (ptr r (k * 3 + 2)) c) b' v0 v1 v2 ∧ FracC (((wr.setCell (ptr r (k * 3)) a).setCell (ptr r (k * 3 + 1)) b).setCell (ptr r (k * 3 + 2)) c) (.agg #[v0, v1, v2]) u := by
  obtain ⟨p1, p2, p3⟩ := h.t.put hk hf
  have hr := h.t.br
  have hl := h.lt
  have hnl := h.t.row.noLimb
  obtain ⟨g, hg1, hg2, _⟩ := h.t.row.blk (by rw [rowL_length]; exact h.t.n0)
  have hne : ∀ b', S ≤ b' → r.ownBlock ≠ some b' := fun b' hb' e => by
    rw [hg1] at e; injection e with e; omega
  exact ⟨⟨h.c7.grownB p2 (hne _ (by omega)), h.f7.grown p2 hnl, h.c5.grownB p2 (hne _ (Nat.le_refl _)), p1, h.b.trans p3, h.lt, h.bs⟩, fun hb' hc' hf' => ⟨hc'.grownB p2 (hne _ (by omega)), hf'.grown p2 hnl⟩⟩
end
set_option maxRecDepth 100000 in
set_option maxHeartbeats 12800000 in
theorem relim_one (vt r : Value) (B n : Nat) (x : Nat → Rat) (w : World) (hT : OneT w B w.heap.size vt r n x) (hB : B ≤ w.heap.size) (hn : n ≤ 1000) (h0 : x 0 ≠ 0) (hf : ∀ k, k < n → fits (x k)) (hq : ∀ k, k < n → fits (x k / x 0)) :
    Calls Tryz.prog 28 #[vt, .int .i64 1] w fun e w' => ∃ d, e = .returned (.tuple #[.int .i64 1, d]) ∧ IsF d ∧ OneT w' B w.heap.size vt r n (divTo x n) ∧ Below B w w' := by
  have sv := hT.t.sl
  have lv : slen vt = 1 := hT.t.len
  have sr := hT.row.sl
  have lr : slen r = n := by rw [hT.row.fracs.len, rowL_length]
  have hn0 := hT.n0
  obtain ⟨ra1, ra2, ra3, rfl, _⟩ := id sr
  obtain rfl : ra2 = n := lr
  have H0 := Lib.hid h0
  have HF := Lib.hid hf
  have HQ := Lib.hid hq
  have hb0 := below_alloc w (.cells #[.bool false, .slice none 0 0, .slice none 0 0] 25)
  have HT0 := Lib.hid (hT.below hb0)
  have HR0 := Lib.hid (C3.new w 25 (.bool false) (.slice none 0 0) (.slice none 0 0))
  have HFS : Hid (fits (1 : Rat)) := Lib.hid fits_one
  clear hT h0 hf hq
  go_enter Tryz.func28, Tryz.ntmps28
  go_upto_region 1 with fail
  obtain ⟨W0, hW0⟩ : ∃ W0, w.alloc (.cells #[.bool false, .slice none 0 0, .slice none 0 0] 25) = W0 := ⟨_, rfl⟩
  rw [hW0] at hb0 HR0 HT0 ⊢
  have hWs : W0.heap.size = w.heap.size + 1 := by rw [← hW0]; simp
  have HWS := Lib.hid hWs
  clear hW0 hWs
  go_upto_region 2 with (go_at_call 35; (with_reducible refine (r2int_one _).mono ?_); rintro e13 w13 ⟨v13, rfl, hv13, hb13⟩
                         obtain ⟨t13, x13, y13, rfl, ⟨a131, l131, k131, rfl, q131⟩, ⟨a132, l132, k132, rfl, q132⟩⟩ := hv13.isF
                         have hb14 := below_then hb13 (below_alloc w13 (.cells #[.bool t13, .slice a131 l131 k131, .slice a132 l132 k132] 25))
                         have HV14 := Lib.hid (hv13.below (below_alloc w13 (.cells #[.bool t13, .slice a131 l131 k131, .slice a132 l132 k132] 25)))
                         have HZ13 : Hid (w.heap.size + 1 ≤ w13.heap.size) := Lib.hid (by have := hb13.size; have := HWS.out; omega)
                         have HC1 := Lib.hid (C3.new w13 25 (.bool t13) (.slice a131 l131 k131) (.slice a132 l132 k132))
                         have HT1 := Lib.hid (HT0.out.below hb14)
                         have HR1 := Lib.hid (HR0.out.belowS hb14)
                         have HB1 := Lib.hid ((below_then hb0 hb14).mono hB)
                         clear hv13 hb13 hb14)
  obtain ⟨b7, hb7⟩ : ∃ b, w13.heap.size = b := ⟨_, rfl⟩
  rw [hb7] at HC1 HZ13
  rw [hb7]
  clear hb7
  go_wp2_with fail
  have HI0 : Hid (InvE w B w.heap.size b7 vt (.slice ra1 ra2 ra3) ra2 x t13 a131 a132 l131 k131 l132 k132 1 (w13.alloc (.cells #[.bool t13, .slice a131 l131 k131, .slice a132 l132 k132] 25))) := Lib.hid ⟨HC1.out, HV14.out, HR1.out, HT1.out, HB1.out, by have := HZ13.out; omega, hB⟩
  clear HC1 HV14 HR1 HT1 HB1 HT0 HR0
  go_loopg [6, 8] (1) (fun g u6 u8 wr => ∃ (j : Nat) (t' : Bool) (a1 a2 : Option Addr) (l1 k1 l2 k2 : Nat), j ≤ 1 ∧ g = 1 - j ∧ u6 = .int .i64 j ∧ u8 = .int .i64 j ∧ InvE w B w.heap.size b7 vt (.slice ra1 ra2 ra3) ra2 (if j = 0 then x else divTo x ra2) t' a1 a2 l1 k1 l2 k2 (if j = 0 then 1 else 1 * x 0) wr)
  case atStart => exact ⟨0, _, _, _, _, _, _, _, Nat.zero_le _, rfl, rfl, rfl, HI0.out⟩
  case round =>
    obtain ⟨j, t', a1, a2, l1, k1, l2, k2, hj, hg, rfl, rfl, hI⟩ := hrel
    obtain ⟨w2, hw2⟩ : ∃ w2, w2 = wr := ⟨_, rfl⟩
    subst hw2
    have HG := Lib.hid hg
    clear hg HI0
    by_cases hj0 : j = 0
    · rw [if_pos hj0, if_pos hj0] at hI
      have j1 : (0 : Int) ≤ (j : Int) := by omega
      have j2 : (j : Int) < 1 := by omega
      have j3 : (j : Int) < (ra2 : Nat) := by omega
      have j4 : ¬ (j : Int) = 1 := by omega
      have hc : w2.cell? (ptr vt j) = some (.slice ra1 ra2 ra3) := by rw [hj0]; exact hI.t.cell
      obtain ⟨ea, eb, g1, g2, g3, g4, g5⟩ := hI.t.row.fracs.at' j (by rw [rowL_length]; omega)
      rw [rowL_get] at g1 g4 g5
      obtain ⟨ea1, ea2, ea3, rfl, _⟩ := g4.v.sl
      obtain ⟨eb1, eb2, eb3, rfl, _⟩ := g5.v.sl
      have HE : Hid (FracC w2 (.agg #[.bool (decide (x j < 0)), .slice ea1 ea2 ea3, .slice eb1 eb2 eb3]) (x j)) := Lib.hid ⟨_, _, rfl, g4, g5⟩
      have HJ : Hid (x j ≠ 0 ∧ x j = x 0) := Lib.hid (by rw [hj0]; exact ⟨H0.out, rfl⟩)
      have HFJ := Lib.hid (HF.out j (by omega))
      have HJ0 := Lib.hid hj0
      have HI := Lib.hid hI
      clear g4 g5 hI hj0
      go_wp2_with fail
      go_loopg [9] (0) (fun g u9 wr => u9 = .int .i64 j ∧ w2 = wr)
      case atStart => exact ⟨rfl, rfl⟩
      case round =>
        obtain ⟨rfl, rfl⟩ := hrel
        go_wp2_with (first
          | (go_at_call 49; (with_reducible refine (sign_ne1 HE.out HFJ.out HJ.out.1).mono ?_); rintro e3 w3 ⟨z3, rfl, hz3, hb3⟩
             have HI3 := Lib.hid (HI.out.below hb3)
             have HE3 := Lib.hid (HE.out.below hb3)
             have hc3 := cell_below hb3 hc
             have h1 := cell_below hb3 g1
             have h2 := cell_below hb3 g2
             have h3 := cell_below hb3 g3
             have hbA := below_alloc w3 (.cells #[.bool (decide (x j < 0)), .slice ea1 ea2 ea3, .slice eb1 eb2 eb3] 25)
             have HIA := Lib.hid (HI3.out.below hbA)
             have HEA := Lib.hid (HE3.out.below hbA)
             have HCA := Lib.hid (C3.new w3 25 (.bool (decide (x j < 0))) (.slice ea1 ea2 ea3) (.slice eb1 eb2 eb3))
             have HcA := Lib.hid (cell_below hbA hc3)
             obtain ⟨_, d0, d1, d2, _, _, _⟩ := HIA.out.c7
             obtain ⟨_, e0, e1, e2, _, _, _⟩ := HCA.out
             have HSZ : Hid (w.heap.size < w3.heap.size ∧ b7 < w3.heap.size) := Lib.hid ⟨HI3.out.c5.lt, HI3.out.c7.lt⟩
             clear HI HE hc g1 g2 g3 hb3 HI3 HE3 hbA)
          | (go_at_call 37; (with_reducible refine (r5mul_can _ _ _ _ _ HIA.out.f7 HEA.out HFS.out HFJ.out (by rw [Rat.one_mul]; exact HFJ.out)).mono ?_); rintro e5 w5 ⟨v5, rfl, hv5, hb5⟩
             obtain ⟨t5, x5, y5, rfl, ⟨a51, l51, k51, rfl, _⟩, ⟨a52, l52, k52, rfl, _⟩⟩ := hv5.isF
             have HI5 := Lib.hid (HIA.out.below hb5)
             have HE5 := Lib.hid (HEA.out.below hb5)
             have HC5 := Lib.hid (HCA.out.belowS hb5)
             have HV5 := Lib.hid hv5
             have Hc5 := Lib.hid (cell_below hb5 HcA.out)
             clear HIA HEA HCA HcA hc3 h1 h2 h3 d0 d1 d2 e0 e1 e2
             obtain ⟨_, d0, d1, d2, f0, f1, f2⟩ := HI5.out.c7))
        have HI6 := Lib.hid (HI5.out.set7 HV5.out)
        have HC6 := Lib.hid (HC5.out.c3 (b' := b7) (by have := HSZ.out.2; omega) (.bool t5) (.slice a51 l51 k51) (.slice a52 l52 k52))
        have HE6 := Lib.hid (HE5.out.set3 HI5.out.c7 (fun z => by simp) (fun z => by simp) (.bool t5) (.slice a51 l51 k51) (.slice a52 l52 k52))
        obtain ⟨b10, hb10⟩ : ∃ b, w3.heap.size = b := ⟨_, rfl⟩
        rw [hb10] at HSZ HC6
        rw [hb10]
        generalize hw6 : ((w5.setCell ⟨b7, 0, none⟩ (.bool t5)).setCell ⟨b7, 1, none⟩ (.slice a51 l51 k51)).setCell ⟨b7, 2, none⟩ (.slice a52 l52 k52) = w6 at *
        clear hw6 d0 d1 d2 f0 f1 f2 hb5 hv5 HI5 HE5 HC5 HV5 Hc5 hb10 j4
        go_loopg [11] (ra2) (fun g u11 wr => ∃ (k : Nat), k ≤ ra2 ∧ g = ra2 - k ∧ u11 = .int .i64 k ∧ InvE w B w.heap.size b7 vt (.slice ra1 ra2 ra3) ra2 (divTo x k) t5 a51 a52 l51 k51 l52 k52 (1 * x j) wr ∧ C3 wr b10 (.bool (decide (x j < 0))) (.slice ea1 ea2 ea3) (.slice eb1 eb2 eb3) ∧ FracC wr (.agg #[.bool (decide (x j < 0)), .slice ea1 ea2 ea3, .slice eb1 eb2 eb3]) (x j))
        case atStart => exact ⟨0, Nat.zero_le _, rfl, rfl, by rw [divTo_zero]; exact HI6.out, HC6.out, HE6.out⟩
        case round =>
          obtain ⟨k, hk, hgk, rfl, hI, hC, hP⟩ := hrel
          obtain ⟨w7, hw7⟩ : ∃ w7, w7 = wr := ⟨_, rfl⟩
          subst hw7
          have HGK := Lib.hid hgk
          have HI := Lib.hid hI
          have HC := Lib.hid hC
          have HP := Lib.hid hP
          have hc : w7.cell? (ptr vt j) = some (.slice ra1 ra2 ra3) := by rw [HJ0.out]; exact hI.t.cell
          clear hgk HI6 HC6 HE6
          by_cases hkn : k < ra2
          · obtain ⟨fa, fb, g1, g2, g3, g4, g5⟩ := hI.t.row.fracs.at' k (by rw [rowL_length]; exact hkn)
            rw [rowL_get, divTo_at] at g1 g4 g5
            obtain ⟨fa1, fa2, fa3, rfl, _⟩ := g4.v.sl
            obtain ⟨fb1, fb2, fb3, rfl, _⟩ := g5.v.sl
            obtain ⟨_, e0, e1, e2, _, _, _⟩ := id hC
            have hbD := below_drew (B := w7.heap.size) w7
            have HF1 : Hid (FracC w7.drew (.agg #[.bool (decide (x k < 0)), .slice fa1 fa2 fa3, .slice fb1 fb2 fb3]) (x k)) := Lib.hid (FracC.below ⟨_, _, rfl, g4, g5⟩ hbD)
            have HPD := Lib.hid (hP.below hbD)
            have HID := Lib.hid (hI.below hbD)
            have HCD := Lib.hid (hC.belowS hbD)
            have q1 := cell_below hbD hc
            have q2 := cell_below hbD g1
            have q3 := cell_below hbD g2
            have q4 := cell_below hbD g3
            have q5 := cell_below hbD e0
            have q6 := cell_below hbD e1
            have q7 := cell_below hbD e2
            have HFK := Lib.hid (HF.out k hkn)
            have HQK : Hid (fits (x k / x j)) := Lib.hid (by rw [HJ.out.2]; exact HQ.out k hkn)
            have i1 : (0 : Int) ≤ (k : Int) := by omega
            have i2 : (k : Int) < (ra2 : Nat) := by omega
            clear hI hC hP g1 g2 g3 g4 g5 e0 e1 e2 HI HC HP hbD
            go_wp2_with fail
            clear hc
            refine wpL.start 18 (fun w' => w'.cell? (ptr vt j) = some (.slice ra1 ra2 ra3) ∧ w'.cell? (ptr (.slice ra1 ra2 ra3) (k * 3)) = some (.bool (decide (x k < 0))) ∧ w'.cell? (ptr (.slice ra1 ra2 ra3) (k * 3 + 1)) = some (.slice fa1 fa2 fa3) ∧ w'.cell? (ptr (.slice ra1 ra2 ra3) (k * 3 + 2)) = some (.slice fb1 fb2 fb3) ∧ w'.cell? ⟨b10, 0, none⟩ = some (.bool (decide (x j < 0))) ∧ w'.cell? ⟨b10, 1, none⟩ = some (.slice ea1 ea2 ea3) ∧ w'.cell? ⟨b10, 2, none⟩ = some (.slice eb1 eb2 eb3)) (by kernel_rfl) ⟨q1, q2, q3, q4, q5, q6, q7⟩ (fun hHeld => ?_)
            (refine wpL.take 0 (by kernel_rfl) (by kernel_rfl) (by kernel_rfl) (by kernel_rfl) (by kernel_rfl) (by kernel_rfl) (by assumption) (by kernel_rfl) ?_; intro oi hoi; simp only [List.getElem?_toArray, List.getElem?_cons_succ, List.getElem?_cons_zero, Option.some.injEq] at hoi; subst hoi)
            first
              | (refine ⟨undef, fun _ _ _ h => h, Or.inr ⟨by rfl, rfl⟩, ?_⟩; simp only [Act.put, List.setIfInBounds_toArray, List.set_cons_zero, List.set_cons_succ])
              | (refine ⟨?_, fun _ _ _ h => h, Or.inl ⟨by rfl, ?_⟩, ?_⟩; rotate_left; focus (intro w hSw; (try dsimp only at hSw); go_simp; try with_reducible rfl)
                 simp only [Act.put, List.setIfInBounds_toArray, List.set_cons_zero, List.set_cons_succ])
              | fail "op 0"
            (refine wpL.take 1 (by kernel_rfl) (by kernel_rfl) (by kernel_rfl) (by kernel_rfl) (by kernel_rfl) (by kernel_rfl) (by assumption) (by kernel_rfl) ?_; intro oi hoi; simp only [List.getElem?_toArray, List.getElem?_cons_succ, List.getElem?_cons_zero, Option.some.injEq] at hoi; subst hoi)
            first
              | (refine ⟨undef, fun _ _ _ h => h, Or.inr ⟨by rfl, rfl⟩, ?_⟩; simp only [Act.put, List.setIfInBounds_toArray, List.set_cons_zero, List.set_cons_succ])
              | (refine ⟨?_, fun _ _ _ h => h, Or.inl ⟨by rfl, ?_⟩, ?_⟩; rotate_left; focus (intro w hSw; (try dsimp only at hSw); go_simp; try with_reducible rfl)
                 simp only [Act.put, List.setIfInBounds_toArray, List.set_cons_zero, List.set_cons_succ])
              | fail "op 1"
            (refine wpL.take 2 (by kernel_rfl) (by kernel_rfl) (by kernel_rfl) (by kernel_rfl) (by kernel_rfl) (by kernel_rfl) (by assumption) (by kernel_rfl) ?_; intro oi hoi; simp only [List.getElem?_toArray, List.getElem?_cons_succ, List.getElem?_cons_zero, Option.some.injEq] at hoi; subst hoi)
            first
              | (refine ⟨undef, fun _ _ _ h => h, Or.inr ⟨by rfl, rfl⟩, ?_⟩; simp only [Act.put, List.setIfInBounds_toArray, List.set_cons_zero, List.set_cons_succ])
              | (refine ⟨?_, fun _ _ _ h => h, Or.inl ⟨by rfl, ?_⟩, ?_⟩; rotate_left; focus (intro w hSw; (try dsimp only at hSw); go_simp; try with_reducible rfl)
                 simp only [Act.put, List.setIfInBounds_toArray, List.set_cons_zero, List.set_cons_succ])
              | fail "op 2"
            (refine wpL.take 3 (by kernel_rfl) (by kernel_rfl) (by kernel_rfl) (by kernel_rfl) (by kernel_rfl) (by kernel_rfl) (by assumption) (by kernel_rfl) ?_; intro oi hoi; simp only [List.getElem?_toArray, List.getElem?_cons_succ, List.getElem?_cons_zero, Option.some.injEq] at hoi; subst hoi)
            first
              | (refine ⟨undef, fun _ _ _ h => h, Or.inr ⟨by rfl, rfl⟩, ?_⟩; simp only [Act.put, List.setIfInBounds_toArray, List.set_cons_zero, List.set_cons_succ])
              | (refine ⟨?_, fun _ _ _ h => h, Or.inl ⟨by rfl, ?_⟩, ?_⟩; rotate_left; focus (intro w hSw; (try dsimp only at hSw); go_simp; try with_reducible rfl)
                 simp only [Act.put, List.setIfInBounds_toArray, List.set_cons_zero, List.set_cons_succ])
              | fail "op 3"
            (refine wpL.take 4 (by kernel_rfl) (by kernel_rfl) (by kernel_rfl) (by kernel_rfl) (by kernel_rfl) (by kernel_rfl) (by assumption) (by kernel_rfl) ?_; intro oi hoi; simp only [List.getElem?_toArray, List.getElem?_cons_succ, List.getElem?_cons_zero, Option.some.injEq] at hoi; subst hoi)
            first
              | (refine ⟨undef, fun _ _ _ h => h, Or.inr ⟨by rfl, rfl⟩, ?_⟩; simp only [Act.put, List.setIfInBounds_toArray, List.set_cons_zero, List.set_cons_succ])
              | (refine ⟨?_, fun _ _ _ h => h, Or.inl ⟨by rfl, ?_⟩, ?_⟩; rotate_left; focus (intro w hSw; (try dsimp only at hSw); go_simp; try with_reducible rfl)
                 simp only [Act.put, List.setIfInBounds_toArray, List.set_cons_zero, List.set_cons_succ])
              | fail "op 4"
            (refine wpL.take 5 (by kernel_rfl) (by kernel_rfl) (by kernel_rfl) (by kernel_rfl) (by kernel_rfl) (by kernel_rfl) (by assumption) (by kernel_rfl) ?_; intro oi hoi; simp only [List.getElem?_toArray, List.getElem?_cons_succ, List.getElem?_cons_zero, Option.some.injEq] at hoi; subst hoi)
            first
              | (refine ⟨undef, fun _ _ _ h => h, Or.inr ⟨by rfl, rfl⟩, ?_⟩; simp only [Act.put, List.setIfInBounds_toArray, List.set_cons_zero, List.set_cons_succ])
              | (refine ⟨?_, fun _ _ _ h => h, Or.inl ⟨by rfl, ?_⟩, ?_⟩; rotate_left; focus (intro w hSw; (try dsimp only at hSw); go_simp; try with_reducible rfl)
                 simp only [Act.put, List.setIfInBounds_toArray, List.set_cons_zero, List.set_cons_succ])
              | fail "op 5"
            (refine wpL.take 6 (by kernel_rfl) (by kernel_rfl) (by kernel_rfl) (by kernel_rfl) (by kernel_rfl) (by kernel_rfl) (by assumption) (by kernel_rfl) ?_; intro oi hoi; simp only [List.getElem?_toArray, List.getElem?_cons_succ, List.getElem?_cons_zero, Option.some.injEq] at hoi; subst hoi)
            first
              | (refine ⟨undef, fun _ _ _ h => h, Or.inr ⟨by rfl, rfl⟩, ?_⟩; simp only [Act.put, List.setIfInBounds_toArray, List.set_cons_zero, List.set_cons_succ])
              | (refine ⟨?_, fun _ _ _ h => h, Or.inl ⟨by rfl, ?_⟩, ?_⟩; rotate_left; focus (intro w hSw; (try dsimp only at hSw); go_simp; try with_reducible rfl)
                 simp only [Act.put, List.setIfInBounds_toArray, List.set_cons_zero, List.set_cons_succ])
              | fail "op 6"
            (refine wpL.take 7 (by kernel_rfl) (by kernel_rfl) (by kernel_rfl) (by kernel_rfl) (by kernel_rfl) (by kernel_rfl) (by assumption) (by kernel_rfl) ?_; intro oi hoi; simp only [List.getElem?_toArray, List.getElem?_cons_succ, List.getElem?_cons_zero, Option.some.injEq] at hoi; subst hoi)
            first
              | (refine ⟨undef, fun _ _ _ h => h, Or.inr ⟨by rfl, rfl⟩, ?_⟩; simp only [Act.put, List.setIfInBounds_toArray, List.set_cons_zero, List.set_cons_succ])
              | (refine ⟨?_, fun _ _ _ h => h, Or.inl ⟨by rfl, ?_⟩, ?_⟩; rotate_left; focus (intro w hSw; (try dsimp only at hSw); go_simp; try with_reducible rfl)
                 simp only [Act.put, List.setIfInBounds_toArray, List.set_cons_zero, List.set_cons_succ])
              | fail "op 7"
            (refine wpL.take 8 (by kernel_rfl) (by kernel_rfl) (by kernel_rfl) (by kernel_rfl) (by kernel_rfl) (by kernel_rfl) (by assumption) (by kernel_rfl) ?_; intro oi hoi; simp only [List.getElem?_toArray, List.getElem?_cons_succ, List.getElem?_cons_zero, Option.some.injEq] at hoi; subst hoi)
            first
              | (refine ⟨undef, fun _ _ _ h => h, Or.inr ⟨by rfl, rfl⟩, ?_⟩; simp only [Act.put, List.setIfInBounds_toArray, List.set_cons_zero, List.set_cons_succ])
              | (refine ⟨?_, fun _ _ _ h => h, Or.inl ⟨by rfl, ?_⟩, ?_⟩; rotate_left; focus (intro w hSw; (try dsimp only at hSw); go_simp; try with_reducible rfl)
                 simp only [Act.put, List.setIfInBounds_toArray, List.set_cons_zero, List.set_cons_succ])
              | fail "op 8"
            (refine wpL.take 9 (by kernel_rfl) (by kernel_rfl) (by kernel_rfl) (by kernel_rfl) (by kernel_rfl) (by kernel_rfl) (by assumption) (by kernel_rfl) ?_; intro oi hoi; simp only [List.getElem?_toArray, List.getElem?_cons_succ, List.getElem?_cons_zero, Option.some.injEq] at hoi; subst hoi)
            first
              | (refine ⟨undef, fun _ _ _ h => h, Or.inr ⟨by rfl, rfl⟩, ?_⟩; simp only [Act.put, List.setIfInBounds_toArray, List.set_cons_zero, List.set_cons_succ])
              | (refine ⟨?_, fun _ _ _ h => h, Or.inl ⟨by rfl, ?_⟩, ?_⟩; rotate_left; focus (intro w hSw; (try dsimp only at hSw); go_simp; try with_reducible rfl)
                 simp only [Act.put, List.setIfInBounds_toArray, List.set_cons_zero, List.set_cons_succ])
              | fail "op 9"
            (refine wpL.take 10 (by kernel_rfl) (by kernel_rfl) (by kernel_rfl) (by kernel_rfl) (by kernel_rfl) (by kernel_rfl) (by assumption) (by kernel_rfl) ?_; intro oi hoi; simp only [List.getElem?_toArray, List.getElem?_cons_succ, List.getElem?_cons_zero, Option.some.injEq] at hoi; subst hoi)
            first
              | (refine ⟨undef, fun _ _ _ h => h, Or.inr ⟨by rfl, rfl⟩, ?_⟩; simp only [Act.put, List.setIfInBounds_toArray, List.set_cons_zero, List.set_cons_succ])
              | (refine ⟨?_, fun _ _ _ h => h, Or.inl ⟨by rfl, ?_⟩, ?_⟩; rotate_left; focus (intro w hSw; (try dsimp only at hSw); go_simp; try with_reducible rfl)
                 simp only [Act.put, List.setIfInBounds_toArray, List.set_cons_zero, List.set_cons_succ])
              | fail "op 10"
            (refine wpL.take 11 (by kernel_rfl) (by kernel_rfl) (by kernel_rfl) (by kernel_rfl) (by kernel_rfl) (by kernel_rfl) (by assumption) (by kernel_rfl) ?_; intro oi hoi; simp only [List.getElem?_toArray, List.getElem?_cons_succ, List.getElem?_cons_zero, Option.some.injEq] at hoi; subst hoi)
            first
              | (refine ⟨undef, fun _ _ _ h => h, Or.inr ⟨by rfl, rfl⟩, ?_⟩; simp only [Act.put, List.setIfInBounds_toArray, List.set_cons_zero, List.set_cons_succ])
              | (refine ⟨?_, fun _ _ _ h => h, Or.inl ⟨by rfl, ?_⟩, ?_⟩; rotate_left; focus (intro w hSw; (try dsimp only at hSw); go_simp; try with_reducible rfl)
                 simp only [Act.put, List.setIfInBounds_toArray, List.set_cons_zero, List.set_cons_succ])
              | fail "op 11"
            (refine wpL.take 12 (by kernel_rfl) (by kernel_rfl) (by kernel_rfl) (by kernel_rfl) (by kernel_rfl) (by kernel_rfl) (by assumption) (by kernel_rfl) ?_; intro oi hoi; simp only [List.getElem?_toArray, List.getElem?_cons_succ, List.getElem?_cons_zero, Option.some.injEq] at hoi; subst hoi)
            first
              | (refine ⟨undef, fun _ _ _ h => h, Or.inr ⟨by rfl, rfl⟩, ?_⟩; simp only [Act.put, List.setIfInBounds_toArray, List.set_cons_zero, List.set_cons_succ])
              | (refine ⟨?_, fun _ _ _ h => h, Or.inl ⟨by rfl, ?_⟩, ?_⟩; rotate_left; focus (intro w hSw; (try dsimp only at hSw); go_simp; try with_reducible rfl)
                 simp only [Act.put, List.setIfInBounds_toArray, List.set_cons_zero, List.set_cons_succ])
              | fail "op 12"
            (refine wpL.one 13 (by kernel_rfl) (by kernel_rfl) ?_; intro oi hoi K hK; simp only [List.getElem?_toArray, List.getElem?_cons_succ, List.getElem?_cons_zero, Option.some.injEq] at hoi; subst hoi)
            refine step_callg 51 #[.agg #[.bool (decide (x k < 0)), .slice fa1 fa2 fa3, .slice fb1 fb2 fb3], .agg #[.bool (decide (x j < 0)), .slice ea1 ea2 ea3, .slice eb1 eb2 eb3]] ?_ ?_ (r2quo_can _ _ (x k) (x j) _ HF1.out HPD.out HFK.out HFJ.out HJ.out.1 HQK.out) ?_
            · rfl
            · go_simp
            rintro e9 w9 ⟨v9, rfl, hv9, hb9⟩
            obtain ⟨t9, x9, y9, rfl, ⟨a91, l91, k91, rfl, _⟩, ⟨a92, l92, k92, rfl, _⟩⟩ := hv9.isF
            refine ⟨_, rfl, ?_⟩
            have hNew : (fun w' => w'.cell? (ptr vt j) = some (.slice ra1 ra2 ra3) ∧ w'.cell? (ptr (.slice ra1 ra2 ra3) (k * 3)) = some (.bool (decide (x k < 0))) ∧ w'.cell? (ptr (.slice ra1 ra2 ra3) (k * 3 + 1)) = some (.slice fa1 fa2 fa3) ∧ w'.cell? (ptr (.slice ra1 ra2 ra3) (k * 3 + 2)) = some (.slice fb1 fb2 fb3) ∧ w'.cell? ⟨b10, 0, none⟩ = some (.bool (decide (x j < 0))) ∧ w'.cell? ⟨b10, 1, none⟩ = some (.slice ea1 ea2 ea3) ∧ w'.cell? ⟨b10, 2, none⟩ = some (.slice eb1 eb2 eb3)) w9 := ⟨cell_below hb9 q1, cell_below hb9 q2, cell_below hb9 q3, cell_below hb9 q4, cell_below hb9 q5, cell_below hb9 q6, cell_below hb9 q7⟩
            refine hK.out _ _ (fun _ => hNew) ?_
            clear hK K hHeld q1 q2 q3 q4 q5 q6 q7
            try simp only [Act.put, List.setIfInBounds_toArray, List.set_cons_zero, List.set_cons_succ]
            (refine wpL.takeU 14 (by kernel_rfl) (by kernel_rfl) (by kernel_rfl) (by kernel_rfl) (by kernel_rfl) (by assumption) (by kernel_rfl) ?_; intro oi hoi; simp only [List.getElem?_toArray, List.getElem?_cons_succ, List.getElem?_cons_zero, Option.some.injEq] at hoi; subst hoi)
            first
              | (refine ⟨undef, fun _ _ _ h => h, Or.inr ⟨by rfl, rfl⟩, ?_⟩; simp only [Act.put, List.setIfInBounds_toArray, List.set_cons_zero, List.set_cons_succ])
              | (refine ⟨?_, fun _ _ _ h => h, Or.inl ⟨by rfl, ?_⟩, ?_⟩; rotate_left; focus (intro w hSw; go_simp; try with_reducible rfl)
                 simp only [Act.put, List.setIfInBounds_toArray, List.set_cons_zero, List.set_cons_succ])
              | fail "op 14"
            (refine wpL.takeU 15 (by kernel_rfl) (by kernel_rfl) (by kernel_rfl) (by kernel_rfl) (by kernel_rfl) (by assumption) (by kernel_rfl) ?_; intro oi hoi; simp only [List.getElem?_toArray, List.getElem?_cons_succ, List.getElem?_cons_zero, Option.some.injEq] at hoi; subst hoi)
            first
              | (refine ⟨undef, fun _ _ _ h => h, Or.inr ⟨by rfl, rfl⟩, ?_⟩; simp only [Act.put, List.setIfInBounds_toArray, List.set_cons_zero, List.set_cons_succ])
              | (refine ⟨?_, fun _ _ _ h => h, Or.inl ⟨by rfl, ?_⟩, ?_⟩; rotate_left; focus (intro w hSw; go_simp; try with_reducible rfl)
                 simp only [Act.put, List.setIfInBounds_toArray, List.set_cons_zero, List.set_cons_succ])
              | fail "op 15"
            (refine wpL.takeU 16 (by kernel_rfl) (by kernel_rfl) (by kernel_rfl) (by kernel_rfl) (by kernel_rfl) (by assumption) (by kernel_rfl) ?_; intro oi hoi; simp only [List.getElem?_toArray, List.getElem?_cons_succ, List.getElem?_cons_zero, Option.some.injEq] at hoi; subst hoi)
            first
              | (refine ⟨undef, fun _ _ _ h => h, Or.inr ⟨by rfl, rfl⟩, ?_⟩; simp only [Act.put, List.setIfInBounds_toArray, List.set_cons_zero, List.set_cons_succ])
              | (refine ⟨?_, fun _ _ _ h => h, Or.inl ⟨by rfl, ?_⟩, ?_⟩; rotate_left; focus (intro w hSw; go_simp; try with_reducible rfl)
                 simp only [Act.put, List.setIfInBounds_toArray, List.set_cons_zero, List.set_cons_succ])
              | fail "op 16"
            (refine wpL.take 17 (by kernel_rfl) (by kernel_rfl) (by kernel_rfl) (by kernel_rfl) (by kernel_rfl) (by kernel_rfl) (by assumption) (by kernel_rfl) ?_; intro oi hoi; simp only [List.getElem?_toArray, List.getElem?_cons_succ, List.getElem?_cons_zero, Option.some.injEq] at hoi; subst hoi)
            first
              | (refine ⟨undef, fun _ _ _ h => h, Or.inr ⟨by rfl, rfl⟩, ?_⟩; simp only [Act.put, List.setIfInBounds_toArray, List.set_cons_zero, List.set_cons_succ])
              | (refine ⟨?_, fun _ _ _ h => h, Or.inl ⟨by rfl, ?_⟩, ?_⟩; rotate_left; focus (intro w hSw; (try dsimp only at hSw); go_simp; try with_reducible rfl)
                 simp only [Act.put, List.setIfInBounds_toArray, List.set_cons_zero, List.set_cons_succ])
              | fail "op 17"
            obtain ⟨q1, q2, q3, q4, q5, q6, q7⟩ := hNew
            have hI9 := HID.out.below hb9
            have hro := hI9.t.row
            have f0 := hro.frozen (k * 3) (by rw [rowL_length]; omega)
            have f1 := hro.frozen (k * 3 + 1) (by rw [rowL_length]; omega)
            have f2 := hro.frozen (k * 3 + 2) (by rw [rowL_length]; omega)
            have n01 := hro.inj (by rw [rowL_length]; omega) (show k * 3 ≠ k * 3 + 1 by omega)
            have n02 := hro.inj (by rw [rowL_length]; omega) (show k * 3 ≠ k * 3 + 2 by omega)
            have n12 := hro.inj (by rw [rowL_length]; omega) (show k * 3 + 1 ≠ k * 3 + 2 by omega)
            (refine wpL.one 18 (by kernel_rfl) (by kernel_rfl) ?_; intro oi hoi K hK; simp only [List.getElem?_toArray, List.getElem?_cons_succ, List.getElem?_cons_zero, Option.some.injEq] at hoi; subst hoi)
            rw [if_pos (by rfl)]
            go_simp
            refine hK.out _ _ (fun h => by first | cases h | simp at h) ?_
            clear hK K q1 q2 q3 q4 q5 q6 q7 f0 f1 f2 n01 n02 n12 hro
            refine wpL.done (by kernel_rfl) ?_ _
            have hput := hI9.put hkn hv9
            have HPUT := Lib.hid hput.1
            have HKEEP := Lib.hid (hput.2 HSZ.out.1 (HCD.out.belowS hb9) (HPD.out.below hb9))
            clear hput hI9 hv9 hb9
            go_wp2_with fail
            go_roundg (ra2 - (k + 1))
            case measure => (have := HGK.out; omega)
            case rel =>
              refine ⟨k + 1, by omega, rfl, by go_num, ?_, HKEEP.out.1, HKEEP.out.2⟩
              have h := HPUT.out
              rw [HJ.out.2, divTo_succ] at h
              rw [HJ.out.2]
              exact h
          · obtain rfl : k = ra2 := by omega
            clear hI hC hP HC HP
            have HJ4 : Hid (j = 0 ∧ x j = x 0) := Lib.hid ⟨HJ0.out, HJ.out.2⟩
            go_wp2_with fail
            clear hc
            go_loopg [12] (1) (fun g u12 wr => ∃ (i : Nat), i ≤ 1 ∧ g = 1 - i ∧ u12 = .int .i64 i ∧ InvE w B w.heap.size b7 vt (.slice ra1 k ra3) k (divTo x k) t5 a51 a52 l51 k51 l52 k52 (1 * x j) wr)
            case atStart => exact ⟨0, Nat.zero_le _, rfl, rfl, HI.out⟩
            case round =>
              obtain ⟨i, hi, hgi, rfl, hI⟩ := hrel
              obtain ⟨w8, hw8⟩ : ∃ w8, w8 = wr := ⟨_, rfl⟩
              subst hw8
              have HGI := Lib.hid hgi
              have HI8 := Lib.hid hI
              clear hgi HI
              by_cases hi1 : i < 1
              · have e : i = j := by have := HJ4.out.1; omega
                subst e
                have hc : w8.cell? (ptr vt i) = some (.slice ra1 k ra3) := by rw [HJ4.out.1]; exact hI.t.cell
                obtain ⟨fa, fb, g1, g2, g3, g4, g5⟩ := hI.t.row.fracs.at' i (by rw [rowL_length]; have := HJ4.out.1; omega)
                rw [rowL_get] at g1 g4 g5
                obtain ⟨fa1, fa2, fa3, rfl, _⟩ := g4.v.sl
                obtain ⟨fb1, fb2, fb3, rfl, _⟩ := g5.v.sl
                obtain ⟨u, hu⟩ : ∃ u, decide (divTo x k i < 0) = u := ⟨_, rfl⟩
                rw [hu] at g1
                have HI9 := Lib.hid (hI.below (below_alloc w8 (.cells #[.bool u, .slice fa1 fa2 fa3, .slice fb1 fb2 fb3] 25)))
                clear g4 g5 hI hu
                go_wp2_with fail
                go_roundg (1 - (i + 1))
                case measure => (have := HGI.out; omega)
                case rel => exact ⟨i + 1, by omega, rfl, by go_num, HI9.out⟩
              · obtain rfl : i = 1 := by omega
                clear hI
                go_wp2_with fail
                go_roundg (1 - (j + 1))
                case measure => (have := HG.out; omega)
                case rel =>
                  refine ⟨j + 1, t5, a51, a52, l51, k51, l52, k52, by have := HJ4.out.1; omega, rfl, by go_num, by go_num, ?_⟩
                  rw [if_neg (by omega), if_neg (by omega)]
                  have h := HI8.out
                  rw [HJ4.out.2] at h
                  exact h
    · obtain rfl : j = 1 := by omega
      rw [if_neg (by decide), if_neg (by decide)] at hI
      have HI := Lib.hid hI
      obtain ⟨_, c0, c1, c2, f0, f1, f2⟩ := hI.c5
      obtain ⟨_, d0, d1, d2, _, _, _⟩ := hI.c7
      clear hI
      go_wp2_with fail
      refine wpN.start [3] (fun w' => w'.cell? ⟨b7, 0, none⟩ = some (.bool t') ∧ w'.cell? ⟨b7, 1, none⟩ = some (.slice a1 l1 k1) ∧ w'.cell? ⟨b7, 2, none⟩ = some (.slice a2 l2 k2)) (by kernel_rfl) ⟨d0, d1, d2⟩ (fun hHeld => ?_)
      (refine wpN.take 0 (by kernel_rfl) (by kernel_rfl) (by kernel_rfl) (by kernel_rfl) (by kernel_rfl) (by assumption) (by kernel_rfl) ?_; intro oi hoi; simp only [List.getElem?_toArray, List.getElem?_cons_succ, List.getElem?_cons_zero, Option.some.injEq] at hoi; subst hoi)
      first
        | (refine ⟨undef, fun _ _ _ h => h, Or.inr ⟨by rfl, rfl⟩, ?_⟩; simp only [Act.put, List.setIfInBounds_toArray, List.set_cons_zero, List.set_cons_succ])
        | (refine ⟨?_, fun _ _ _ h => h, Or.inl ⟨by rfl, ?_⟩, ?_⟩; rotate_left; focus (intro w hSw; (try dsimp only at hSw); go_simp; try with_reducible rfl)
           simp only [Act.put, List.setIfInBounds_toArray, List.set_cons_zero, List.set_cons_succ])
        | fail "op 0"
      (refine wpN.take 1 (by kernel_rfl) (by kernel_rfl) (by kernel_rfl) (by kernel_rfl) (by kernel_rfl) (by assumption) (by kernel_rfl) ?_; intro oi hoi; simp only [List.getElem?_toArray, List.getElem?_cons_succ, List.getElem?_cons_zero, Option.some.injEq] at hoi; subst hoi)
      first
        | (refine ⟨undef, fun _ _ _ h => h, Or.inr ⟨by rfl, rfl⟩, ?_⟩; simp only [Act.put, List.setIfInBounds_toArray, List.set_cons_zero, List.set_cons_succ])
        | (refine ⟨?_, fun _ _ _ h => h, Or.inl ⟨by rfl, ?_⟩, ?_⟩; rotate_left; focus (intro w hSw; (try dsimp only at hSw); go_simp; try with_reducible rfl)
           simp only [Act.put, List.setIfInBounds_toArray, List.set_cons_zero, List.set_cons_succ])
        | fail "op 1"
      (refine wpN.take 2 (by kernel_rfl) (by kernel_rfl) (by kernel_rfl) (by kernel_rfl) (by kernel_rfl) (by assumption) (by kernel_rfl) ?_; intro oi hoi; simp only [List.getElem?_toArray, List.getElem?_cons_succ, List.getElem?_cons_zero, Option.some.injEq] at hoi; subst hoi)
      first
        | (refine ⟨undef, fun _ _ _ h => h, Or.inr ⟨by rfl, rfl⟩, ?_⟩; simp only [Act.put, List.setIfInBounds_toArray, List.set_cons_zero, List.set_cons_succ])
        | (refine ⟨?_, fun _ _ _ h => h, Or.inl ⟨by rfl, ?_⟩, ?_⟩; rotate_left; focus (intro w hSw; (try dsimp only at hSw); go_simp; try with_reducible rfl)
           simp only [Act.put, List.setIfInBounds_toArray, List.set_cons_zero, List.set_cons_succ])
        | fail "op 2"
      (refine wpN.one 3 (by kernel_rfl) (by kernel_rfl) ?_; intro oi hoi K hK; simp only [List.getElem?_toArray, List.getElem?_cons_succ, List.getElem?_cons_zero, Option.some.injEq] at hoi; subst hoi)
      rw [if_pos (by rfl)]
      go_simp
      refine hK.out _ _ (fun h => by cases h) ?_
      clear hK K hHeld
      refine wpN.done (by kernel_rfl) ?_ _
      have hbD := below_drew (B := w2.heap.size) w2
      have hID := HI.out.below hbD
      go_wp2_with fail
      refine bodyPost_1c rfl rfl Tryz.aggF Tryz.sizeF (hID.c5.set _ _ _) rfl ?_
      have h := hID.f7.set3 hID.c5 (fun z => by simp) (fun z => by simp) (.bool t') (.slice a1 l1 k1) (.slice a2 l2 k2)
      exact ⟨_, rfl, h.isF, hID.t.c3 hID.c5 (Nat.le_refl _) (fun z => by simp) (fun z => by simp) (fun z => by simp), below_set3 hID.b hB _ _ _⟩
end Go.Proofs.YtbhkibilnmoljaaGreat
