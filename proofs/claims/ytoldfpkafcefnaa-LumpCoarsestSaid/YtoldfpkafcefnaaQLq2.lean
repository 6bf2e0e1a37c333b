/-
  LumpCoarsest: for every two tapes the law returns true, and the tapes read as they did. No condition.
  Ahead of it: package drydocklaw22: LumpCoarsest, the walk.
-/
import Derived.Test.YtoldfpkafcefnaaQRd1
import Derived.Test.YtoldfpkafcefnaaQAw2
import Derived.Test.YtoldfpkafcefnaaRows
import Derived.WalkKit
import Derived.ProofKit
import Derived.OpenShut
import Derived.ChangeSlices
namespace Go.Proofs.Ytoldfpkafcefnaa
set_option linter.unusedVariables false
set_option linter.unusedSimpArgs false
open Go.RowKit

/-- append(s, x), s an own list of ints. -/
theorem append1_i64 {P : Program} (t e : TypeId) (i : TypeInfo) (ht : P.underlying t = some (.slice e)) (hi : P.info? e = some i) (hz : i.zero = some (.int .i64 0)) (hsize : i.size = 1) (hby : i.bytes = 8)
    (w0 : World) {ops : Array Oper} {rest : List Oper} {o : Oper} {a : Act} {Q : Exit → Act → World → Prop} (hgd : o.guard = none) (s x : Operand)
    (ho : o.op = .call { callee := .builtin .append, args := #[s, x], argTypes := #[t, t] }) (B : Nat) (e' : TypeId)
    (v : Value) (es : List Int) (hs : a.eval s = v) (hown : OwnE w0 e B v (es.map (Value.int .i64))) (y : Int) (hxe : a.eval x = .slice (some ⟨w0.heap.size, 0, none⟩) 1 1) (hn : es.length ≤ 1000) (hbase : B ≤ w0.heap.size)
    (h : ∀ v' w', OwnE w' e B v' ((es ++ [y]).map (Value.int .i64)) → Below B w0 w' → wpList P ops Q rest (a.put o.dst v') w') : wpList P ops Q (o :: rest) a (w0.alloc (.cells #[.int .i64 y] e')) := by
  refine wpList_append1_E w0 hgd s x t ho B e e' i (.int .i64 0) 8 ht hi hz hsize hby rfl v (es.map (Value.int .i64)) hs hown (.int .i64 y) hxe rfl (by simp [maxLen]; omega) (by simp; omega) hbase ?_
  intro v' w' h2 h4
  exact h v' w' (by rw [List.map_append]; exact h2) h4
theorem coarse_len {c : RC} {nx : List Int} (h : CoarseP c nx) (hv : validP c) : nx.length = c.lost.length := by
  have hn : 0 < c.lost.length := by have := hv.1; have := hv.2.2.1; omega
  exact ((h.refs hn).1.ok hn).2
/-- What LumpCoarsest asks of the blocks, in plain words. -/
structure CoL (c : CQ) (of : List Int) (share : List Rat) (nx : List Int) : Prop where
  ck : checkP (copQ c of share).raw nx
  len : nx.length = of.length
  cop : ∀ i j : Nat, of[i]? = of[j]? → nx[i]? = nx[j]?
  any : ∀ L, checkP (copQ c of share).raw L → ∀ i j : Nat, L[i]? = L[j]? → nx[i]? = nx[j]?
  qv : validP (quo (copQ c of share).raw nx).raw
  one : ∀ single, CoarseP (quo (copQ c of share).raw nx).raw single → single = idl (cnt nx)
theorem CoL.of {c : CQ} {of : List Int} {share : List Rat} {nx : List Int} (ht : tapeP c) (h : CopP c.start.length of share) (hco : CoarseP (copQ c of share).raw nx) : CoL c of share nx := by
  have hv := cop_valid ht h
  have hck := hco.check hv
  have hq := cop_quo_valid ht h hck
  exact ⟨hck, by rw [coarse_len hco hv]; simp [CQ.raw, copQ], hco.coarser hv (Stab.of_check (cop_check ht h)), fun L hL => hco.coarser hv (Stab.of_check hL), hq, fun s hs => coarse_single hv hco hq hs⟩
set_option maxRecDepth 100000 in
set_option maxHeartbeats 6400000 in
theorem coarsest_law (v vo : Value) (l l2 : List Nat) (w : World) (h : CellsV w v (bytes l)) (hb : ∀ x ∈ l, x < 256) (h2 : CellsV w vo (bytes l2)) (hb2 : ∀ x ∈ l2, x < 256) :
    Calls Try.prog 5 #[v, vo] w (fun e w' => e = .returned (.bool true) ∧ Below w.heap.size w w') := by
  obtain ⟨i1, hi1, hz1, hs1, hy1⟩ := info_parts Try.infoInt
  have hAI := append1_i64 (P := Try.prog) 28 3 i1 Try.underlying28 hi1 hz1 hs1 hy1
  clear hi1 hz1 hs1 hy1
  have s2 := CellsV.sl h2
  have l2n : slen vo = l2.length := by have := CellsV.len h2; simpa [bytes] using this
  have hl2 : l2.length ≤ 9223372036854775807 := by have := s2.le; omega
  go_enter Try.func5, Try.ntmps5
  go_wp2_with (first
    | (go_at_call 8; (with_reducible refine (read_any _ l _ h hb).mono ?_); rintro e1 w1 ⟨vd, vc, c, of, share, rfl, hD, hOf, hTP, hCP, hb1⟩
       obtain ⟨dr, ds, dl, rfl, k1, k2, k3⟩ := id hD
       obtain ⟨ard, nrd, krd, rfl, _⟩ := id k1.sl
       obtain ⟨asd, nsd, ksd, rfl, _⟩ := id k2.sl
       obtain ⟨ald, nld, kld, rfl, _⟩ := id (CellsV.sl k3)
       have hns : nsd = of.length := by have := k2.len; simpa [copQ, slen] using this
       subst hns
       have ho10 := hCP.le
       have HTP := Lib.hid hTP
       have HCP := Lib.hid hCP
       have ba2 := below_alloc w1 (.cells #[.slice ard nrd krd, .slice asd of.length ksd, .slice ald nld kld] 27)
       have hC2 := C3.new w1 27 (.slice ard nrd krd) (.slice asd of.length ksd) (.slice ald nld kld)
       have HC2 := Lib.hid hC2
       have HD2 := Lib.hid (hD.below ba2)
       have HO2 := Lib.hid (hOf.below ba2)
       have HB2 := Lib.hid (below_then hb1 ba2)
       obtain ⟨_, c0, c1, c2, _, _, _⟩ := id hC2
       clear hD hOf hTP hCP k1 k2 k3 hC2 ba2)
    | (go_at_call 18; (with_reducible refine (coarse_any _ (copQ c of share).raw _ HD2.out.raw).mono ?_); rintro e3 w3 ⟨_, hg3, hb3⟩; obtain ⟨v3, nx, rfl, hN3, hco⟩ := hg3 (cop_valid HTP.out HCP.out); clear hg3
       have hCL := CoL.of HTP.out HCP.out hco
       have HCO := Lib.hid hco
       have HCL := Lib.hid hCL
       have HN3 := Lib.hid hN3
       have s3 := CellsV.sl hN3
       have l3 : slen v3 = of.length := hN3.len.trans hCL.len
       obtain ⟨_, c0, c1, c2, _, _, _⟩ := HC2.out.belowS hb3
       clear hco hCL hN3)
    | (go_at_call 16; (with_reducible refine (check_any _ _ (copQ c of share).raw nx _ (HD2.out.raw.below hb3) HN3.out).mono ?_); rintro e4 w4 ⟨⟨b4, rfl, hb4x⟩, hb4⟩; obtain rfl : b4 = true := hb4x.2 HCL.out.ck; clear hb4x
       have hb34 := below_then hb3 hb4
       have HC4 := Lib.hid (HC2.out.belowS hb34)
       have HD4 := Lib.hid (HD2.out.below hb34)
       have HO4 := Lib.hid (HO2.out.below hb34)
       have HN4 := Lib.hid (HN3.out.below hb4)
       have HB4 := Lib.hid (below_then HB2.out hb34)
       clear c0 c1 c2))
  generalize w1.alloc (.cells #[.slice ard nrd krd, .slice asd of.length ksd, .slice ald nld kld] 27) = W2 at *
  generalize w1.heap.size = S2 at *
  clear hb1 hb34 hb3 hb4
  go_loopw [9, 10] (fun u9 u10 wr => ∃ (k : Nat) (L : List Int), k ≤ of.length ∧ u10 = .int .i64 k ∧ L.length = k ∧ OwnE wr 3 w4.heap.size u9 (L.map (Value.int .i64)) ∧ Below w4.heap.size w4 wr) (fun _ u10 _ => of.length - (intOf u10).toNat)
  case atStart => exact ⟨0, [], Nat.zero_le _, rfl, rfl, OwnE.nil _ _ _, Below.refl _ _⟩
  case round =>
    obtain ⟨k, L, hk, rfl, hL, ho, hbr⟩ := hrel
    have HO := Lib.hid ho
    have s4 := ho.sl
    have hws := hbr.size
    obtain ⟨_, c0, c1, c2, _, _, _⟩ := HC4.out.belowS hbr
    have HL := Lib.hid hL
    have hL1 : L.length ≤ 1000 := by omega
    clear hL
    by_cases hkl : k < of.length
    · have i1 : (0 : Int) ≤ (k : Int) := by omega
      by_cases hk2 : k < l2.length
      · have hx := CellsV.cell (CellsV.below h2 (below_then HB4.out hbr)) k (by simpa [bytes] using hk2)
        have hx256 := hb2 _ (List.getElem_mem hk2)
        simp only [bytes, List.getElem_map] at hx
        generalize l2[k]'hk2 = x at *
        have i2 : (k : Int) < (l2.length : Nat) := by omega
        go_wp2_with (first
          | (at_builtin; refine hAI _ rfl _ _ rfl w4.heap.size _ u9 L rfl ho ((x % 4 : Nat) : Int) rfl hL1 hws ?_; intro v5 w5 ho5 hb5))
        go_roundw
        case rel => exact ⟨k + 1, _, hkl, by go_num, by simp [HL.out], ho5, hbr.trans hb5⟩
        case measure => simp [intOf]; omega
      · go_wp2_with (first
          | (at_builtin; refine hAI _ rfl _ _ rfl w4.heap.size _ u9 L rfl ho 0 rfl hL1 hws ?_; intro v5 w5 ho5 hb5))
        go_roundw
        case rel => exact ⟨k + 1, _, hkl, by go_num, by simp [HL.out], ho5, hbr.trans hb5⟩
        case measure => simp [intOf]; omega
    · obtain rfl : k = of.length := by omega
      have HINT : Hid (IntsV wr u9 L) := Lib.hid ⟨ho.sl, ho.len, fun j hj => ho.cell j hj⟩
      clear ho HO
      have hL10 : L.length ≤ 128 := by rw [HL.out]; omega
      have hbw := below_then HB4.out hbr
      go_wp2_with (first
        | (go_at_call 10; (with_reducible refine (num_any _ L _ HINT.out hL10).mono ?_); rintro e6 w6 ⟨v6, M, rfl, ho6, hM, _, hb6⟩
           have hI6 : IntsV w6 v6 M := ⟨ho6.sl, ho6.len, fun j hj => ho6.cell j hj⟩
           have s6 := ho6.sl
           have l6 : slen v6 = of.length := by rw [hI6.len, hM, HL.out]
           have HM : Hid (M.length = of.length) := Lib.hid (by rw [hM, HL.out])
           have hb46 := below_then hbr hb6
           have HC6 := Lib.hid (HC4.out.belowS hb46)
           have HD6 := Lib.hid (HD4.out.below hb46)
           have HO6 := Lib.hid (HO4.out.below hb46)
           have HN6 := Lib.hid (HN4.out.below hb46)
           have HI6 := Lib.hid hI6
           have HB6 := Lib.hid (below_then HB4.out hb46)
           have s7 := CellsV.sl HO4.out
           have l7 : slen vc = of.length := HO4.out.len
           clear c0 c1 c2 ho6 hI6 hM))
      clear hb6 hb46 hbw hws hbr
      go_loopw [12] (fun u12 wr => ∃ (i : Nat), i ≤ of.length ∧ u12 = .int .i64 i ∧ Below w6.heap.size w6 wr) (fun u12 _ => of.length - (intOf u12).toNat)
      case atStart => exact ⟨0, Nat.zero_le _, rfl, Below.refl _ _⟩
      case round =>
        obtain ⟨i, hi, rfl, hbr⟩ := hrel
        by_cases hio : i < of.length
        · go_wp2_with fail
          go_loopw [13] (fun u13 wr => ∃ (j : Nat), j ≤ i ∧ u13 = .int .i64 j ∧ Below w6.heap.size w6 wr) (fun u13 _ => i - (intOf u13).toNat)
          case atStart => exact ⟨0, Nat.zero_le _, rfl, hbr⟩
          case round =>
            obtain ⟨j, hj, rfl, hbr2⟩ := hrel
            by_cases hji : j < i
            · have a1 := (HO6.out.below hbr2).at' i hio
              have a2 := (HO6.out.below hbr2).at' j (by omega)
              have hni : i < nx.length := by rw [HCL.out.len]; exact hio
              have hnj : j < nx.length := by rw [HCL.out.len]; omega
              have hmi : i < M.length := by rw [HM.out]; exact hio
              have hmj : j < M.length := by rw [HM.out]; omega
              have b1 := (HN6.out.below hbr2).at' i hni
              have b2 := (HN6.out.below hbr2).at' j hnj
              have m1 := (HI6.out.below hbr2).at' i hmi
              have m2 := (HI6.out.below hbr2).at' j hmj
              have HX1 : Hid (of[i] = of[j] → nx[i] = nx[j]) := Lib.hid (fun h => by
                have := HCL.out.cop i j (by rw [List.getElem?_eq_getElem hio, List.getElem?_eq_getElem (show j < of.length by omega), h])
                rw [List.getElem?_eq_getElem hni, List.getElem?_eq_getElem hnj] at this
                exact Option.some.inj this)
              have HX2 : Hid (M[i] = M[j] → ¬ nx[i] = nx[j] → ¬ checkP (copQ c of share).raw M) := Lib.hid (fun h h2 hck => by
                have := HCL.out.any M hck i j (by rw [List.getElem?_eq_getElem hmi, List.getElem?_eq_getElem hmj, h])
                rw [List.getElem?_eq_getElem hni, List.getElem?_eq_getElem hnj] at this
                exact h2 (Option.some.inj this))
              have i1 : (0 : Int) ≤ (i : Int) := by omega
              have i2 : (i : Int) < (of.length : Nat) := by omega
              have i3 : (0 : Int) ≤ (j : Int) := by omega
              have i4 : (j : Int) < (of.length : Nat) := by omega
              generalize of[i]'hio = x1 at *
              generalize of[j]'(by omega) = x2 at *
              generalize nx[i]'hni = y1 at *
              generalize nx[j]'hnj = y2 at *
              generalize M[i]'hmi = z1 at *
              generalize M[j]'hmj = z2 at *
              clear hni hnj hmi hmj
              by_cases hy : y1 = y2
              · have q1 : (y1 != y2) = false := by simp [hy]
                clear HX1 HX2
                by_cases hx : x1 = x2
                · have q2 : (x1 == x2) = true := by simp [hx]
                  clear hy hx
                  by_cases hz : z1 = z2
                  · have q3 : (z1 == z2) = true := by simp [hz]
                    clear hz
                    go_wp2_with fail
                    go_quiet (fail)
                    have hbN := below_then hbr2 (below_drewN (B := wr.heap.size) wr nq)
                    clear a1 a2 b1 b2 m1 m2
                    go_wp2_with fail
                    go_roundw
                    case rel => exact ⟨j + 1, by omega, by go_num, hbN⟩
                    case measure => simp [intOf]; omega
                  · have q3 : (z1 == z2) = false := by simpa using hz
                    clear hz
                    go_wp2_with fail
                    go_quiet (fail)
                    have hbN := below_then hbr2 (below_drewN (B := wr.heap.size) wr nq)
                    clear a1 a2 b1 b2 m1 m2
                    go_wp2_with fail
                    go_roundw
                    case rel => exact ⟨j + 1, by omega, by go_num, hbN⟩
                    case measure => simp [intOf]; omega
                · have q2 : (x1 == x2) = false := by simpa using hx
                  clear hy hx
                  by_cases hz : z1 = z2
                  · have q3 : (z1 == z2) = true := by simp [hz]
                    clear hz
                    go_wp2_with fail
                    go_quiet (fail)
                    have hbN := below_then hbr2 (below_drewN (B := wr.heap.size) wr nq)
                    clear a1 a2 b1 b2 m1 m2
                    go_wp2_with fail
                    go_roundw
                    case rel => exact ⟨j + 1, by omega, by go_num, hbN⟩
                    case measure => simp [intOf]; omega
                  · have q3 : (z1 == z2) = false := by simpa using hz
                    clear hz
                    go_wp2_with fail
                    go_quiet (fail)
                    have hbN := below_then hbr2 (below_drewN (B := wr.heap.size) wr nq)
                    clear a1 a2 b1 b2 m1 m2
                    go_wp2_with fail
                    go_roundw
                    case rel => exact ⟨j + 1, by omega, by go_num, hbN⟩
                    case measure => simp [intOf]; omega
              · have hx : ¬ x1 = x2 := fun h => hy (HX1.out h)
                by_cases hz : z1 = z2
                · have HNC := Lib.hid (HX2.out hz hy)
                  clear HX1 HX2
                  subst hz
                  obtain ⟨o1, rfl⟩ := ex_oth hy
                  obtain ⟨o2, rfl⟩ := ex_oth hx
                  clear hy hx
                  go_wp2_with fail
                  obtain ⟨_, c0, c1, c2, _, _, _⟩ := HC6.out.belowS hbr2
                  have hD := below_drew (B := wr.heap.size) wr
                  have a1 := cell_below hD a1
                  have a2 := cell_below hD a2
                  have b1 := cell_below hD b1
                  have b2 := cell_below hD b2
                  have m1 := cell_below hD m1
                  have m2 := cell_below hD m2
                  have c0 := cell_below hD c0
                  have c1 := cell_below hD c1
                  have c2 := cell_below hD c2
                  have hbD := below_then hbr2 hD
                  refine wp_region_held_drew (S := fun w' => w'.cell? (ptr vc i) = some (.int .i64 (oth x2 o2)) ∧ w'.cell? (ptr vc j) = some (.int .i64 x2) ∧ w'.cell? (ptr v3 i) = some (.int .i64 (oth y2 o1)) ∧ w'.cell? (ptr v3 j) = some (.int .i64 y2) ∧ w'.cell? (ptr v6 i) = some (.int .i64 z1) ∧ w'.cell? (ptr v6 j) = some (.int .i64 z1) ∧ w'.cell? ⟨S2, 0, none⟩ = some (.slice ard nrd krd) ∧ w'.cell? ⟨S2, 1, none⟩ = some (.slice asd of.length ksd) ∧ w'.cell? ⟨S2, 2, none⟩ = some (.slice ald nld kld)) (by kernel_rfl) ⟨a1, a2, b1, b2, m1, m2, c0, c1, c2⟩ (fun hHeld => ?_)
                  (refine take_it 0 (by kernel_rfl) (by kernel_rfl) (by kernel_rfl) (by assumption) (by kernel_rfl) ?_; intro oi hoi; simp only [List.getElem?_toArray, List.getElem?_cons_succ, List.getElem?_cons_zero, Option.some.injEq] at hoi; subst hoi)
                  first
                    | (refine ⟨undef, fun _ _ _ h => h, Or.inr ⟨by rfl, rfl⟩, ?_⟩; simp only [Act.put, List.setIfInBounds_toArray, List.set_cons_zero, List.set_cons_succ])
                    | (refine ⟨?_, fun _ _ _ h => h, Or.inl ⟨by rfl, ?_⟩, ?_⟩; rotate_left; focus (intro w hSw; (try dsimp only at hSw); go_simp; try with_reducible rfl)
                       simp only [Act.put, List.setIfInBounds_toArray, List.set_cons_zero, List.set_cons_succ])
                    | fail "op 0"
                  (refine take_it 1 (by kernel_rfl) (by kernel_rfl) (by kernel_rfl) (by assumption) (by kernel_rfl) ?_; intro oi hoi; simp only [List.getElem?_toArray, List.getElem?_cons_succ, List.getElem?_cons_zero, Option.some.injEq] at hoi; subst hoi)
                  first
                    | (refine ⟨undef, fun _ _ _ h => h, Or.inr ⟨by rfl, rfl⟩, ?_⟩; simp only [Act.put, List.setIfInBounds_toArray, List.set_cons_zero, List.set_cons_succ])
                    | (refine ⟨?_, fun _ _ _ h => h, Or.inl ⟨by rfl, ?_⟩, ?_⟩; rotate_left; focus (intro w hSw; (try dsimp only at hSw); go_simp; try with_reducible rfl)
                       simp only [Act.put, List.setIfInBounds_toArray, List.set_cons_zero, List.set_cons_succ])
                    | fail "op 1"
                  (refine take_it 2 (by kernel_rfl) (by kernel_rfl) (by kernel_rfl) (by assumption) (by kernel_rfl) ?_; intro oi hoi; simp only [List.getElem?_toArray, List.getElem?_cons_succ, List.getElem?_cons_zero, Option.some.injEq] at hoi; subst hoi)
                  first
                    | (refine ⟨undef, fun _ _ _ h => h, Or.inr ⟨by rfl, rfl⟩, ?_⟩; simp only [Act.put, List.setIfInBounds_toArray, List.set_cons_zero, List.set_cons_succ])
                    | (refine ⟨?_, fun _ _ _ h => h, Or.inl ⟨by rfl, ?_⟩, ?_⟩; rotate_left; focus (intro w hSw; (try dsimp only at hSw); go_simp; try with_reducible rfl)
                       simp only [Act.put, List.setIfInBounds_toArray, List.set_cons_zero, List.set_cons_succ])
                    | fail "op 2"
                  (refine take_it 3 (by kernel_rfl) (by kernel_rfl) (by kernel_rfl) (by assumption) (by kernel_rfl) ?_; intro oi hoi; simp only [List.getElem?_toArray, List.getElem?_cons_succ, List.getElem?_cons_zero, Option.some.injEq] at hoi; subst hoi)
                  first
                    | (refine ⟨undef, fun _ _ _ h => h, Or.inr ⟨by rfl, rfl⟩, ?_⟩; simp only [Act.put, List.setIfInBounds_toArray, List.set_cons_zero, List.set_cons_succ])
                    | (refine ⟨?_, fun _ _ _ h => h, Or.inl ⟨by rfl, ?_⟩, ?_⟩; rotate_left; focus (intro w hSw; (try dsimp only at hSw); go_simp; try with_reducible rfl)
                       simp only [Act.put, List.setIfInBounds_toArray, List.set_cons_zero, List.set_cons_succ])
                    | fail "op 3"
                  (refine take_it 4 (by kernel_rfl) (by kernel_rfl) (by kernel_rfl) (by assumption) (by kernel_rfl) ?_; intro oi hoi; simp only [List.getElem?_toArray, List.getElem?_cons_succ, List.getElem?_cons_zero, Option.some.injEq] at hoi; subst hoi)
                  first
                    | (refine ⟨undef, fun _ _ _ h => h, Or.inr ⟨by rfl, rfl⟩, ?_⟩; simp only [Act.put, List.setIfInBounds_toArray, List.set_cons_zero, List.set_cons_succ])
                    | (refine ⟨?_, fun _ _ _ h => h, Or.inl ⟨by rfl, ?_⟩, ?_⟩; rotate_left; focus (intro w hSw; (try dsimp only at hSw); go_simp; try with_reducible rfl)
                       simp only [Act.put, List.setIfInBounds_toArray, List.set_cons_zero, List.set_cons_succ])
                    | fail "op 4"
                  (refine take_it 5 (by kernel_rfl) (by kernel_rfl) (by kernel_rfl) (by assumption) (by kernel_rfl) ?_; intro oi hoi; simp only [List.getElem?_toArray, List.getElem?_cons_succ, List.getElem?_cons_zero, Option.some.injEq] at hoi; subst hoi)
                  first
                    | (refine ⟨undef, fun _ _ _ h => h, Or.inr ⟨by rfl, rfl⟩, ?_⟩; simp only [Act.put, List.setIfInBounds_toArray, List.set_cons_zero, List.set_cons_succ])
                    | (refine ⟨?_, fun _ _ _ h => h, Or.inl ⟨by rfl, ?_⟩, ?_⟩; rotate_left; focus (intro w hSw; (try dsimp only at hSw); go_simp; try with_reducible rfl)
                       simp only [Act.put, List.setIfInBounds_toArray, List.set_cons_zero, List.set_cons_succ])
                    | fail "op 5"
                  (refine take_it 6 (by kernel_rfl) (by kernel_rfl) (by kernel_rfl) (by assumption) (by kernel_rfl) ?_; intro oi hoi; simp only [List.getElem?_toArray, List.getElem?_cons_succ, List.getElem?_cons_zero, Option.some.injEq] at hoi; subst hoi)
                  first
                    | (refine ⟨undef, fun _ _ _ h => h, Or.inr ⟨by rfl, rfl⟩, ?_⟩; simp only [Act.put, List.setIfInBounds_toArray, List.set_cons_zero, List.set_cons_succ])
                    | (refine ⟨?_, fun _ _ _ h => h, Or.inl ⟨by rfl, ?_⟩, ?_⟩; rotate_left; focus (intro w hSw; (try dsimp only at hSw); go_simp; try with_reducible rfl)
                       simp only [Act.put, List.setIfInBounds_toArray, List.set_cons_zero, List.set_cons_succ])
                    | fail "op 6"
                  (refine take_it 7 (by kernel_rfl) (by kernel_rfl) (by kernel_rfl) (by assumption) (by kernel_rfl) ?_; intro oi hoi; simp only [List.getElem?_toArray, List.getElem?_cons_succ, List.getElem?_cons_zero, Option.some.injEq] at hoi; subst hoi)
                  first
                    | (refine ⟨undef, fun _ _ _ h => h, Or.inr ⟨by rfl, rfl⟩, ?_⟩; simp only [Act.put, List.setIfInBounds_toArray, List.set_cons_zero, List.set_cons_succ])
                    | (refine ⟨?_, fun _ _ _ h => h, Or.inl ⟨by rfl, ?_⟩, ?_⟩; rotate_left; focus (intro w hSw; (try dsimp only at hSw); go_simp; try with_reducible rfl)
                       simp only [Act.put, List.setIfInBounds_toArray, List.set_cons_zero, List.set_cons_succ])
                    | fail "op 7"
                  (refine take_it 8 (by kernel_rfl) (by kernel_rfl) (by kernel_rfl) (by assumption) (by kernel_rfl) ?_; intro oi hoi; simp only [List.getElem?_toArray, List.getElem?_cons_succ, List.getElem?_cons_zero, Option.some.injEq] at hoi; subst hoi)
                  first
                    | (refine ⟨undef, fun _ _ _ h => h, Or.inr ⟨by rfl, rfl⟩, ?_⟩; simp only [Act.put, List.setIfInBounds_toArray, List.set_cons_zero, List.set_cons_succ])
                    | (refine ⟨?_, fun _ _ _ h => h, Or.inl ⟨by rfl, ?_⟩, ?_⟩; rotate_left; focus (intro w hSw; (try dsimp only at hSw); go_simp; try with_reducible rfl)
                       simp only [Act.put, List.setIfInBounds_toArray, List.set_cons_zero, List.set_cons_succ])
                    | fail "op 8"
                  (refine take_it 9 (by kernel_rfl) (by kernel_rfl) (by kernel_rfl) (by assumption) (by kernel_rfl) ?_; intro oi hoi; simp only [List.getElem?_toArray, List.getElem?_cons_succ, List.getElem?_cons_zero, Option.some.injEq] at hoi; subst hoi)
                  first
                    | (refine ⟨undef, fun _ _ _ h => h, Or.inr ⟨by rfl, rfl⟩, ?_⟩; simp only [Act.put, List.setIfInBounds_toArray, List.set_cons_zero, List.set_cons_succ])
                    | (refine ⟨?_, fun _ _ _ h => h, Or.inl ⟨by rfl, ?_⟩, ?_⟩; rotate_left; focus (intro w hSw; (try dsimp only at hSw); go_simp; try with_reducible rfl)
                       simp only [Act.put, List.setIfInBounds_toArray, List.set_cons_zero, List.set_cons_succ])
                    | fail "op 9"
                  (refine take_it 10 (by kernel_rfl) (by kernel_rfl) (by kernel_rfl) (by assumption) (by kernel_rfl) ?_; intro oi hoi; simp only [List.getElem?_toArray, List.getElem?_cons_succ, List.getElem?_cons_zero, Option.some.injEq] at hoi; subst hoi)
                  first
                    | (refine ⟨undef, fun _ _ _ h => h, Or.inr ⟨by rfl, rfl⟩, ?_⟩; simp only [Act.put, List.setIfInBounds_toArray, List.set_cons_zero, List.set_cons_succ])
                    | (refine ⟨?_, fun _ _ _ h => h, Or.inl ⟨by rfl, ?_⟩, ?_⟩; rotate_left; focus (intro w hSw; (try dsimp only at hSw); go_simp; try with_reducible rfl)
                       simp only [Act.put, List.setIfInBounds_toArray, List.set_cons_zero, List.set_cons_succ])
                    | fail "op 10"
                  (refine take_it 11 (by kernel_rfl) (by kernel_rfl) (by kernel_rfl) (by assumption) (by kernel_rfl) ?_; intro oi hoi; simp only [List.getElem?_toArray, List.getElem?_cons_succ, List.getElem?_cons_zero, Option.some.injEq] at hoi; subst hoi)
                  first
                    | (refine ⟨undef, fun _ _ _ h => h, Or.inr ⟨by rfl, rfl⟩, ?_⟩; simp only [Act.put, List.setIfInBounds_toArray, List.set_cons_zero, List.set_cons_succ])
                    | (refine ⟨?_, fun _ _ _ h => h, Or.inl ⟨by rfl, ?_⟩, ?_⟩; rotate_left; focus (intro w hSw; (try dsimp only at hSw); go_simp; try with_reducible rfl)
                       simp only [Act.put, List.setIfInBounds_toArray, List.set_cons_zero, List.set_cons_succ])
                    | fail "op 11"
                  (refine take_it 12 (by kernel_rfl) (by kernel_rfl) (by kernel_rfl) (by assumption) (by kernel_rfl) ?_; intro oi hoi; simp only [List.getElem?_toArray, List.getElem?_cons_succ, List.getElem?_cons_zero, Option.some.injEq] at hoi; subst hoi)
                  first
                    | (refine ⟨undef, fun _ _ _ h => h, Or.inr ⟨by rfl, rfl⟩, ?_⟩; simp only [Act.put, List.setIfInBounds_toArray, List.set_cons_zero, List.set_cons_succ])
                    | (refine ⟨?_, fun _ _ _ h => h, Or.inl ⟨by rfl, ?_⟩, ?_⟩; rotate_left; focus (intro w hSw; (try dsimp only at hSw); go_simp; try with_reducible rfl)
                       simp only [Act.put, List.setIfInBounds_toArray, List.set_cons_zero, List.set_cons_succ])
                    | fail "op 12"
                  (refine take_it 13 (by kernel_rfl) (by kernel_rfl) (by kernel_rfl) (by assumption) (by kernel_rfl) ?_; intro oi hoi; simp only [List.getElem?_toArray, List.getElem?_cons_succ, List.getElem?_cons_zero, Option.some.injEq] at hoi; subst hoi)
                  first
                    | (refine ⟨undef, fun _ _ _ h => h, Or.inr ⟨by rfl, rfl⟩, ?_⟩; simp only [Act.put, List.setIfInBounds_toArray, List.set_cons_zero, List.set_cons_succ])
                    | (refine ⟨?_, fun _ _ _ h => h, Or.inl ⟨by rfl, ?_⟩, ?_⟩; rotate_left; focus (intro w hSw; (try dsimp only at hSw); go_simp; try with_reducible rfl)
                       simp only [Act.put, List.setIfInBounds_toArray, List.set_cons_zero, List.set_cons_succ])
                    | fail "op 13"
                  (refine take_it 14 (by kernel_rfl) (by kernel_rfl) (by kernel_rfl) (by assumption) (by kernel_rfl) ?_; intro oi hoi; simp only [List.getElem?_toArray, List.getElem?_cons_succ, List.getElem?_cons_zero, Option.some.injEq] at hoi; subst hoi)
                  first
                    | (refine ⟨undef, fun _ _ _ h => h, Or.inr ⟨by rfl, rfl⟩, ?_⟩; simp only [Act.put, List.setIfInBounds_toArray, List.set_cons_zero, List.set_cons_succ])
                    | (refine ⟨?_, fun _ _ _ h => h, Or.inl ⟨by rfl, ?_⟩, ?_⟩; rotate_left; focus (intro w hSw; (try dsimp only at hSw); go_simp; try with_reducible rfl)
                       simp only [Act.put, List.setIfInBounds_toArray, List.set_cons_zero, List.set_cons_succ])
                    | fail "op 14"
                  (refine take_it 15 (by kernel_rfl) (by kernel_rfl) (by kernel_rfl) (by assumption) (by kernel_rfl) ?_; intro oi hoi; simp only [List.getElem?_toArray, List.getElem?_cons_succ, List.getElem?_cons_zero, Option.some.injEq] at hoi; subst hoi)
                  first
                    | (refine ⟨undef, fun _ _ _ h => h, Or.inr ⟨by rfl, rfl⟩, ?_⟩; simp only [Act.put, List.setIfInBounds_toArray, List.set_cons_zero, List.set_cons_succ])
                    | (refine ⟨?_, fun _ _ _ h => h, Or.inl ⟨by rfl, ?_⟩, ?_⟩; rotate_left; focus (intro w hSw; (try dsimp only at hSw); go_simp; try with_reducible rfl)
                       simp only [Act.put, List.setIfInBounds_toArray, List.set_cons_zero, List.set_cons_succ])
                    | fail "op 15"
                  (refine take_it 16 (by kernel_rfl) (by kernel_rfl) (by kernel_rfl) (by assumption) (by kernel_rfl) ?_; intro oi hoi; simp only [List.getElem?_toArray, List.getElem?_cons_succ, List.getElem?_cons_zero, Option.some.injEq] at hoi; subst hoi)
                  first
                    | (refine ⟨undef, fun _ _ _ h => h, Or.inr ⟨by rfl, rfl⟩, ?_⟩; simp only [Act.put, List.setIfInBounds_toArray, List.set_cons_zero, List.set_cons_succ])
                    | (refine ⟨?_, fun _ _ _ h => h, Or.inl ⟨by rfl, ?_⟩, ?_⟩; rotate_left; focus (intro w hSw; (try dsimp only at hSw); go_simp; try with_reducible rfl)
                       simp only [Act.put, List.setIfInBounds_toArray, List.set_cons_zero, List.set_cons_succ])
                    | fail "op 16"
                  (refine take_it 17 (by kernel_rfl) (by kernel_rfl) (by kernel_rfl) (by assumption) (by kernel_rfl) ?_; intro oi hoi; simp only [List.getElem?_toArray, List.getElem?_cons_succ, List.getElem?_cons_zero, Option.some.injEq] at hoi; subst hoi)
                  first
                    | (refine ⟨undef, fun _ _ _ h => h, Or.inr ⟨by rfl, rfl⟩, ?_⟩; simp only [Act.put, List.setIfInBounds_toArray, List.set_cons_zero, List.set_cons_succ])
                    | (refine ⟨?_, fun _ _ _ h => h, Or.inl ⟨by rfl, ?_⟩, ?_⟩; rotate_left; focus (intro w hSw; (try dsimp only at hSw); go_simp; try with_reducible rfl)
                       simp only [Act.put, List.setIfInBounds_toArray, List.set_cons_zero, List.set_cons_succ])
                    | fail "op 17"
                  (refine take_it 18 (by kernel_rfl) (by kernel_rfl) (by kernel_rfl) (by assumption) (by kernel_rfl) ?_; intro oi hoi; simp only [List.getElem?_toArray, List.getElem?_cons_succ, List.getElem?_cons_zero, Option.some.injEq] at hoi; subst hoi)
                  first
                    | (refine ⟨undef, fun _ _ _ h => h, Or.inr ⟨by rfl, rfl⟩, ?_⟩; simp only [Act.put, List.setIfInBounds_toArray, List.set_cons_zero, List.set_cons_succ])
                    | (refine ⟨?_, fun _ _ _ h => h, Or.inl ⟨by rfl, ?_⟩, ?_⟩; rotate_left; focus (intro w hSw; (try dsimp only at hSw); go_simp; try with_reducible rfl)
                       simp only [Act.put, List.setIfInBounds_toArray, List.set_cons_zero, List.set_cons_succ])
                    | fail "op 18"
                  (refine take_it 19 (by kernel_rfl) (by kernel_rfl) (by kernel_rfl) (by assumption) (by kernel_rfl) ?_; intro oi hoi; simp only [List.getElem?_toArray, List.getElem?_cons_succ, List.getElem?_cons_zero, Option.some.injEq] at hoi; subst hoi)
                  first
                    | (refine ⟨undef, fun _ _ _ h => h, Or.inr ⟨by rfl, rfl⟩, ?_⟩; simp only [Act.put, List.setIfInBounds_toArray, List.set_cons_zero, List.set_cons_succ])
                    | (refine ⟨?_, fun _ _ _ h => h, Or.inl ⟨by rfl, ?_⟩, ?_⟩; rotate_left; focus (intro w hSw; (try dsimp only at hSw); go_simp; try with_reducible rfl)
                       simp only [Act.put, List.setIfInBounds_toArray, List.set_cons_zero, List.set_cons_succ])
                    | fail "op 19"
                  (refine take_it 20 (by kernel_rfl) (by kernel_rfl) (by kernel_rfl) (by assumption) (by kernel_rfl) ?_; intro oi hoi; simp only [List.getElem?_toArray, List.getElem?_cons_succ, List.getElem?_cons_zero, Option.some.injEq] at hoi; subst hoi)
                  first
                    | (refine ⟨undef, fun _ _ _ h => h, Or.inr ⟨by rfl, rfl⟩, ?_⟩; simp only [Act.put, List.setIfInBounds_toArray, List.set_cons_zero, List.set_cons_succ])
                    | (refine ⟨?_, fun _ _ _ h => h, Or.inl ⟨by rfl, ?_⟩, ?_⟩; rotate_left; focus (intro w hSw; (try dsimp only at hSw); go_simp; try with_reducible rfl)
                       simp only [Act.put, List.setIfInBounds_toArray, List.set_cons_zero, List.set_cons_succ])
                    | fail "op 20"
                  (refine take_it 21 (by kernel_rfl) (by kernel_rfl) (by kernel_rfl) (by assumption) (by kernel_rfl) ?_; intro oi hoi; simp only [List.getElem?_toArray, List.getElem?_cons_succ, List.getElem?_cons_zero, Option.some.injEq] at hoi; subst hoi)
                  first
                    | (refine ⟨undef, fun _ _ _ h => h, Or.inr ⟨by rfl, rfl⟩, ?_⟩; simp only [Act.put, List.setIfInBounds_toArray, List.set_cons_zero, List.set_cons_succ])
                    | (refine ⟨?_, fun _ _ _ h => h, Or.inl ⟨by rfl, ?_⟩, ?_⟩; rotate_left; focus (intro w hSw; (try dsimp only at hSw); go_simp; try with_reducible rfl)
                       simp only [Act.put, List.setIfInBounds_toArray, List.set_cons_zero, List.set_cons_succ])
                    | fail "op 21"
                  (refine take_it 22 (by kernel_rfl) (by kernel_rfl) (by kernel_rfl) (by assumption) (by kernel_rfl) ?_; intro oi hoi; simp only [List.getElem?_toArray, List.getElem?_cons_succ, List.getElem?_cons_zero, Option.some.injEq] at hoi; subst hoi)
                  first
                    | (refine ⟨undef, fun _ _ _ h => h, Or.inr ⟨by rfl, rfl⟩, ?_⟩; simp only [Act.put, List.setIfInBounds_toArray, List.set_cons_zero, List.set_cons_succ])
                    | (refine ⟨?_, fun _ _ _ h => h, Or.inl ⟨by rfl, ?_⟩, ?_⟩; rotate_left; focus (intro w hSw; (try dsimp only at hSw); go_simp; try with_reducible rfl)
                       simp only [Act.put, List.setIfInBounds_toArray, List.set_cons_zero, List.set_cons_succ])
                    | fail "op 22"
                  (refine take_it 23 (by kernel_rfl) (by kernel_rfl) (by kernel_rfl) (by assumption) (by kernel_rfl) ?_; intro oi hoi; simp only [List.getElem?_toArray, List.getElem?_cons_succ, List.getElem?_cons_zero, Option.some.injEq] at hoi; subst hoi)
                  first
                    | (refine ⟨undef, fun _ _ _ h => h, Or.inr ⟨by rfl, rfl⟩, ?_⟩; simp only [Act.put, List.setIfInBounds_toArray, List.set_cons_zero, List.set_cons_succ])
                    | (refine ⟨?_, fun _ _ _ h => h, Or.inl ⟨by rfl, ?_⟩, ?_⟩; rotate_left; focus (intro w hSw; (try dsimp only at hSw); go_simp; try with_reducible rfl)
                       simp only [Act.put, List.setIfInBounds_toArray, List.set_cons_zero, List.set_cons_succ])
                    | fail "op 23"
                  (refine take_it 24 (by kernel_rfl) (by kernel_rfl) (by kernel_rfl) (by assumption) (by kernel_rfl) ?_; intro oi hoi; simp only [List.getElem?_toArray, List.getElem?_cons_succ, List.getElem?_cons_zero, Option.some.injEq] at hoi; subst hoi)
                  first
                    | (refine ⟨undef, fun _ _ _ h => h, Or.inr ⟨by rfl, rfl⟩, ?_⟩; simp only [Act.put, List.setIfInBounds_toArray, List.set_cons_zero, List.set_cons_succ])
                    | (refine ⟨?_, fun _ _ _ h => h, Or.inl ⟨by rfl, ?_⟩, ?_⟩; rotate_left; focus (intro w hSw; (try dsimp only at hSw); go_simp; try with_reducible rfl)
                       simp only [Act.put, List.setIfInBounds_toArray, List.set_cons_zero, List.set_cons_succ])
                    | fail "op 24"
                  (refine take_it 25 (by kernel_rfl) (by kernel_rfl) (by kernel_rfl) (by assumption) (by kernel_rfl) ?_; intro oi hoi; simp only [List.getElem?_toArray, List.getElem?_cons_succ, List.getElem?_cons_zero, Option.some.injEq] at hoi; subst hoi)
                  first
                    | (refine ⟨undef, fun _ _ _ h => h, Or.inr ⟨by rfl, rfl⟩, ?_⟩; simp only [Act.put, List.setIfInBounds_toArray, List.set_cons_zero, List.set_cons_succ])
                    | (refine ⟨?_, fun _ _ _ h => h, Or.inl ⟨by rfl, ?_⟩, ?_⟩; rotate_left; focus (intro w hSw; (try dsimp only at hSw); go_simp; try with_reducible rfl)
                       simp only [Act.put, List.setIfInBounds_toArray, List.set_cons_zero, List.set_cons_succ])
                    | fail "op 25"
                  (refine take_it 26 (by kernel_rfl) (by kernel_rfl) (by kernel_rfl) (by assumption) (by kernel_rfl) ?_; intro oi hoi; simp only [List.getElem?_toArray, List.getElem?_cons_succ, List.getElem?_cons_zero, Option.some.injEq] at hoi; subst hoi)
                  first
                    | (refine ⟨undef, fun _ _ _ h => h, Or.inr ⟨by rfl, rfl⟩, ?_⟩; simp only [Act.put, List.setIfInBounds_toArray, List.set_cons_zero, List.set_cons_succ])
                    | (refine ⟨?_, fun _ _ _ h => h, Or.inl ⟨by rfl, ?_⟩, ?_⟩; rotate_left; focus (intro w hSw; (try dsimp only at hSw); go_simp; try with_reducible rfl)
                       simp only [Act.put, List.setIfInBounds_toArray, List.set_cons_zero, List.set_cons_succ])
                    | fail "op 26"
                  (refine take_it 27 (by kernel_rfl) (by kernel_rfl) (by kernel_rfl) (by assumption) (by kernel_rfl) ?_; intro oi hoi; simp only [List.getElem?_toArray, List.getElem?_cons_succ, List.getElem?_cons_zero, Option.some.injEq] at hoi; subst hoi)
                  first
                    | (refine ⟨undef, fun _ _ _ h => h, Or.inr ⟨by rfl, rfl⟩, ?_⟩; simp only [Act.put, List.setIfInBounds_toArray, List.set_cons_zero, List.set_cons_succ])
                    | (refine ⟨?_, fun _ _ _ h => h, Or.inl ⟨by rfl, ?_⟩, ?_⟩; rotate_left; focus (intro w hSw; (try dsimp only at hSw); go_simp; try with_reducible rfl)
                       simp only [Act.put, List.setIfInBounds_toArray, List.set_cons_zero, List.set_cons_succ])
                    | fail "op 27"
                  (refine take_it 28 (by kernel_rfl) (by kernel_rfl) (by kernel_rfl) (by assumption) (by kernel_rfl) ?_; intro oi hoi; simp only [List.getElem?_toArray, List.getElem?_cons_succ, List.getElem?_cons_zero, Option.some.injEq] at hoi; subst hoi)
                  first
                    | (refine ⟨undef, fun _ _ _ h => h, Or.inr ⟨by rfl, rfl⟩, ?_⟩; simp only [Act.put, List.setIfInBounds_toArray, List.set_cons_zero, List.set_cons_succ])
                    | (refine ⟨?_, fun _ _ _ h => h, Or.inl ⟨by rfl, ?_⟩, ?_⟩; rotate_left; focus (intro w hSw; (try dsimp only at hSw); go_simp; try with_reducible rfl)
                       simp only [Act.put, List.setIfInBounds_toArray, List.set_cons_zero, List.set_cons_succ])
                    | fail "op 28"
                  (refine take_it 29 (by kernel_rfl) (by kernel_rfl) (by kernel_rfl) (by assumption) (by kernel_rfl) ?_; intro oi hoi; simp only [List.getElem?_toArray, List.getElem?_cons_succ, List.getElem?_cons_zero, Option.some.injEq] at hoi; subst hoi)
                  first
                    | (refine ⟨undef, fun _ _ _ h => h, Or.inr ⟨by rfl, rfl⟩, ?_⟩; simp only [Act.put, List.setIfInBounds_toArray, List.set_cons_zero, List.set_cons_succ])
                    | (refine ⟨?_, fun _ _ _ h => h, Or.inl ⟨by rfl, ?_⟩, ?_⟩; rotate_left; focus (intro w hSw; (try dsimp only at hSw); go_simp; try with_reducible rfl)
                       simp only [Act.put, List.setIfInBounds_toArray, List.set_cons_zero, List.set_cons_succ])
                    | fail "op 29"
                  (refine take_it 30 (by kernel_rfl) (by kernel_rfl) (by kernel_rfl) (by assumption) (by kernel_rfl) ?_; intro oi hoi; simp only [List.getElem?_toArray, List.getElem?_cons_succ, List.getElem?_cons_zero, Option.some.injEq] at hoi; subst hoi)
                  first
                    | (refine ⟨undef, fun _ _ _ h => h, Or.inr ⟨by rfl, rfl⟩, ?_⟩; simp only [Act.put, List.setIfInBounds_toArray, List.set_cons_zero, List.set_cons_succ])
                    | (refine ⟨?_, fun _ _ _ h => h, Or.inl ⟨by rfl, ?_⟩, ?_⟩; rotate_left; focus (intro w hSw; (try dsimp only at hSw); go_simp; try with_reducible rfl)
                       simp only [Act.put, List.setIfInBounds_toArray, List.set_cons_zero, List.set_cons_succ])
                    | fail "op 30"
                  (refine take_it 31 (by kernel_rfl) (by kernel_rfl) (by kernel_rfl) (by assumption) (by kernel_rfl) ?_; intro oi hoi; simp only [List.getElem?_toArray, List.getElem?_cons_succ, List.getElem?_cons_zero, Option.some.injEq] at hoi; subst hoi)
                  first
                    | (refine ⟨undef, fun _ _ _ h => h, Or.inr ⟨by rfl, rfl⟩, ?_⟩; simp only [Act.put, List.setIfInBounds_toArray, List.set_cons_zero, List.set_cons_succ])
                    | (refine ⟨?_, fun _ _ _ h => h, Or.inl ⟨by rfl, ?_⟩, ?_⟩; rotate_left; focus (intro w hSw; (try dsimp only at hSw); go_simp; try with_reducible rfl)
                       simp only [Act.put, List.setIfInBounds_toArray, List.set_cons_zero, List.set_cons_succ])
                    | fail "op 31"
                  (refine take_it 32 (by kernel_rfl) (by kernel_rfl) (by kernel_rfl) (by assumption) (by kernel_rfl) ?_; intro oi hoi; simp only [List.getElem?_toArray, List.getElem?_cons_succ, List.getElem?_cons_zero, Option.some.injEq] at hoi; subst hoi)
                  first
                    | (refine ⟨undef, fun _ _ _ h => h, Or.inr ⟨by rfl, rfl⟩, ?_⟩; simp only [Act.put, List.setIfInBounds_toArray, List.set_cons_zero, List.set_cons_succ])
                    | (refine ⟨?_, fun _ _ _ h => h, Or.inl ⟨by rfl, ?_⟩, ?_⟩; rotate_left; focus (intro w hSw; (try dsimp only at hSw); go_simp; try with_reducible rfl)
                       simp only [Act.put, List.setIfInBounds_toArray, List.set_cons_zero, List.set_cons_succ])
                    | fail "op 32"
                  (refine take_it 33 (by kernel_rfl) (by kernel_rfl) (by kernel_rfl) (by assumption) (by kernel_rfl) ?_; intro oi hoi; simp only [List.getElem?_toArray, List.getElem?_cons_succ, List.getElem?_cons_zero, Option.some.injEq] at hoi; subst hoi)
                  first
                    | (refine ⟨undef, fun _ _ _ h => h, Or.inr ⟨by rfl, rfl⟩, ?_⟩; simp only [Act.put, List.setIfInBounds_toArray, List.set_cons_zero, List.set_cons_succ])
                    | (refine ⟨?_, fun _ _ _ h => h, Or.inl ⟨by rfl, ?_⟩, ?_⟩; rotate_left; focus (intro w hSw; (try dsimp only at hSw); go_simp; try with_reducible rfl)
                       simp only [Act.put, List.setIfInBounds_toArray, List.set_cons_zero, List.set_cons_succ])
                    | fail "op 33"
                  (refine take_it 34 (by kernel_rfl) (by kernel_rfl) (by kernel_rfl) (by assumption) (by kernel_rfl) ?_; intro oi hoi; simp only [List.getElem?_toArray, List.getElem?_cons_succ, List.getElem?_cons_zero, Option.some.injEq] at hoi; subst hoi)
                  first
                    | (refine ⟨undef, fun _ _ _ h => h, Or.inr ⟨by rfl, rfl⟩, ?_⟩; simp only [Act.put, List.setIfInBounds_toArray, List.set_cons_zero, List.set_cons_succ])
                    | (refine ⟨?_, fun _ _ _ h => h, Or.inl ⟨by rfl, ?_⟩, ?_⟩; rotate_left; focus (intro w hSw; (try dsimp only at hSw); go_simp; try with_reducible rfl)
                       simp only [Act.put, List.setIfInBounds_toArray, List.set_cons_zero, List.set_cons_succ])
                    | fail "op 34"
                  (refine take_it 35 (by kernel_rfl) (by kernel_rfl) (by kernel_rfl) (by assumption) (by kernel_rfl) ?_; intro oi hoi; simp only [List.getElem?_toArray, List.getElem?_cons_succ, List.getElem?_cons_zero, Option.some.injEq] at hoi; subst hoi)
                  first
                    | (refine ⟨undef, fun _ _ _ h => h, Or.inr ⟨by rfl, rfl⟩, ?_⟩; simp only [Act.put, List.setIfInBounds_toArray, List.set_cons_zero, List.set_cons_succ])
                    | (refine ⟨?_, fun _ _ _ h => h, Or.inl ⟨by rfl, ?_⟩, ?_⟩; rotate_left; focus (intro w hSw; (try dsimp only at hSw); go_simp; try with_reducible rfl)
                       simp only [Act.put, List.setIfInBounds_toArray, List.set_cons_zero, List.set_cons_succ])
                    | fail "op 35"
                  (refine take_it 36 (by kernel_rfl) (by kernel_rfl) (by kernel_rfl) (by assumption) (by kernel_rfl) ?_; intro oi hoi; simp only [List.getElem?_toArray, List.getElem?_cons_succ, List.getElem?_cons_zero, Option.some.injEq] at hoi; subst hoi)
                  first
                    | (refine ⟨undef, fun _ _ _ h => h, Or.inr ⟨by rfl, rfl⟩, ?_⟩; simp only [Act.put, List.setIfInBounds_toArray, List.set_cons_zero, List.set_cons_succ])
                    | (refine ⟨?_, fun _ _ _ h => h, Or.inl ⟨by rfl, ?_⟩, ?_⟩; rotate_left; focus (intro w hSw; (try dsimp only at hSw); go_simp; try with_reducible rfl)
                       simp only [Act.put, List.setIfInBounds_toArray, List.set_cons_zero, List.set_cons_succ])
                    | fail "op 36"
                  (refine take_it 37 (by kernel_rfl) (by kernel_rfl) (by kernel_rfl) (by assumption) (by kernel_rfl) ?_; intro oi hoi; simp only [List.getElem?_toArray, List.getElem?_cons_succ, List.getElem?_cons_zero, Option.some.injEq] at hoi; subst hoi)
                  first
                    | (refine ⟨undef, fun _ _ _ h => h, Or.inr ⟨by rfl, rfl⟩, ?_⟩; simp only [Act.put, List.setIfInBounds_toArray, List.set_cons_zero, List.set_cons_succ])
                    | (refine ⟨?_, fun _ _ _ h => h, Or.inl ⟨by rfl, ?_⟩, ?_⟩; rotate_left; focus (intro w hSw; (try dsimp only at hSw); go_simp; try with_reducible rfl)
                       simp only [Act.put, List.setIfInBounds_toArray, List.set_cons_zero, List.set_cons_succ])
                    | fail "op 37"
                  (refine take_it 38 (by kernel_rfl) (by kernel_rfl) (by kernel_rfl) (by assumption) (by kernel_rfl) ?_; intro oi hoi; simp only [List.getElem?_toArray, List.getElem?_cons_succ, List.getElem?_cons_zero, Option.some.injEq] at hoi; subst hoi)
                  first
                    | (refine ⟨undef, fun _ _ _ h => h, Or.inr ⟨by rfl, rfl⟩, ?_⟩; simp only [Act.put, List.setIfInBounds_toArray, List.set_cons_zero, List.set_cons_succ])
                    | (refine ⟨?_, fun _ _ _ h => h, Or.inl ⟨by rfl, ?_⟩, ?_⟩; rotate_left; focus (intro w hSw; (try dsimp only at hSw); go_simp; try with_reducible rfl)
                       simp only [Act.put, List.setIfInBounds_toArray, List.set_cons_zero, List.set_cons_succ])
                    | fail "op 38"
                  (refine take_it 39 (by kernel_rfl) (by kernel_rfl) (by kernel_rfl) (by assumption) (by kernel_rfl) ?_; intro oi hoi; simp only [List.getElem?_toArray, List.getElem?_cons_succ, List.getElem?_cons_zero, Option.some.injEq] at hoi; subst hoi)
                  first
                    | (refine ⟨undef, fun _ _ _ h => h, Or.inr ⟨by rfl, rfl⟩, ?_⟩; simp only [Act.put, List.setIfInBounds_toArray, List.set_cons_zero, List.set_cons_succ])
                    | (refine ⟨?_, fun _ _ _ h => h, Or.inl ⟨by rfl, ?_⟩, ?_⟩; rotate_left; focus (intro w hSw; (try dsimp only at hSw); go_simp; try with_reducible rfl)
                       simp only [Act.put, List.setIfInBounds_toArray, List.set_cons_zero, List.set_cons_succ])
                    | fail "op 39"
                  (refine take_it 40 (by kernel_rfl) (by kernel_rfl) (by kernel_rfl) (by assumption) (by kernel_rfl) ?_; intro oi hoi; simp only [List.getElem?_toArray, List.getElem?_cons_succ, List.getElem?_cons_zero, Option.some.injEq] at hoi; subst hoi)
                  first
                    | (refine ⟨undef, fun _ _ _ h => h, Or.inr ⟨by rfl, rfl⟩, ?_⟩; simp only [Act.put, List.setIfInBounds_toArray, List.set_cons_zero, List.set_cons_succ])
                    | (refine ⟨?_, fun _ _ _ h => h, Or.inl ⟨by rfl, ?_⟩, ?_⟩; rotate_left; focus (intro w hSw; (try dsimp only at hSw); go_simp; try with_reducible rfl)
                       simp only [Act.put, List.setIfInBounds_toArray, List.set_cons_zero, List.set_cons_succ])
                    | fail "op 40"
                  (refine take_it 41 (by kernel_rfl) (by kernel_rfl) (by kernel_rfl) (by assumption) (by kernel_rfl) ?_; intro oi hoi; simp only [List.getElem?_toArray, List.getElem?_cons_succ, List.getElem?_cons_zero, Option.some.injEq] at hoi; subst hoi)
                  first
                    | (refine ⟨undef, fun _ _ _ h => h, Or.inr ⟨by rfl, rfl⟩, ?_⟩; simp only [Act.put, List.setIfInBounds_toArray, List.set_cons_zero, List.set_cons_succ])
                    | (refine ⟨?_, fun _ _ _ h => h, Or.inl ⟨by rfl, ?_⟩, ?_⟩; rotate_left; focus (intro w hSw; (try dsimp only at hSw); go_simp; try with_reducible rfl)
                       simp only [Act.put, List.setIfInBounds_toArray, List.set_cons_zero, List.set_cons_succ])
                    | fail "op 41"
                  (refine take_it 42 (by kernel_rfl) (by kernel_rfl) (by kernel_rfl) (by assumption) (by kernel_rfl) ?_; intro oi hoi; simp only [List.getElem?_toArray, List.getElem?_cons_succ, List.getElem?_cons_zero, Option.some.injEq] at hoi; subst hoi)
                  first
                    | (refine ⟨undef, fun _ _ _ h => h, Or.inr ⟨by rfl, rfl⟩, ?_⟩; simp only [Act.put, List.setIfInBounds_toArray, List.set_cons_zero, List.set_cons_succ])
                    | (refine ⟨?_, fun _ _ _ h => h, Or.inl ⟨by rfl, ?_⟩, ?_⟩; rotate_left; focus (intro w hSw; (try dsimp only at hSw); go_simp; try with_reducible rfl)
                       simp only [Act.put, List.setIfInBounds_toArray, List.set_cons_zero, List.set_cons_succ])
                    | fail "op 42"
                  (refine take_it 43 (by kernel_rfl) (by kernel_rfl) (by kernel_rfl) (by assumption) (by kernel_rfl) ?_; intro oi hoi; simp only [List.getElem?_toArray, List.getElem?_cons_succ, List.getElem?_cons_zero, Option.some.injEq] at hoi; subst hoi)
                  first
                    | (refine ⟨undef, fun _ _ _ h => h, Or.inr ⟨by rfl, rfl⟩, ?_⟩; simp only [Act.put, List.setIfInBounds_toArray, List.set_cons_zero, List.set_cons_succ])
                    | (refine ⟨?_, fun _ _ _ h => h, Or.inl ⟨by rfl, ?_⟩, ?_⟩; rotate_left; focus (intro w hSw; (try dsimp only at hSw); go_simp; try with_reducible rfl)
                       simp only [Act.put, List.setIfInBounds_toArray, List.set_cons_zero, List.set_cons_succ])
                    | fail "op 43"
                  refine wpAnyH_ready (rs := [44]) (by kernel_rfl) (by simp) ?_
                  refine AllReadyH.cons rfl (fun K hK => ?_) AllReadyH.nil
                  refine step_callg 16 #[.agg #[.slice ard nrd krd, .slice asd of.length ksd, .slice ald nld kld], v6] ?_ ?_ (check_any _ _ (copQ c of share).raw M _ (HD6.out.raw.below hbD) (HI6.out.below hbD)) ?_
                  · rfl
                  · go_simp
                  rintro e8 w8 ⟨⟨b8, rfl, hb8⟩, hb8b⟩; obtain rfl : b8 = false := Bool.eq_false_iff.2 (fun h => HNC.out (hb8.1 h)); clear hb8; refine ⟨_, rfl, ?_⟩
                  refine hK.out _ _ ⟨cell_below hb8b a1, cell_below hb8b a2, cell_below hb8b b1, cell_below hb8b b2, cell_below hb8b m1, cell_below hb8b m2, cell_below hb8b c0, cell_below hb8b c1, cell_below hb8b c2⟩ (fun hHeld => ?_)
                  clear hK K
                  simp only [Act.put, List.setIfInBounds_toArray, List.set_cons_zero, List.set_cons_succ]
                  (refine take_it 45 (by kernel_rfl) (by kernel_rfl) (by kernel_rfl) (by assumption) (by kernel_rfl) ?_; intro oi hoi; simp only [List.getElem?_toArray, List.getElem?_cons_succ, List.getElem?_cons_zero, Option.some.injEq] at hoi; subst hoi)
                  first
                    | (refine ⟨undef, fun _ _ _ h => h, Or.inr ⟨by rfl, rfl⟩, ?_⟩; simp only [Act.put, List.setIfInBounds_toArray, List.set_cons_zero, List.set_cons_succ])
                    | (refine ⟨?_, fun _ _ _ h => h, Or.inl ⟨by rfl, ?_⟩, ?_⟩; rotate_left; focus (intro w hSw; (try dsimp only at hSw); go_simp; try with_reducible rfl)
                       simp only [Act.put, List.setIfInBounds_toArray, List.set_cons_zero, List.set_cons_succ])
                    | fail "op 45"
                  (refine take_it 46 (by kernel_rfl) (by kernel_rfl) (by kernel_rfl) (by assumption) (by kernel_rfl) ?_; intro oi hoi; simp only [List.getElem?_toArray, List.getElem?_cons_succ, List.getElem?_cons_zero, Option.some.injEq] at hoi; subst hoi)
                  first
                    | (refine ⟨undef, fun _ _ _ h => h, Or.inr ⟨by rfl, rfl⟩, ?_⟩; simp only [Act.put, List.setIfInBounds_toArray, List.set_cons_zero, List.set_cons_succ])
                    | (refine ⟨?_, fun _ _ _ h => h, Or.inl ⟨by rfl, ?_⟩, ?_⟩; rotate_left; focus (intro w hSw; (try dsimp only at hSw); go_simp; try with_reducible rfl)
                       simp only [Act.put, List.setIfInBounds_toArray, List.set_cons_zero, List.set_cons_succ])
                    | fail "op 46"
                  refine wpAnyH_done (by kernel_rfl) ?_ _
                  clear a1 a2 b1 b2 m1 m2 c0 c1 c2
                  have hbE := below_then hbD hb8b
                  go_wp2_with fail
                  go_roundw
                  case rel => exact ⟨j + 1, by omega, by go_num, hbE⟩
                  case measure => simp [intOf]; omega
                · have q1 : (y1 != y2) = true := by simpa using hy
                  have q2 : (x1 == x2) = false := by simpa using hx
                  have q3 : (z1 == z2) = false := by simpa using hz
                  clear hy hx hz HX1 HX2
                  go_wp2_with fail
                  go_quiet (fail)
                  have hbN := below_then hbr2 (below_drewN (B := wr.heap.size) wr nq)
                  clear a1 a2 b1 b2 m1 m2
                  go_wp2_with fail
                  go_roundw
                  case rel => exact ⟨j + 1, by omega, by go_num, hbN⟩
                  case measure => simp [intOf]; omega
            · obtain rfl : j = i := by omega
              go_wp2_with fail
              go_roundw
              case rel => exact ⟨j + 1, by omega, by go_num, hbr2⟩
              case measure => simp [intOf]; omega
        · obtain rfl : i = of.length := by omega
          have HD7 := Lib.hid (HD6.out.below hbr)
          have HN7 := Lib.hid (HN6.out.below hbr)
          have HB7 := Lib.hid (below_then HB6.out hbr)
          obtain ⟨_, c0, c1, c2, _, _, _⟩ := HC6.out.belowS hbr
          go_wp2_with (first
            | (go_at_call 15; (with_reducible refine (quo_any _ _ (copQ c of share).raw nx _ HD7.out.raw HN7.out).mono ?_); rintro e8 w8 ⟨v8, er8, rfl, hb8, _, hg8, _⟩; obtain ⟨rfl, hq8⟩ := hg8 HCL.out.ck HCL.out.qv; clear hg8
               obtain ⟨qr, qs8, ql, rfl, hqm, hqs, hql⟩ := id hq8
               obtain ⟨rA, rN, rK, rfl, _⟩ := id hqm.sl
               obtain ⟨sA, sN, sK, rfl, _⟩ := id hqs.sl
               obtain ⟨lA, lN, lK, rfl, _⟩ := id (CellsV.sl hql)
               have hsN : sN = cnt nx := by have := hqs.len; simpa [quo, slen, bsums_length] using this
               subst hsN
               have ba9 := below_alloc w8 (.cells #[.slice rA rN rK, .slice sA (cnt nx) sK, .slice lA lN lK] 27)
               have hC9 := C3.new w8 27 (.slice rA rN rK) (.slice sA (cnt nx) sK) (.slice lA lN lK)
               have HC9 := Lib.hid hC9
               have HQ9 := Lib.hid (hq8.below ba9)
               have HB9 := Lib.hid (below_then HB7.out (below_then hb8 ba9))
               obtain ⟨_, d0, d1, d2, _, _, _⟩ := id hC9
               clear hq8 hqm hqs hql hC9 ba9 c0 c1 c2)
            | (go_at_call 18; (with_reducible refine (coarse_any _ (quo (copQ c of share).raw nx).raw _ HQ9.out.raw).mono ?_); rintro e10 w10 ⟨_, hg10, hb10⟩; obtain ⟨v10, single, rfl, hN10, hco10⟩ := hg10 HCL.out.qv; clear hg10
               obtain rfl := HCL.out.one _ hco10
               have HN10 := Lib.hid hN10
               have s10 := CellsV.sl hN10
               have l10 : slen v10 = cnt nx := hN10.len.trans (idl_length _)
               have HC10 := Lib.hid (HC9.out.belowS hb10)
               have HB10 := Lib.hid (below_then HB9.out hb10)
               clear hN10 d0 d1 d2))
          have hcn : cnt nx ≤ 10 := by have h1 := cnt_le nx nx.length; rw [List.take_length, HCL.out.len] at h1; omega
          generalize w8.alloc (.cells #[.slice rA rN rK, .slice sA (cnt nx) sK, .slice lA lN lK] 27) = W9 at *
          generalize w8.heap.size = S9 at *
          clear hb8 hb10
          go_loopw [18] (fun u18 wr => ∃ (k : Nat), k ≤ cnt nx ∧ u18 = .int .i64 k ∧ Below w10.heap.size w10 wr) (fun u18 _ => cnt nx - (intOf u18).toNat)
          case atStart => exact ⟨0, Nat.zero_le _, rfl, Below.refl _ _⟩
          case round =>
            obtain ⟨k, hk, rfl, hbr3⟩ := hrel
            by_cases hkn : k < cnt nx
            · have hcx := (HN10.out.below hbr3).at' k (by rw [idl_length]; exact hkn)
              rw [idl_get'] at hcx
              have i1 : (0 : Int) ≤ (k : Int) := by omega
              have i2 : (k : Int) < (cnt nx : Nat) := by omega
              go_wp2_with fail
              go_roundw
              case rel => exact ⟨k + 1, hkn, by go_num, hbr3⟩
              case measure => simp [intOf]; omega
            · obtain rfl : k = cnt nx := by omega
              have HB11 := Lib.hid (below_then HB10.out hbr3)
              obtain ⟨_, d0, d1, d2, _, _, _⟩ := HC10.out.belowS hbr3
              go_wp2_with (first
                | (go_at_call 11; (with_reducible refine (awake_any _).mono ?_); rintro e12 w12 ⟨rfl, hb12⟩))
              go_ret
              exact ⟨rfl, below_then HB11.out hb12⟩
end Go.Proofs.Ytoldfpkafcefnaa
namespace Go.Proofs.Ytoldfpkafcefnaa
open Go.ChangeShapes Go.WideShapes Go.ChangeAt Go.RowKit
set_option linter.unusedVariables false
set_option linter.unusedSimpArgs false

theorem Try.ownK : ownKnob Try.prog.godebug = none := by kernel_rfl
theorem Try.laidOut : laidOutB Try.prog = true := by kernel_rfl
theorem Try.cellsU8 : Try.prog.cellsOf 5 = 1 := by kernel_rfl
/-- A slice of bytes that came in. -/
theorem bytes_in {W : World} {a : Addr} {len cap : Nat} {zs : List Int} (hl : len ≤ cap) (hm : cap ≤ maxLen) (hz : zs.length = cap) (hcell : ∀ i, i < zs.length → W.cell? (a.add i) = some (.int .u8 (zs.getD i 0))) (hwz : ∀ n ∈ zs, (Lit.int .u8 n).wf = true) :
    CellsV W (.slice (some a) len cap) (bytes ((zs.take len).map Int.toNat)) ∧ ∀ x ∈ (zs.take len).map Int.toNat, x < 256 := by
  have hb : ∀ n ∈ zs, 0 ≤ n ∧ n < 256 := fun n hn => by
    have := hwz n hn
    simp [Lit.wf, IntKind.min, IntKind.max, IntKind.signed, IntKind.bits] at this
    omega
  refine ⟨⟨⟨a, len, cap, rfl, hl, hm, fun e => by cases e⟩, by simp [bytes, slen]; omega, fun j hj => ?_⟩, fun x hx => ?_⟩
  · have hj2 : j < len := by simp [bytes] at hj; omega
    have hj3 : j < zs.length := by omega
    have h1 := hcell j hj3
    have h2 := hb _ (List.getElem_mem hj3)
    have e1 : zs.getD j 0 = zs[j] := by simp [List.getD, List.getElem?_eq_getElem hj3]
    rw [e1] at h1
    simp only [ptr, base, bytes, List.getElem_map, List.getElem_take]
    rw [h1]
    congr 2
    omega
  · obtain ⟨n, hn, rfl⟩ := List.mem_map.1 hx
    have := hb n (List.mem_of_mem_take hn)
    omega
set_option maxRecDepth 100000 in
theorem coarsest_lifted (os : Os) (started : os.Started) (H : Type) (enc : TypeId × Value → H) :
    ReturnsInHanded {} Try.checked os 5 .any (Rows.lumpCoarsestSpec.pre6 enc Try.prog Try.f5 Rows.lumpCoarsestRow.domain false) (Rows.lumpCoarsestSpec.post enc Try.prog Try.f5 false true false false) := by
  refine returnsInHanded_of_change (C := Try.checked) Try.ownK started (by kernel_rfl) Try.func5
    (ChangeSpec.witness6 (enc := enc) (C := Try.checked) false ⟨#[], #[.slice none 0 0, .slice none 0 0], []⟩ 8 (by kernel_rfl) (by kernel_rfl) (by kernel_rfl) (by kernel_rfl)) ?_
  intro W base args ds gs before hval0 hW hcnd _
  have hval : ∀ (j : Nat) t v, Try.f5.params[j]? = some t → args[j]? = some v → Value.okWide Try.prog W .any base t v := hval0
  have hW' := hW
  obtain ⟨p, q, hA0, hV, rfl, hfz, hnd⟩ := hW
  have hA : DataW.TrodAll enc Try.prog W 0 (fun _ => true) true Try.f5.params.toList args.toList ds p := hA0
  rw [Try.params5] at hA hval
  obtain ⟨v0, v1, d0, d1, p0, p1, rfl, rfl, rfl, h0, h1⟩ := trodAll_two hA
  obtain ⟨rfl, rfl⟩ := trodVars_none hV
  obtain ⟨a0, len0, cap0, rfl⟩ := okWide_slice Try.underlying22 (hval 0 22 v0 rfl rfl)
  obtain ⟨a1, len1, cap1, rfl⟩ := okWide_slice Try.underlying22 (hval 1 22 v1 rfl rfl)
  have h0k := h0
  have h1k := h1
  clear hA0 hval0
  simp only [List.append_nil] at hW'
  have hlt : ∀ x ∈ p0 ++ p1, x.block < W.heap.size := fun x hx => hW'.lt x hx
  have hargs : ∀ (a : Option Addr) (len cap : Nat) (d : DataW H) (p : List MemPlace), DataW.Trod enc Try.prog W 0 (fun _ => true) true 22 (.slice a len cap) d p → (∀ x ∈ p, x.block < W.heap.size) → ∀ (W' : World), Below W.heap.size W W' → DataW.Trod enc Try.prog W' 0 (fun b => decide (b < W.heap.size)) true 22 (.slice a len cap) d p :=
    fun a len cap d p hd hl W' hn => Below.trod Try.laidOut (by kernel_rfl) (of_decide_eq_true (by kernel_rfl)) hd hn hl
  have rd : ∀ (a : Option Addr) (len cap : Nat) (d : DataW H) (p : List MemPlace), DataW.Trod enc Try.prog W 0 (fun _ => true) true 22 (.slice a len cap) d p → ∃ l, CellsV W (.slice a len cap) (bytes l) ∧ ∀ x ∈ l, x < 256 := by
    intro a len cap d p hd
    obtain ⟨fuel, hf⟩ := hd
    rcases open_ints Try.underlying22 Try.underlying5 Try.cellsU8 hf with ⟨hcs, hx⟩ | ⟨a, len', cap', zs, hcs, _, hl, hm, hz, hx, hcell, hwz⟩
    · simp [Value.cells] at hcs
      obtain ⟨rfl, rfl, rfl⟩ := hcs
      exact ⟨[], ⟨IsSl.nil, rfl, fun j h => by simp [bytes] at h⟩, fun x h => by simp at h⟩
    · simp [Value.cells] at hcs
      obtain ⟨rfl, rfl, rfl⟩ := hcs
      simp only [if_true] at hz
      exact ⟨_, bytes_in hl hm hz hcell hwz⟩
  obtain ⟨l0, r0, q0⟩ := rd _ _ _ _ _ h0
  obtain ⟨l1, r1, q1⟩ := rd _ _ _ _ _ h1
  refine (coarsest_law _ _ l0 l1 W r0 q0 r1 q1).mono fun e W' ⟨he, hnx⟩ => ?_
  subst he
  refine ⟨_, rfl, _, _, _, [], (p0 ++ p1) ++ [], [], hW', ?_, ?_, rfl, hnx.frame _, fun h => by cases h⟩
  · exact trodAll_mk1 (shut_bool Try.underlying4 _)
  · have h9 := trodAll_mk2 (hargs _ _ _ _ _ h0k (fun x hx => hlt x (List.mem_append_left _ hx)) _ hnx) (hargs _ _ _ _ _ h1k (fun x hx => hlt x (List.mem_append_right _ hx)) _ hnx)
    rw [← List.append_nil (p0 ++ p1)] at h9
    exact h9
theorem lumpCoarsest_holds : Rows.LumpCoarsestSaid :=
  OpenClaim.holds_of_wide 5 Try.f5 rfl rfl rfl rfl rfl rfl rfl ⟨rfl, rfl, rfl, rfl, rfl⟩ rfl rfl rfl rfl rfl (by kernel_rfl) Try.func5 (by kernel_rfl)
    (of_decide_eq_true (by kernel_rfl)) (by unfold Func.isWrapper; first | (rw [if_pos (by decide +kernel)]; kernel_rfl) | (rw [if_neg (by decide +kernel)]; exact ⟨rfl, rfl⟩))
    (fun os started H enc _ => coarsest_lifted os started H enc)
#print axioms lumpCoarsest_holds
end Go.Proofs.Ytoldfpkafcefnaa
