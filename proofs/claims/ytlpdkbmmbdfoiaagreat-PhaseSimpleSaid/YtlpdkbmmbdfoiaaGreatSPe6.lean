/-
  PhaseSimple: for every input the law returns true, and the input reads as it did. No condition.
-/
import Derived.Test.YtlpdkbmmbdfoiaaGreatSEl2
import Derived.Test.YtlpdkbmmbdfoiaaGreatSHe0
import Derived.Test.YtlpdkbmmbdfoiaaGreatSFr3a
import Derived.Test.YtlpdkbmmbdfoiaaGreatSEl1
import Derived.Test.YtlpdkbmmbdfoiaaGreatSSz3
import Derived.Test.YtlpdkbmmbdfoiaaGreatSTa6
import Derived.Test.YtlpdkbmmbdfoiaaGreatRows
import Derived.WalkKit
import Derived.ProofKit
import Derived.OpenShut
import Derived.ChangeSlices
import Derived.SizedLaws
import Derived.Deep.Slices
import Derived.Deep.Strs
import Derived.Deep.Grids
set_option linter.unusedVariables false
set_option linter.unusedSimpArgs false
namespace Go.Proofs.YtlpdkbmmbdfoiaaGreat
open Go.RowKit
set_option maxRecDepth 100000 in
set_option maxHeartbeats 6400000 in
theorem simple_any (y : RFL) (a b : Value) (n : Int) (w : World) (h1 : zxb w a y.a) (h2 : zxb w b y.b) : Calls Tryz.prog 4 #[.agg #[.bool y.neg, a, b], .int .i64 n] w (fun e w' => e = .returned (.bool true) ∧ Below w.heap.size w w') := by
 obtain ⟨xa, xn, xk, rfl, _⟩ := id h1.sl
 obtain ⟨ya, yn, yk, rfl, _⟩ := id h2.sl
 have hxn : xn = y.a.length := h1.len
 have hyn : yn = y.b.length := h2.len
 have hba := zca w (.cells #[.bool y.neg, .slice xa xn xk, .slice ya yn yk] 38)
 have HC0 := zH (C3.new w 38 (.bool y.neg) (.slice xa xn xk) (.slice ya yn yk))
 have HB := zH hba
 have HN := zH (And.intro (h1.belowS hba) (h2.belowS hba))
 have HLN := zH (And.intro hxn hyn)
 clear h1 h2 hba hxn hyn
 go_enter Tryz.func4, Tryz.ntmps4
 go_upto_region 1 with fail
 generalize w.alloc (.cells #[.bool y.neg, .slice xa xn xk, .slice ya yn yk] 38) = W1 at *
 obtain ⟨-, c0, c1, c2, -, -, -⟩ := HC0.out
 by_cases hx : xn ≤ 8
 ·have ex : decide ((8 : Int) < (xn : Nat)) = false := decide_eq_false (by omega)
  by_cases hy : yn ≤ 8
  ·have ey : decide ((8 : Int) < (yn : Nat)) = false := decide_eq_false (by omega)
   obtain ⟨s, hs⟩ : ∃ s, y.neg = s := ⟨_, rfl⟩
   obtain ⟨p, hp⟩ : ∃ p, val y.a = p := ⟨_, rfl⟩
   obtain ⟨d, hd⟩ : ∃ d, val y.b = d := ⟨_, rfl⟩
   have ha : zlb W1 (.agg #[.bool y.neg, .slice xa xn xk, .slice ya yn yk]) y.neg p d := ⟨_, _, rfl, ⟨y.a, HN.out.1, hp, by have := HLN.out.1; omega⟩, ⟨y.b, HN.out.2, hd, by have := HLN.out.2; omega⟩⟩
   rw [hs] at ha HC0 c0
   have HA := zH ha
   have HS := zH hs
   clear ha hp hd hs HN HLN hx hy
   have HX1 : Hid (∀ w0 v, zlb w0 v s p d → Calls Tryz.prog 26 #[v] w0 (RErE w0 1 s p d)) := zH (fun w0 v h => (zde v s p d w0 h).mono fun _ _ h => h.det)
   have HX2 : Hid (∀ w0 v, zlb w0 v s p d → Calls Tryz.prog 27 #[v] w0 (RErE w0 1 s p d)) := zH (fun w0 v h => (zgj v s p d w0 h).mono fun _ _ h => h.det)
   have HX3 : Hid (∀ w0 v, zlb w0 v s p d → Calls Tryz.prog 28 #[.int .i64 n, v] w0 (RErE w0 n s p d)) := zH (fun w0 v h => (zlm n v s p d w0 h).mono fun _ _ h => h.det)
   have HX4 : Hid (∀ w0 v, zlb w0 v s p d → Calls Tryz.prog 29 #[.int .i64 n, v] w0 (RErE w0 n s p d)) := zH (fun w0 v h => (zck n v s p d w0 h).mono fun _ _ h => h.det)
   unfold RErE at HX1 HX2 HX3 HX4
   obtain ⟨z1, hz1⟩ : ∃ z, erE 1 s p d = z := ⟨_, rfl⟩
   obtain ⟨z2, hz2⟩ : ∃ z, erE n s p d = z := ⟨_, rfl⟩
   rw [hz1] at HX1 HX2
   rw [hz2] at HX3 HX4
   have e1 : (z1 == z1) = true := by simp
   have e2 : (z2 == z2) = true := by simp
   clear hz1 hz2
   go_upto_region 4 with (first
    |(go_at_call 26; (with_reducible refine (HX1.out _ _ HA.out).mono ?_); rintro e1 w1 ⟨v1, rfl, hv1, hb1⟩
      obtain ⟨sa1, sn1, sk1, ra1, rn1, rk1, ea1, en1, ek1, rfl, _⟩ := hv1.slices
      have hba := zca w1 (.cells #[.string { data := #[] }, .slice sa1 sn1 sk1, .slice ra1 rn1 rk1, .slice ea1 en1 ek1] 52)
      have hbb := zaa hb1 hba
      have HC1 := zH (C4.new w1 52 (.string { data := #[] }) (.slice sa1 sn1 sk1) (.slice ra1 rn1 rk1) (.slice ea1 en1 ek1))
      have HF1 := zH (hv1.below hba)
      clear c0 c1 c2
      replace HB := zH (zaa HB.out hbb); replace HC0 := zH (HC0.out.belowS hbb); replace HA := zH (HA.out.below hbb) 
      clear hv1 hb1 hba hbb))
   obtain ⟨b1, hb1⟩ : ∃ b, w1.heap.size = b := ⟨_, rfl⟩
   rw [hb1] at HC1 ⊢
   clear hb1
   generalize w1.alloc (.cells #[.string { data := #[] }, .slice sa1 sn1 sk1, .slice ra1 rn1 rk1, .slice ea1 en1 ek1] 52) = W1 at *
   obtain ⟨-, c0, c1, c2, -, -, -⟩ := HC0.out
   go_upto_region 5 with (first
    |(go_at_call 27; (with_reducible refine (HX2.out _ _ HA.out).mono ?_); rintro e2 w2 ⟨v2, rfl, hv2, hb2⟩
      obtain ⟨sa2, sn2, sk2, ra2, rn2, rk2, ea2, en2, ek2, rfl, _⟩ := hv2.slices
      have hba := zca w2 (.cells #[.string { data := #[] }, .slice sa2 sn2 sk2, .slice ra2 rn2 rk2, .slice ea2 en2 ek2] 52)
      have hbb := zaa hb2 hba
      have HC2 := zH (C4.new w2 52 (.string { data := #[] }) (.slice sa2 sn2 sk2) (.slice ra2 rn2 rk2) (.slice ea2 en2 ek2))
      have HF2 := zH (hv2.below hba)
      clear c0 c1 c2
      replace HB := zH (zaa HB.out hbb); replace HC0 := zH (HC0.out.belowS hbb); replace HA := zH (HA.out.below hbb); replace HC1 := zH (HC1.out.belowS hbb); replace HF1 := zH (HF1.out.below hbb)
      clear hv2 hb2 hba hbb))
   obtain ⟨b2, hb2⟩ : ∃ b, w2.heap.size = b := ⟨_, rfl⟩
   rw [hb2] at HC2 ⊢
   clear hb2
   generalize w2.alloc (.cells #[.string { data := #[] }, .slice sa2 sn2 sk2, .slice ra2 rn2 rk2, .slice ea2 en2 ek2] 52) = W2 at *
   obtain ⟨-, c0, c1, c2, -, -, -⟩ := HC0.out
   go_upto_region 6 with (first
    |(go_at_call 28; (with_reducible refine (HX3.out _ _ HA.out).mono ?_); rintro e3 w3 ⟨v3, rfl, hv3, hb3⟩
      obtain ⟨sa3, sn3, sk3, ra3, rn3, rk3, ea3, en3, ek3, rfl, _⟩ := hv3.slices
      have hba := zca w3 (.cells #[.string { data := #[] }, .slice sa3 sn3 sk3, .slice ra3 rn3 rk3, .slice ea3 en3 ek3] 52)
      have hbb := zaa hb3 hba
      have HC3 := zH (C4.new w3 52 (.string { data := #[] }) (.slice sa3 sn3 sk3) (.slice ra3 rn3 rk3) (.slice ea3 en3 ek3))
      have HF3 := zH (hv3.below hba)
      clear c0 c1 c2
      replace HB := zH (zaa HB.out hbb); replace HC0 := zH (HC0.out.belowS hbb); replace HA := zH (HA.out.below hbb); replace HC1 := zH (HC1.out.belowS hbb); replace HF1 := zH (HF1.out.below hbb); replace HC2 := zH (HC2.out.belowS hbb); replace HF2 := zH (HF2.out.below hbb)
      clear hv3 hb3 hba hbb))
   obtain ⟨b3, hb3⟩ : ∃ b, w3.heap.size = b := ⟨_, rfl⟩
   rw [hb3] at HC3 ⊢
   clear hb3
   generalize w3.alloc (.cells #[.string { data := #[] }, .slice sa3 sn3 sk3, .slice ra3 rn3 rk3, .slice ea3 en3 ek3] 52) = W3 at *
   obtain ⟨-, c0, c1, c2, -, -, -⟩ := HC0.out
   go_upto_region 7 with (first
    |(go_at_call 29; (with_reducible refine (HX4.out _ _ HA.out).mono ?_); rintro e4 w4 ⟨v4, rfl, hv4, hb4⟩
      obtain ⟨sa4, sn4, sk4, ra4, rn4, rk4, ea4, en4, ek4, rfl, _⟩ := hv4.slices
      have hba := zca w4 (.cells #[.string { data := #[] }, .slice sa4 sn4 sk4, .slice ra4 rn4 rk4, .slice ea4 en4 ek4] 52)
      have hbb := zaa hb4 hba
      have HC4 := zH (C4.new w4 52 (.string { data := #[] }) (.slice sa4 sn4 sk4) (.slice ra4 rn4 rk4) (.slice ea4 en4 ek4))
      have HF4 := zH (hv4.below hba)
      clear c0 c1 c2
      replace HB := zH (zaa HB.out hbb); replace HC0 := zH (HC0.out.belowS hbb); replace HA := zH (HA.out.below hbb); replace HC1 := zH (HC1.out.belowS hbb); replace HF1 := zH (HF1.out.below hbb); replace HC2 := zH (HC2.out.belowS hbb); replace HF2 := zH (HF2.out.below hbb); replace HC3 := zH (HC3.out.belowS hbb); replace HF3 := zH (HF3.out.below hbb)
      clear hv4 hb4 hba hbb))
   obtain ⟨b4, hb4⟩ : ∃ b, w4.heap.size = b := ⟨_, rfl⟩
   rw [hb4] at HC4 ⊢
   clear hb4
   generalize w4.alloc (.cells #[.string { data := #[] }, .slice sa4 sn4 sk4, .slice ra4 rn4 rk4, .slice ea4 en4 ek4] 52) = W4 at *
   obtain ⟨-, c0, c1, c2, -, -, -⟩ := HC0.out
   clear c0 c1 c2 HC0 HA HX1 HX2 HX3 HX4
   obtain ⟨-, p0, p1, p2, p3, -, -, -, -⟩ := HC1.out
   obtain ⟨-, q0, q1, q2, q3, -, -, -, -⟩ := HC2.out
   obtain ⟨-, r0, r1, r2, r3, -, -, -, -⟩ := HC3.out
   obtain ⟨-, t0, t1, t2, t3, -, -, -, -⟩ := HC4.out
   go_wp2_with (first
    |(go_at_call 30; (with_reducible refine (same_law _ _ (erL 1 s p d) _ HF1.out HF2.out).mono ?_); rintro e8 w8 ⟨rfl, hb8⟩
      clear p0 p1 p2 p3 q0 q1 q2 q3 r0 r1 r2 r3 t0 t1 t2 t3
      replace HB := zH (zaa HB.out hb8); replace HC3 := zH (HC3.out.belowS hb8); replace HF3 := zH (HF3.out.below hb8); replace HC4 := zH (HC4.out.belowS hb8); replace HF4 := zH (HF4.out.below hb8)
      obtain ⟨-, r0, r1, r2, r3, -, -, -, -⟩ := HC3.out
      obtain ⟨-, t0, t1, t2, t3, -, -, -, -⟩ := HC4.out
      clear hb8)
    |(go_at_call 30; (with_reducible refine (same_law _ _ (erL n s p d) _ HF3.out HF4.out).mono ?_); rintro e9 w9 ⟨rfl, hb9⟩
      clear r0 r1 r2 r3 t0 t1 t2 t3
      replace HB := zH (zaa HB.out hb9)
      clear hb9)
    |(go_at_call 25; (with_reducible refine (zah _).mono ?_); rintro e10 w10 ⟨rfl, hb10⟩
      replace HB := zH (zaa HB.out hb10)
      clear hb10))
   go_ret
   exact ⟨rfl, HB.out⟩
  ·have ey : decide ((8 : Int) < (yn : Nat)) = true := decide_eq_true (by omega)
   go_wp2_with (go_at_call 25; (with_reducible refine (zah _).mono ?_); rintro e9 w9 ⟨rfl, hb9⟩)
   go_ret
   exact ⟨rfl, zaa HB.out hb9⟩
 ·have ex : decide ((8 : Int) < (xn : Nat)) = true := decide_eq_true (by omega)
  go_wp2_with (go_at_call 25; (with_reducible refine (zah _).mono ?_); rintro e9 w9 ⟨rfl, hb9⟩)
  go_ret
  exact ⟨rfl, zaa HB.out hb9⟩
end Go.Proofs.YtlpdkbmmbdfoiaaGreat
namespace Go.Proofs.YtlpdkbmmbdfoiaaGreat
open Go.ChangeShapes Go.WideShapes Go.ChangeAt Go.RowKit
section
variable {H : Type} {enc : TypeId × Value → H} {P : Program}
theorem zih (hl : laidOutB P = true) {W W' : World} (hb : Below W.heap.size W W') : ∀ {ts : List TypeId} {vs : List Value} {ds : List (DataW H)} {ps : List MemPlace}, (ts.all fun t => P.readableRec t && decide (t < P.types.size)) = true →
 DataW.TrodAll enc P W 0 (fun _ => true) true ts vs ds ps → (∀ x ∈ ps, x.block < W.heap.size) → DataW.TrodAll enc P W' 0 (fun b => decide (b < W.heap.size)) true ts vs ds ps
 | [], vs, ds, ps, _, h, _ => by
   obtain ⟨rfl, rfl, rfl⟩ := trodAll_nil h
   exact trodAll_mk0
 | t :: ts, vs, ds, ps, hr, h, hlt => by
   obtain ⟨v, vs', d, ds', p, q, rfl, rfl, rfl, h1, h2⟩ := trodAll_cons h
   simp only [List.all_cons, Bool.and_eq_true, decide_eq_true_eq] at hr
   obtain ⟨⟨r1, r2⟩, r3⟩ := hr
   exact trodAll_cons_mk (Below.trod hl r1 r2 h1 hb fun x hx => hlt x (List.mem_append_left _ hx)) (zih hl hb (ts := ts) r3 h2 fun x hx => hlt x (List.mem_append_right _ hx))
end
section
variable {H : Type} {enc : TypeId × Value → H}
end
theorem Tryz.ownK : ownKnob Tryz.prog.godebug = none := by kernel_rfl
theorem Tryz.laidOut : laidOutB Tryz.prog = true := by kernel_rfl
section
variable {H : Type} {enc : TypeId × Value → H}
end
end Go.Proofs.YtlpdkbmmbdfoiaaGreat
namespace Go.Proofs.YtlpdkbmmbdfoiaaGreat
open Go.ChangeShapes Go.WideShapes Go.ChangeAt Go.RowKit Go.Deep
section
variable {H : Type} {enc : TypeId × Value → H} {W : World}
theorem Tryz.cellsU32 : Tryz.prog.cellsOf 142 = 1 := by kernel_rfl
theorem Tryz.cellsFrac : Tryz.prog.cellsOf 38 = 3 := by kernel_rfl
theorem Tryz.cellsNat : Tryz.prog.cellsOf 36 = 1 := by kernel_rfl
theorem Tryz.cellsBool : Tryz.prog.cellsOf 4 = 1 := by kernel_rfl
theorem nat_in0 {fuel : Nat} {cs : List Value} {x : DataW H × List MemPlace} (h : DataW.trod enc Tryz.prog W 0 (fun _ => true) true fuel 36 cs = some x) :
 ∃ v l, cs = [v] ∧ zxb W v l := by
 rcases open_ints Tryz.underlying36 Tryz.underlying142 Tryz.cellsU32 h with ⟨rfl, rfl⟩ | ⟨a, len, cap, zs, rfl, _, hl, hm, hz, rfl, hcell, hwz⟩
 ·exact ⟨_, [], rfl, zxb.nil W⟩
 ·simp only [if_true] at hz
  have hb : ∀ n ∈ zs, 0 ≤ n ∧ n < 4294967296 := fun n hn => by
   have := hwz n hn
   simp [Lit.wf, IntKind.min, IntKind.max, IntKind.signed, IntKind.bits] at this
   omega
  refine ⟨_, (zs.take len).map Int.toNat, rfl, ⟨⟨a, len, cap, rfl, hl, hm, fun e => by cases e⟩, by simp [slen]; omega, fun j hj => ?_, fun x hx => ?_⟩⟩
  ·have hj2 : j < len := by simp at hj; omega
   have hj3 : j < zs.length := by omega
   have h1 := hcell j hj3
   have h2 := hb _ (List.getElem_mem hj3)
   have e1 : zs.getD j 0 = zs[j] := by simp [List.getD, List.getElem?_eq_getElem hj3]
   rw [e1] at h1
   simp only [ptr, base, List.getElem_map, List.getElem_take]
   rw [h1]
   congr 2
   omega
  ·obtain ⟨n, hn, rfl⟩ := List.mem_map.1 hx
   have := hb n (List.mem_of_mem_take hn)
   omega
set_option maxRecDepth 100000 in
/-- A fraction's three cells. -/
theorem frac_in0 {fuel : Nat} {cs : List Value} {x : DataW H × List MemPlace} (h : DataW.trod enc Tryz.prog W 0 (fun _ => true) true fuel 38 cs = some x) :
 ∃ (y : RFL) (a b : Value), cs = [.bool y.neg, a, b] ∧ zxb W a y.a ∧ zxb W b y.b := by
 obtain ⟨y0, y1, y2, n, rfl, hlen, h0, h1, h2⟩ := trod_struct3 Tryz.underlying38 h
 rw [Tryz.cellsFrac] at hlen
 match cs, hlen with
 | [c0, c1, c2], _ =>
   obtain ⟨b, e0, _⟩ := DataW.trod_bool Tryz.underlying4 h0
   obtain ⟨v1, l1, e1, n1⟩ := nat_in0 h1
   obtain ⟨v2, l2, e2, n2⟩ := nat_in0 h2
   rw [Tryz.cellsBool] at e0
   rw [Tryz.cellsNat] at e1 e2
   simp at e0 e1 e2
   subst e0 e1 e2
   exact ⟨⟨b, l1, l2⟩, _, _, rfl, n1, n2⟩
instance : Inhabited RFL := ⟨⟨false, [], []⟩⟩
end
end Go.Proofs.YtlpdkbmmbdfoiaaGreat
namespace Go.Proofs.YtlpdkbmmbdfoiaaGreat
open Go.ChangeShapes Go.WideShapes Go.ChangeAt Go.RowKit
section
variable {H : Type} {enc : TypeId × Value → H}
set_option maxRecDepth 100000 in
theorem int_came3 {W : World} {base : Nat} {v : Value} {d : DataW H} {p : List MemPlace} (hv : Value.okWide Tryz.prog W .any base 3 v) (h : DataW.Trod enc Tryz.prog W 0 (fun _ => true) true 3 v d p) : ∃ x : Int, v = .int .i64 x := by
 obtain ⟨n, rfl, rfl, rfl, hwn⟩ := open_int Tryz.underlying3 hv h
 exact ⟨n, rfl⟩
set_option maxRecDepth 100000 in
theorem frac_came {W : World} {base : Nat} {v : Value} {d : DataW H} {p : List MemPlace} (hv : Value.okWide Tryz.prog W .any base 38 v) (h : DataW.Trod enc Tryz.prog W 0 (fun _ => true) true 38 v d p) : ∃ (y : RFL) (a b : Value), v = .agg #[.bool y.neg, a, b] ∧ zxb W a y.a ∧ zxb W b y.b := by
 obtain ⟨cs0, rfl, _⟩ := okWide_struct Tryz.underlying38 hv
 obtain ⟨fuel, hf⟩ := h
 obtain ⟨y, a, b, e, h1, h2⟩ := frac_in0 hf
 refine ⟨y, a, b, ?_, h1, h2⟩
 simp [Value.cells] at e
 have e2 : cs0 = #[.bool y.neg, a, b] := by cases cs0; simp at e; simp [e]
 rw [e2]
end
set_option maxRecDepth 100000 in
theorem zph (os : Os) (started : os.Started) (H : Type) (enc : TypeId × Value → H) :
 ReturnsInHanded {} Tryz.checked os 4 .any (Rows.phaseSimpleSpec.pre6 enc Tryz.prog Tryz.f4 Rows.phaseSimpleRow.domain false) (Rows.phaseSimpleSpec.post enc Tryz.prog Tryz.f4 false true false false) := by
 refine returnsInHanded_of_change (C := Tryz.checked) Tryz.ownK started (by kernel_rfl) Tryz.func4
  (ChangeSpec.witness6 (enc := enc) (C := Tryz.checked) false ⟨#[], #[.agg #[.bool false, .slice none 0 0, .slice none 0 0], .int .i64 0], []⟩ 8 (by kernel_rfl) (by kernel_rfl) (by kernel_rfl) (by kernel_rfl)) ?_
 intro W base args ds gs before hval0 hW hcnd _
 have hval : ∀ (j : Nat) t v, Tryz.f4.params[j]? = some t → args[j]? = some v → Value.okWide Tryz.prog W .any base t v := hval0
 have hW' := hW
 obtain ⟨p, q, hA0, hV, rfl, hfz, hnd⟩ := hW
 have hA : DataW.TrodAll enc Tryz.prog W 0 (fun _ => true) true Tryz.f4.params.toList args.toList ds p := hA0
 rw [Tryz.params4] at hA hval
 obtain ⟨rfl, rfl⟩ := trodVars_none hV
 simp only [List.append_nil] at hW'
 have hback := fun (W' : World) (hb : Below W.heap.size W W') => zih (enc := enc) Tryz.laidOut hb (by kernel_rfl) hA hW'.lt
 obtain ⟨v0, vs0, d0, ds0, p0, q0, e0, rfl, _, h0, hA⟩ := trodAll_cons hA
 obtain ⟨v1, vs1, d1, ds1, p1, q1, rfl, rfl, _, h1, hA⟩ := trodAll_cons hA
 obtain ⟨rfl, rfl, _⟩ := trodAll_nil hA
 obtain rfl : args = #[v0, v1] := by cases args; simp_all
 obtain ⟨y, a, b, rfl, g0, g1⟩ := frac_came (hval 0 38 v0 rfl rfl) h0
 obtain ⟨x1, rfl⟩ := int_came3 (hval 1 3 v1 rfl rfl) h1
 refine (simple_any y a b x1 W g0 g1).mono fun e W' ⟨he, hnx⟩ => ?_
 subst he
 refine ⟨_, rfl, _, _, _, [], p, [], hW', ?_, hback _ hnx, ?_, hnx.frame _, fun h => by cases h⟩
 ·exact trodAll_mk1 (shut_bool Tryz.underlying4 _)
 ·rfl
theorem phaseSimple_holds : Rows.PhaseSimpleSaid :=
 OpenClaim.holds_of_wide 4 Tryz.f4 rfl rfl rfl rfl rfl rfl rfl ⟨rfl, rfl, rfl, rfl, rfl⟩ rfl rfl rfl rfl rfl (by kernel_rfl) Tryz.func4 (by kernel_rfl)
  (of_decide_eq_true (by kernel_rfl)) (by unfold Func.isWrapper; first | (rw [if_pos (by decide +kernel)]; kernel_rfl) | (rw [if_neg (by decide +kernel)]; exact ⟨rfl, rfl⟩))
  (fun os started H enc _ => zph os started H enc)
end Go.Proofs.YtlpdkbmmbdfoiaaGreat
