/-
  package linear: square, Det, Rank, of matrices in canonical form that elimination keeps small.
-/
import Derived.Test.YtlpdkbmmbdfoiaaKRm
set_option linter.unusedVariables false
set_option linter.unusedSimpArgs false
namespace Go.Proofs.Ytlpdkbmmbdfoiaa
open Go.RowKit
theorem rawM_shape {n m : Nat} {A : Mx} (hn1 : 1 ≤ n) (hn : n ≤ 24) (hm1 : 1 ≤ m) (hm : m ≤ 24) (hf : fitM n m A) : zjg (rawM n m A) :=
 ⟨by rw [zhb]; exact hn1, by rw [zhb]; exact hn, by rw [zpg hn1]; exact hm1, by rw [zpg hn1]; exact hm, fun l hl => ⟨zvl hf l hl, by rw [zpg hn1]; exact zog l hl⟩⟩
theorem shape_lin (va : Value) (n m : Nat) (A : Mx) (w : World) (ha : MatF w va n m A) (hn1 : 1 ≤ n) (hn : n ≤ 24) (hm1 : 1 ≤ m) (hm : m ≤ 24) (hf : fitM n m A) :
 Calls Try.prog 98 #[va] w fun e w' => e = .returned (.tuple #[.int .i64 n, .int .i64 m, .bool true]) ∧ Below w.heap.size w w' := by
 refine (shape_any va _ w ha.raw).mono ?_
 rintro e w' ⟨rfl, hb⟩
 rw [if_pos (rawM_shape hn1 hn hm1 hm hf), zhb, zpg hn1]
 exact ⟨rfl, hb⟩
theorem weight_lin (va : Value) (n m : Nat) (A : Mx) (w : World) (ha : MatF w va n m A) (hn : n ≤ 24) (hm : m ≤ 24) (hf : fitM n m A) :
 Calls Try.prog 63 #[va] w fun e w' => e = .returned (.int .i64 (wtF n m A)) ∧ Below w.heap.size w w' :=
 zsj va _ w ha.raw (zvl hf) (fun l hl => by rw [zog l hl]; omega) (by rw [zhb]; omega)
set_option maxHeartbeats 800000 in
theorem square_lin (va : Value) (n m : Nat) (A : Mx) (w : World) (ha : MatF w va n m A) (hn1 : 1 ≤ n) (hn : n ≤ 24) (hm1 : 1 ≤ m) (hm : m ≤ 24) (hf : fitM n m A) (hnm : n = m) :
 Calls Try.prog 61 #[va] w fun e w' => e = .returned (.bool true) ∧ Below w.heap.size w w' := by
 subst hnm
 have HF := zH hf
 clear hf
 go_enter Try.func61, Try.ntmps61
 go_wp2_with (go_at_call 98; (with_reducible refine (shape_lin va n n A _ ha hn1 hn hm1 hm HF.out).mono ?_); rintro e1 w1 ⟨rfl, hb1⟩)
 go_ret
 exact ⟨by simp, hb1⟩
end Go.Proofs.Ytlpdkbmmbdfoiaa
