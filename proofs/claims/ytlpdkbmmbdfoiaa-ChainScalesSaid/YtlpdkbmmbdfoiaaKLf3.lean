/-
  Lifting a law: lists of bytes that came in. No law is named here.
-/
import Derived.Test.YtlpdkbmmbdfoiaaKLft
import Derived.Test.YtlpdkbmmbdfoiaaKHs2
set_option linter.unusedVariables false
set_option linter.unusedSimpArgs false
namespace Go.Proofs.Ytlpdkbmmbdfoiaa
open Go.ChangeShapes Go.WideShapes Go.ChangeAt Go.RowKit
theorem Try.ownK : ownKnob Try.prog.godebug = none := by kernel_rfl
theorem Try.laidOut : laidOutB Try.prog = true := by kernel_rfl
theorem Try.cellsU8 : Try.prog.cellsOf 5 = 1 := by kernel_rfl
def U8V (w : World) (v : Value) (l : List Nat) : Prop := CellsV w v (bytes l) ∧ ∀ x ∈ l, x < 256
section
variable {H : Type} {enc : TypeId × Value → H}
theorem bytes_in {W : World} {a : Addr} {len cap : Nat} {zs : List Int} (hl : len ≤ cap) (hm : cap ≤ maxLen) (hz : zs.length = cap) (hcell : ∀ i, i < zs.length → W.cell? (a.add i) = some (.int .u8 (zs.getD i 0))) (hwz : ∀ n ∈ zs, (Lit.int .u8 n).wf = true) :
 U8V W (.slice (some a) len cap) ((zs.take len).map Int.toNat) := by
 have hb : ∀ n ∈ zs, 0 ≤ n ∧ n < 256 := fun n hn => by
  have := hwz n hn
  simp [Lit.wf, IntKind.min, IntKind.max, IntKind.signed, IntKind.bits] at this
  omega
 refine ⟨⟨⟨a, len, cap, rfl, hl, hm, fun e => by cases e⟩, by simp [bytes, slen]; omega, fun j hj => ?_⟩, fun x hx => ?_⟩
 ·have hj2 : j < len := by simp [bytes] at hj; omega
  have hj3 : j < zs.length := by omega
  have h1 := hcell j hj3
  have h2 := hb _ (List.getElem_mem hj3)
  have e1 : zs.getD j 0 = zs[j] := by simp [List.getD, List.getElem?_eq_getElem hj3]
  rw [e1] at h1
  simp only [ptr, base, bytes, List.getElem_map, List.getElem_take]
  rw [h1]
  congr 2
  omega
 ·obtain ⟨n, hn, rfl⟩ := List.mem_map.1 hx
  have := hb n (List.mem_of_mem_take hn)
  omega
set_option maxRecDepth 100000 in
theorem u8s_came {W : World} {base : Nat} {v : Value} {d : DataW H} {p : List MemPlace} (hv : Value.okWide Try.prog W .any base 22 v) (h : DataW.Trod enc Try.prog W 0 (fun _ => true) true 22 v d p) : ∃ l, U8V W v l := by
 obtain ⟨a, len, cap, rfl⟩ := okWide_slice Try.underlying22 hv
 obtain ⟨fuel, hf⟩ := h
 rcases open_ints Try.underlying22 Try.underlying5 Try.cellsU8 hf with ⟨hcs, hx⟩ | ⟨a, len', cap', zs, hcs, _, hl, hm, hz, hx, hcell, hwz⟩
 ·simp [Value.cells] at hcs
  obtain ⟨rfl, rfl, rfl⟩ := hcs
  exact ⟨[], ⟨IsSl.nil, rfl, fun j h => by simp [bytes] at h⟩, fun x h => by simp at h⟩
 ·simp [Value.cells] at hcs
  obtain ⟨rfl, rfl, rfl⟩ := hcs
  simp only [if_true] at hz
  exact ⟨_, bytes_in hl hm hz hcell hwz⟩
end
end Go.Proofs.Ytlpdkbmmbdfoiaa
