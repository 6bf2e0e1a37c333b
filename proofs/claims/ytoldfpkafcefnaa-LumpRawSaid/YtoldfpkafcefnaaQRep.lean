/-
  How the values of this program read in memory: slices as abstract values, natural numbers as lists of limbs. No program is named here.
-/
import Derived.Test.YtoldfpkafcefnaaQMath
import Derived.WalkKit
import Derived.WalkSpells
import Derived.WalkLawsBesides
import Derived.Deep.QuietTactic
import Derived.BigQuiet
import Derived.Lib.Hide
namespace Go.Proofs.Ytoldfpkafcefnaa
set_option linter.unusedVariables false
set_option linter.unusedSimpArgs false
open Go.RowKit

/-- The address at which a slice begins. -/
def base : Value → Addr
  | .slice (some a) _ _ => a
  | _ => ⟨0, 0, none⟩
/-- The address of a slice's cell k. -/
def ptr (v : Value) (k : Nat) : Addr := (base v).add k
theorem add_add (a : Addr) (j k : Nat) : (a.add j).add k = a.add (j + k) := by
  unfold Addr.add
  by_cases hj : j = 0 <;> by_cases hk : k = 0 <;> simp [hj, hk]
  omega
theorem ptr_add (v : Value) (j k : Nat) : (ptr v j).add k = ptr v (j + k) := add_add _ _ _
theorem ptr_block (v : Value) (k : Nat) : (ptr v k).block = (base v).block := by
  unfold ptr Addr.add; split <;> rfl

/-- A slice's length, a slice's capacity. -/
def slen : Value → Nat
  | .slice _ n _ => n
  | _ => 0
def scap : Value → Nat
  | .slice _ _ c => c
  | _ => 0
/-- v is a slice (nil, or at an address). -/
def IsSl (v : Value) : Prop :=
  ∃ a n cap, v = .slice a n cap ∧ n ≤ cap ∧ cap ≤ maxLen ∧ (a = none → cap = 0)
theorem IsSl.nil : IsSl (.slice none 0 0) := ⟨none, 0, 0, rfl, Nat.le_refl _, by simp [maxLen], fun _ => rfl⟩
theorem IsSl.le {v : Value} (h : IsSl v) : slen v ≤ scap v ∧ scap v ≤ 9223372036854775807 := by
  obtain ⟨a, n, cap, rfl, h1, h2, _⟩ := h; simp [maxLen] at h2; simp [slen, scap]; omega

/-- 'v[:n]'. -/
def tk (v : Value) (n : Nat) : Value := match v with
  | .slice a _ cap => .slice a n cap
  | v => v
/-- 'v[:n:n]'. -/
def tk3 (v : Value) (n : Nat) : Value := match v with
  | .slice a _ _ => .slice a n n
  | v => v
/-- 'v[lo:hi]' over elements of 'size' cells. -/
def cut (size : Nat) (v : Value) (lo hi : Nat) : Value := match v with
  | .slice a _ cap => .slice (if cap = lo then a else a.map (·.add (lo * size))) (hi - lo) (cap - lo)
  | v => v
theorem IsSl.tk {v : Value} {m : Nat} (h : IsSl v) (hm : m ≤ scap v) : IsSl (tk v m) := by
  obtain ⟨a, n, cap, rfl, h1, h2, h3⟩ := h; exact ⟨a, m, cap, rfl, hm, h2, h3⟩
theorem IsSl.tk3 {v : Value} {m : Nat} (h : IsSl v) (hm : m ≤ scap v) : IsSl (tk3 v m) := by
  obtain ⟨a, n, cap, rfl, h1, h2, h3⟩ := h; simp only [scap] at hm; exact ⟨a, m, m, rfl, Nat.le_refl _, by omega, fun e => by have := h3 e; omega⟩
theorem IsSl.cut {v : Value} {size lo hi : Nat} (h : IsSl v) (hl : lo ≤ hi) (hh : hi ≤ scap v) : IsSl (cut size v lo hi) := by
  obtain ⟨a, n, cap, rfl, h1, h2, h3⟩ := h
  simp only [scap] at hh
  refine ⟨_, _, cap - lo, rfl, by omega, by omega, fun e => ?_⟩
  split at e
  · omega
  · have : a = none := by cases a <;> simp_all
    have := h3 this; omega
theorem IsSl.slen_tk {v : Value} (h : IsSl v) (m : Nat) : slen (Go.Proofs.Ytoldfpkafcefnaa.tk v m) = m := by obtain ⟨a, n, cap, rfl, _⟩ := h; rfl
theorem IsSl.slen_tk3 {v : Value} (h : IsSl v) (m : Nat) : slen (Go.Proofs.Ytoldfpkafcefnaa.tk3 v m) = m := by obtain ⟨a, n, cap, rfl, _⟩ := h; rfl
theorem IsSl.scap_tk {v : Value} (h : IsSl v) (m : Nat) : scap (Go.Proofs.Ytoldfpkafcefnaa.tk v m) = scap v := by obtain ⟨a, n, cap, rfl, _⟩ := h; rfl
theorem IsSl.scap_tk3 {v : Value} (h : IsSl v) (m : Nat) : scap (Go.Proofs.Ytoldfpkafcefnaa.tk3 v m) = m := by obtain ⟨a, n, cap, rfl, _⟩ := h; rfl
theorem IsSl.slen_cut {v : Value} (h : IsSl v) (size lo hi : Nat) : slen (Go.Proofs.Ytoldfpkafcefnaa.cut size v lo hi) = hi - lo := by obtain ⟨a, n, cap, rfl, _⟩ := h; rfl
@[simp] theorem base_tk (v : Value) (m : Nat) : base (tk v m) = base v := by cases v <;> first | rfl | (rename_i a n c; cases a <;> rfl)
@[simp] theorem base_tk3 (v : Value) (m : Nat) : base (tk3 v m) = base v := by cases v <;> first | rfl | (rename_i a n c; cases a <;> rfl)
@[simp, go_sem] theorem ptr_tk (v : Value) (m k : Nat) : ptr (tk v m) k = ptr v k := by simp [ptr]
@[simp, go_sem] theorem ptr_tk3 (v : Value) (m k : Nat) : ptr (tk3 v m) k = ptr v k := by simp [ptr]
theorem ptr_cut {v : Value} {size lo hi k : Nat} (h : IsSl v) (hh : lo < scap v) : ptr (cut size v lo hi) k = ptr v (lo * size + k) := by
  obtain ⟨a, n, cap, rfl, h1, h2, h3⟩ := h
  simp only [scap] at hh
  cases a with
  | none => have := h3 rfl; omega
  | some a =>
    simp only [cut, ptr]
    rw [if_neg (by omega)]
    simp only [base, Option.map_some, add_add]

section
variable {P : Program} (w : World)
@[go_sem ↓] theorem run_len_sl {t ty : TypeId} {v : Value} (h : IsSl v) (ht : P.underlying t = some (.slice (P.elem t))) :
    (Builtin.len_ #[t] ty #[v]).run P w = .ok (.int .i64 (slen v)) w := by
  obtain ⟨a, n, cap, rfl, _⟩ := h
  simp [Builtin.len_, run_underlying ht, goInt, slen]
@[go_sem ↓] theorem run_index_sl {t : TypeId} {v : Value} {i : Int} (h : IsSl v) (ht : P.underlying t = some (.slice (P.elem t))) :
    (Instr.indexAt t v (.int .i64 i)).run P w =
      if 0 ≤ i ∧ i < slen v then ((sizeOf (P.elem t)).run P w).andThen fun s w => .ok (.pointer (some (ptr v (i.toNat * s)))) w
      else (boundsPanic .i64 i (slen v) .index).run P w := by
  obtain ⟨a, n, cap, rfl, hn, _, h3⟩ := h
  cases a with
  | none =>
    have := h3 rfl
    obtain rfl : n = 0 := by omega
    rw [if_neg (by simp only [slen]; omega)]
    simp [Instr.indexAt, run_underlying ht, asIntOf, slen]
  | some a =>
    by_cases hc : 0 ≤ i ∧ i < ((slen (.slice (some a) n cap) : Nat) : Int)
    · have hc' : 0 ≤ i ∧ i < (n : Int) := hc
      rw [if_pos hc]; simp [Instr.indexAt, run_underlying ht, asIntOf, hc', ptr, base]
    · have hc' : ¬ (0 ≤ i ∧ i < (n : Int)) := hc
      rw [if_neg hc]; simp [Instr.indexAt, run_underlying ht, asIntOf, hc', slen]
@[go_sem ↓] theorem run_slice_tk {t : TypeId} {v : Value} {m : Int} (h : IsSl v) (ht : P.underlying t = some (.slice (P.elem t))) (h0 : 0 ≤ m) (h1 : m ≤ scap v) :
    (Instr.slice t v none (some (.int .i64 m)) none).run P w = ((sizeOf (P.elem t)).run P w).andThen fun _ w => .ok (tk v m.toNat) w := by
  obtain ⟨a, n, cap, rfl, hn, _, h3⟩ := h
  simp only [scap] at h1
  simp [Instr.slice, run_underlying ht, Instr.sliceBounds, Instr.sliceBound, asIntOf, h0, h1, tk]
  cases a <;> simp [Addr.add]
@[go_sem ↓] theorem run_slice_tk3 {t : TypeId} {v : Value} {m : Int} (h : IsSl v) (ht : P.underlying t = some (.slice (P.elem t))) (h0 : 0 ≤ m) (h1 : m ≤ scap v) :
    (Instr.slice t v none (some (.int .i64 m)) (some (.int .i64 m))).run P w = ((sizeOf (P.elem t)).run P w).andThen fun _ w => .ok (tk3 v m.toNat) w := by
  obtain ⟨a, n, cap, rfl, hn, _, h3⟩ := h
  simp only [scap] at h1
  have e : (m.toNat : Int) = m := Int.toNat_of_nonneg h0
  simp [Instr.slice, run_underlying ht, Instr.sliceBounds, Instr.sliceBound, asIntOf, h0, h1, e, tk3]
  cases a <;> simp [Addr.add]
/-- What is not run: a slice out of its bounds. -/
def sliceElse (P : Program) (w : World) (t : TypeId) (v : Value) (lo hi : Value) : Result Value := (Instr.slice t v (some lo) (some hi) none).run P w
@[go_sem ↓] theorem run_slice_cut {t : TypeId} {v : Value} {lo hi : Int} (h : IsSl v) (ht : P.underlying t = some (.slice (P.elem t))) :
    (Instr.slice t v (some (.int .i64 lo)) (some (.int .i64 hi)) none).run P w =
      if 0 ≤ lo ∧ lo ≤ hi ∧ hi ≤ scap v then ((sizeOf (P.elem t)).run P w).andThen fun s w => .ok (cut s v lo.toNat hi.toNat) w else sliceElse P w t v (.int .i64 lo) (.int .i64 hi) := by
  obtain ⟨a, n, cap, rfl, hn, _, h3⟩ := h
  by_cases hc : 0 ≤ lo ∧ lo ≤ hi ∧ hi ≤ (scap (.slice a n cap) : Int)
  · have hc' := hc
    obtain ⟨h0, h1, h2⟩ := hc'
    simp only [scap] at h2
    rw [if_pos hc]
    have e : (hi.toNat : Int) = hi := Int.toNat_of_nonneg (by omega)
    have h00 : 0 ≤ hi := by omega
    simp [Instr.slice, run_underlying ht, Instr.sliceBounds, Instr.sliceBound, asIntOf, h0, h1, h00, h2, e, cut]
  · rw [if_neg hc]; rfl
@[go_sem ↓] theorem run_sliceAt_any {t : TypeId} {v : Value} {lo hi mx : Option Value} (h : P.underlying t = some (.slice (P.elem t))) :
    (Instr.sliceAt t v lo hi mx).run P w = (Instr.slice t v lo hi mx).run P w := by
  simp [Instr.sliceAt, run_underlying h]
end

theorem below_drewN {B : Nat} (w : World) (k : Nat) : Below B w (w.drewN k) := ⟨rfl, rfl, rfl, Nat.le_refl _, fun _ _ => rfl⟩
/-- v reads as the list of limbs l. -/
structure NatV (w : World) (v : Value) (l : List Nat) : Prop where
  sl : IsSl v
  len : slen v = l.length
  cell : ∀ (j : Nat) (h : j < l.length), w.cell? (ptr v j) = some (.int .u32 (l[j] : Nat))
  lm : Lm l
theorem NatV.nil (w : World) : NatV w (.slice none 0 0) [] := ⟨IsSl.nil, rfl, fun j h => by simp at h, fun x h => by simp at h⟩
theorem NatV.below {w w' : World} {v : Value} {l : List Nat} (h : NatV w v l) (hb : Below w.heap.size w w') : NatV w' v l :=
  ⟨h.sl, h.len, fun j hj => by
    have hc := h.cell j hj
    have hlt := World.block_lt_of_cell? w _ hc
    rw [hb.cell hlt]; exact hc, h.lm⟩
theorem NatV.tk {w : World} {v : Value} {l : List Nat} (h : NatV w v l) (n : Nat) (hn : n ≤ l.length) : NatV w (tk v n) (l.take n) := by
  have e : (l.take n).length = n := by simp; omega
  have := h.sl.le
  have := h.len
  refine ⟨h.sl.tk (by omega), by rw [e]; exact h.sl.slen_tk n, fun j hj => ?_, fun x hx => h.lm x (List.mem_of_mem_take hx)⟩
  have := h.cell j (by omega)
  simp [this]
theorem NatV.tk3 {w : World} {v : Value} {l : List Nat} (h : NatV w v l) (n : Nat) (hn : n ≤ l.length) : NatV w (tk3 v n) (l.take n) := by
  have e : (l.take n).length = n := by simp; omega
  have := h.sl.le
  have := h.len
  refine ⟨h.sl.tk3 (by omega), by rw [e]; exact h.sl.slen_tk3 n, fun j hj => ?_, fun x hx => h.lm x (List.mem_of_mem_take hx)⟩
  have := h.cell j (by omega)
  simp [this]
theorem NatV.cut {w : World} {v : Value} {l : List Nat} (h : NatV w v l) (lo hi : Nat) (hl : lo ≤ hi) (hh : hi ≤ l.length) : NatV w (cut 1 v lo hi) ((l.drop lo).take (hi - lo)) := by
  have e : ((l.drop lo).take (hi - lo)).length = hi - lo := by simp; omega
  have := h.sl.le
  have := h.len
  refine ⟨h.sl.cut hl (by omega), by rw [e]; exact h.sl.slen_cut 1 lo hi, fun j hj => ?_, fun x hx => h.lm x (List.mem_of_mem_drop (List.mem_of_mem_take hx))⟩
  rw [ptr_cut h.sl (by omega), Nat.mul_one, h.cell (lo + j) (by omega)]
  simp
theorem NatV.lt {w : World} {v : Value} {l : List Nat} (h : NatV w v l) (j : Nat) (hj : j < l.length) : l[j] < 4294967296 := h.lm _ (List.getElem_mem hj)
end Go.Proofs.Ytoldfpkafcefnaa
