/-
  Slices that a call itself made: rows of one-cell elements, written and appended to. No program is named here.
  Ahead of it: How the values of this program read in memory: slices as abstract values, natural numbers as lists of limbs. No program is named here.
-/
import Derived.Test.YtbhkibilnmoljaaGreatQMath
import Derived.WalkKit
import Derived.WalkSpells
import Derived.WalkLawsBesides
import Derived.Deep.QuietTactic
import Derived.BigQuiet
import Derived.Lib.Hide
import Derived.Laws.AppendOwnNone
namespace Go.Proofs.YtbhkibilnmoljaaGreat
set_option linter.unusedVariables false
set_option linter.unusedSimpArgs false
open Go.RowKit

/-- The address at which a slice begins. -/
def base : Value → Addr
  | .slice (some a) _ _ => a
  | _ => ⟨0, 0, none⟩
/-- The address of a slice's cell k. -/
def ptr (v : Value) (k : Nat) : Addr := (base v).add k
theorem add_add (a : Addr) (j k : Nat) : (a.add j).add k = a.add (j + k) := by
  unfold Addr.add
  by_cases hj : j = 0 <;> by_cases hk : k = 0 <;> simp [hj, hk]
  omega
theorem ptr_add (v : Value) (j k : Nat) : (ptr v j).add k = ptr v (j + k) := add_add _ _ _
theorem ptr_block (v : Value) (k : Nat) : (ptr v k).block = (base v).block := by
  unfold ptr Addr.add; split <;> rfl

/-- A slice's length, a slice's capacity. -/
def slen : Value → Nat
  | .slice _ n _ => n
  | _ => 0
def scap : Value → Nat
  | .slice _ _ c => c
  | _ => 0
/-- v is a slice (nil, or at an address). -/
def IsSl (v : Value) : Prop :=
  ∃ a n cap, v = .slice a n cap ∧ n ≤ cap ∧ cap ≤ maxLen ∧ (a = none → cap = 0)
theorem IsSl.nil : IsSl (.slice none 0 0) := ⟨none, 0, 0, rfl, Nat.le_refl _, by simp [maxLen], fun _ => rfl⟩
theorem IsSl.le {v : Value} (h : IsSl v) : slen v ≤ scap v ∧ scap v ≤ 9223372036854775807 := by
  obtain ⟨a, n, cap, rfl, h1, h2, _⟩ := h; simp [maxLen] at h2; simp [slen, scap]; omega

/-- 'v[:n]'. -/
def tk (v : Value) (n : Nat) : Value := match v with
  | .slice a _ cap => .slice a n cap
  | v => v
/-- 'v[:n:n]'. -/
def tk3 (v : Value) (n : Nat) : Value := match v with
  | .slice a _ _ => .slice a n n
  | v => v
/-- 'v[lo:hi]' over elements of 'size' cells. -/
def cut (size : Nat) (v : Value) (lo hi : Nat) : Value := match v with
  | .slice a _ cap => .slice (if cap = lo then a else a.map (·.add (lo * size))) (hi - lo) (cap - lo)
  | v => v
theorem IsSl.tk {v : Value} {m : Nat} (h : IsSl v) (hm : m ≤ scap v) : IsSl (tk v m) := by
  obtain ⟨a, n, cap, rfl, h1, h2, h3⟩ := h; exact ⟨a, m, cap, rfl, hm, h2, h3⟩
theorem IsSl.tk3 {v : Value} {m : Nat} (h : IsSl v) (hm : m ≤ scap v) : IsSl (tk3 v m) := by
  obtain ⟨a, n, cap, rfl, h1, h2, h3⟩ := h; simp only [scap] at hm; exact ⟨a, m, m, rfl, Nat.le_refl _, by omega, fun e => by have := h3 e; omega⟩
theorem IsSl.cut {v : Value} {size lo hi : Nat} (h : IsSl v) (hl : lo ≤ hi) (hh : hi ≤ scap v) : IsSl (cut size v lo hi) := by
  obtain ⟨a, n, cap, rfl, h1, h2, h3⟩ := h
  simp only [scap] at hh
  refine ⟨_, _, cap - lo, rfl, by omega, by omega, fun e => ?_⟩
  split at e
  · omega
  · have : a = none := by cases a <;> simp_all
    have := h3 this; omega
theorem IsSl.slen_tk {v : Value} (h : IsSl v) (m : Nat) : slen (Go.Proofs.YtbhkibilnmoljaaGreat.tk v m) = m := by obtain ⟨a, n, cap, rfl, _⟩ := h; rfl
theorem IsSl.slen_tk3 {v : Value} (h : IsSl v) (m : Nat) : slen (Go.Proofs.YtbhkibilnmoljaaGreat.tk3 v m) = m := by obtain ⟨a, n, cap, rfl, _⟩ := h; rfl
theorem IsSl.scap_tk {v : Value} (h : IsSl v) (m : Nat) : scap (Go.Proofs.YtbhkibilnmoljaaGreat.tk v m) = scap v := by obtain ⟨a, n, cap, rfl, _⟩ := h; rfl
theorem IsSl.scap_tk3 {v : Value} (h : IsSl v) (m : Nat) : scap (Go.Proofs.YtbhkibilnmoljaaGreat.tk3 v m) = m := by obtain ⟨a, n, cap, rfl, _⟩ := h; rfl
theorem IsSl.slen_cut {v : Value} (h : IsSl v) (size lo hi : Nat) : slen (Go.Proofs.YtbhkibilnmoljaaGreat.cut size v lo hi) = hi - lo := by obtain ⟨a, n, cap, rfl, _⟩ := h; rfl
@[simp] theorem base_tk (v : Value) (m : Nat) : base (tk v m) = base v := by cases v <;> first | rfl | (rename_i a n c; cases a <;> rfl)
@[simp] theorem base_tk3 (v : Value) (m : Nat) : base (tk3 v m) = base v := by cases v <;> first | rfl | (rename_i a n c; cases a <;> rfl)
@[simp, go_sem] theorem ptr_tk (v : Value) (m k : Nat) : ptr (tk v m) k = ptr v k := by simp [ptr]
@[simp, go_sem] theorem ptr_tk3 (v : Value) (m k : Nat) : ptr (tk3 v m) k = ptr v k := by simp [ptr]
theorem ptr_cut {v : Value} {size lo hi k : Nat} (h : IsSl v) (hh : lo < scap v) : ptr (cut size v lo hi) k = ptr v (lo * size + k) := by
  obtain ⟨a, n, cap, rfl, h1, h2, h3⟩ := h
  simp only [scap] at hh
  cases a with
  | none => have := h3 rfl; omega
  | some a =>
    simp only [cut, ptr]
    rw [if_neg (by omega)]
    simp only [base, Option.map_some, add_add]

section
variable {P : Program} (w : World)
@[go_sem ↓] theorem run_len_sl {t ty : TypeId} {v : Value} (h : IsSl v) (ht : P.underlying t = some (.slice (P.elem t))) :
    (Builtin.len_ #[t] ty #[v]).run P w = .ok (.int .i64 (slen v)) w := by
  obtain ⟨a, n, cap, rfl, _⟩ := h
  simp [Builtin.len_, run_underlying ht, goInt, slen]
@[go_sem ↓] theorem run_index_sl {t : TypeId} {v : Value} {i : Int} (h : IsSl v) (ht : P.underlying t = some (.slice (P.elem t))) :
    (Instr.indexAt t v (.int .i64 i)).run P w =
      if 0 ≤ i ∧ i < slen v then ((sizeOf (P.elem t)).run P w).andThen fun s w => .ok (.pointer (some (ptr v (i.toNat * s)))) w
      else (boundsPanic .i64 i (slen v) .index).run P w := by
  obtain ⟨a, n, cap, rfl, hn, _, h3⟩ := h
  cases a with
  | none =>
    have := h3 rfl
    obtain rfl : n = 0 := by omega
    rw [if_neg (by simp only [slen]; omega)]
    simp [Instr.indexAt, run_underlying ht, asIntOf, slen]
  | some a =>
    by_cases hc : 0 ≤ i ∧ i < ((slen (.slice (some a) n cap) : Nat) : Int)
    · have hc' : 0 ≤ i ∧ i < (n : Int) := hc
      rw [if_pos hc]; simp [Instr.indexAt, run_underlying ht, asIntOf, hc', ptr, base]
    · have hc' : ¬ (0 ≤ i ∧ i < (n : Int)) := hc
      rw [if_neg hc]; simp [Instr.indexAt, run_underlying ht, asIntOf, hc', slen]
@[go_sem ↓] theorem run_slice_tk {t : TypeId} {v : Value} {m : Int} (h : IsSl v) (ht : P.underlying t = some (.slice (P.elem t))) (h0 : 0 ≤ m) (h1 : m ≤ scap v) :
    (Instr.slice t v none (some (.int .i64 m)) none).run P w = ((sizeOf (P.elem t)).run P w).andThen fun _ w => .ok (tk v m.toNat) w := by
  obtain ⟨a, n, cap, rfl, hn, _, h3⟩ := h
  simp only [scap] at h1
  simp [Instr.slice, run_underlying ht, Instr.sliceBounds, Instr.sliceBound, asIntOf, h0, h1, tk]
  cases a <;> simp [Addr.add]
@[go_sem ↓] theorem run_slice_tk3 {t : TypeId} {v : Value} {m : Int} (h : IsSl v) (ht : P.underlying t = some (.slice (P.elem t))) (h0 : 0 ≤ m) (h1 : m ≤ scap v) :
    (Instr.slice t v none (some (.int .i64 m)) (some (.int .i64 m))).run P w = ((sizeOf (P.elem t)).run P w).andThen fun _ w => .ok (tk3 v m.toNat) w := by
  obtain ⟨a, n, cap, rfl, hn, _, h3⟩ := h
  simp only [scap] at h1
  have e : (m.toNat : Int) = m := Int.toNat_of_nonneg h0
  simp [Instr.slice, run_underlying ht, Instr.sliceBounds, Instr.sliceBound, asIntOf, h0, h1, e, tk3]
  cases a <;> simp [Addr.add]
/-- What is not run: a slice out of its bounds. -/
def sliceElse (P : Program) (w : World) (t : TypeId) (v : Value) (lo hi : Value) : Result Value := (Instr.slice t v (some lo) (some hi) none).run P w
@[go_sem ↓] theorem run_slice_cut {t : TypeId} {v : Value} {lo hi : Int} (h : IsSl v) (ht : P.underlying t = some (.slice (P.elem t))) :
    (Instr.slice t v (some (.int .i64 lo)) (some (.int .i64 hi)) none).run P w =
      if 0 ≤ lo ∧ lo ≤ hi ∧ hi ≤ scap v then ((sizeOf (P.elem t)).run P w).andThen fun s w => .ok (cut s v lo.toNat hi.toNat) w else sliceElse P w t v (.int .i64 lo) (.int .i64 hi) := by
  obtain ⟨a, n, cap, rfl, hn, _, h3⟩ := h
  by_cases hc : 0 ≤ lo ∧ lo ≤ hi ∧ hi ≤ (scap (.slice a n cap) : Int)
  · have hc' := hc
    obtain ⟨h0, h1, h2⟩ := hc'
    simp only [scap] at h2
    rw [if_pos hc]
    have e : (hi.toNat : Int) = hi := Int.toNat_of_nonneg (by omega)
    have h00 : 0 ≤ hi := by omega
    simp [Instr.slice, run_underlying ht, Instr.sliceBounds, Instr.sliceBound, asIntOf, h0, h1, h00, h2, e, cut]
  · rw [if_neg hc]; rfl
@[go_sem ↓] theorem run_sliceAt_any {t : TypeId} {v : Value} {lo hi mx : Option Value} (h : P.underlying t = some (.slice (P.elem t))) :
    (Instr.sliceAt t v lo hi mx).run P w = (Instr.slice t v lo hi mx).run P w := by
  simp [Instr.sliceAt, run_underlying h]
end

theorem below_drewN {B : Nat} (w : World) (k : Nat) : Below B w (w.drewN k) := ⟨rfl, rfl, rfl, Nat.le_refl _, fun _ _ => rfl⟩
/-- v reads as the list of limbs l. -/
structure NatV (w : World) (v : Value) (l : List Nat) : Prop where
  sl : IsSl v
  len : slen v = l.length
  cell : ∀ (j : Nat) (h : j < l.length), w.cell? (ptr v j) = some (.int .u32 (l[j] : Nat))
  lm : Lm l
theorem NatV.nil (w : World) : NatV w (.slice none 0 0) [] := ⟨IsSl.nil, rfl, fun j h => by simp at h, fun x h => by simp at h⟩
theorem NatV.below {w w' : World} {v : Value} {l : List Nat} (h : NatV w v l) (hb : Below w.heap.size w w') : NatV w' v l :=
  ⟨h.sl, h.len, fun j hj => by
    have hc := h.cell j hj
    have hlt := World.block_lt_of_cell? w _ hc
    rw [hb.cell hlt]; exact hc, h.lm⟩
theorem NatV.tk {w : World} {v : Value} {l : List Nat} (h : NatV w v l) (n : Nat) (hn : n ≤ l.length) : NatV w (tk v n) (l.take n) := by
  have e : (l.take n).length = n := by simp; omega
  have := h.sl.le
  have := h.len
  refine ⟨h.sl.tk (by omega), by rw [e]; exact h.sl.slen_tk n, fun j hj => ?_, fun x hx => h.lm x (List.mem_of_mem_take hx)⟩
  have := h.cell j (by omega)
  simp [this]
theorem NatV.tk3 {w : World} {v : Value} {l : List Nat} (h : NatV w v l) (n : Nat) (hn : n ≤ l.length) : NatV w (tk3 v n) (l.take n) := by
  have e : (l.take n).length = n := by simp; omega
  have := h.sl.le
  have := h.len
  refine ⟨h.sl.tk3 (by omega), by rw [e]; exact h.sl.slen_tk3 n, fun j hj => ?_, fun x hx => h.lm x (List.mem_of_mem_take hx)⟩
  have := h.cell j (by omega)
  simp [this]
theorem NatV.cut {w : World} {v : Value} {l : List Nat} (h : NatV w v l) (lo hi : Nat) (hl : lo ≤ hi) (hh : hi ≤ l.length) : NatV w (cut 1 v lo hi) ((l.drop lo).take (hi - lo)) := by
  have e : ((l.drop lo).take (hi - lo)).length = hi - lo := by simp; omega
  have := h.sl.le
  have := h.len
  refine ⟨h.sl.cut hl (by omega), by rw [e]; exact h.sl.slen_cut 1 lo hi, fun j hj => ?_, fun x hx => h.lm x (List.mem_of_mem_drop (List.mem_of_mem_take hx))⟩
  rw [ptr_cut h.sl (by omega), Nat.mul_one, h.cell (lo + j) (by omega)]
  simp
theorem NatV.lt {w : World} {v : Value} {l : List Nat} (h : NatV w v l) (j : Nat) (hj : j < l.length) : l[j] < 4294967296 := h.lm _ (List.getElem_mem hj)
end Go.Proofs.YtbhkibilnmoljaaGreat
namespace Go.Proofs.YtbhkibilnmoljaaGreat
set_option linter.unusedVariables false
set_option linter.unusedSimpArgs false
open Go.RowKit

/-- v is a slice that the call made (nil, or at the head of a row in a block from B on), its elements are es, one cell each. -/
def OwnE (w : World) (e : TypeId) (B : Nat) (v : Value) (es : List Value) : Prop := w.ownsRow B e 1 v es.length es
section
variable {w : World} {e : TypeId} {B : Nat} {v : Value} {es : List Value}
theorem OwnE.nil (w : World) (e : TypeId) (B : Nat) : OwnE w e B (.slice none 0 0) [] := World.ownsRow_nil w B e 1
theorem OwnE.sl (h : OwnE w e B v es) : IsSl v := by
  rcases h.2 with ⟨rfl, h0⟩ | ⟨g, cap, cur, rfl, hb, hg, hn, hm, hs, ht⟩
  · exact IsSl.nil
  · exact ⟨_, _, _, rfl, hn, hm, fun e => by cases e⟩
theorem OwnE.len (h : OwnE w e B v es) : slen v = es.length := by
  rcases h.2 with ⟨rfl, h0⟩ | ⟨g, cap, cur, rfl, hb, hg, hn, hm, hs, ht⟩
  · rw [h0]; rfl
  · rfl
theorem OwnE.cell (h : OwnE w e B v es) (j : Nat) (hj : j < es.length) : w.cell? (ptr v j) = some es[j] := by
  rcases h.2 with ⟨rfl, h0⟩ | ⟨g, cap, cur, rfl, hb, hg, hn, hm, hs, ht⟩
  · omega
  · have := World.ownsRow.cellAt h j (by omega)
    simp only [ptr, base, Addr.add_lit, Nat.zero_add]
    rw [this, List.getElem?_eq_getElem hj]
theorem OwnE.frozen (h : OwnE w e B v es) (j : Nat) (hj : j < es.length) : w.frozen? (ptr v j) = false := by
  rcases h.2 with ⟨rfl, h0⟩ | ⟨g, cap, cur, rfl, hb, hg, hn, hm, hs, ht⟩
  · omega
  · have := World.ownsRow.frozenAt h j
    simpa only [ptr, base, Addr.add_lit, Nat.zero_add] using this
theorem OwnE.block (h : OwnE w e B v es) (hj : 0 < es.length) : B ≤ (base v).block ∧ (base v).block < w.heap.size := by
  rcases h.2 with ⟨rfl, h0⟩ | ⟨g, cap, cur, rfl, hb, hg, hn, hm, hs, ht⟩
  · omega
  · exact ⟨hb, (Array.getElem?_eq_some_iff.1 hg).1⟩
theorem below_of_grown {w w' : World} {row : Option Nat} {B : Nat} (hg : w.grownBy w' row) (hB : B ≤ w.heap.size) (hr : ∀ k, row = some k → B ≤ k) : Below B w w' :=
  (Below.refl B w).grown hg hB hr
theorem grown_of_below {w w' : World} (h : Below w.heap.size w w') : w.grownBy w' none :=
  ⟨h.os, h.tape, h.output, h.size, fun k hk _ => h.block k hk⟩
theorem OwnE.below {w' : World} (h : OwnE w e B v es) (hb : Below w.heap.size w w') : OwnE w' e B v es :=
  World.ownsRow.kept h (grown_of_below hb) (by cases hv : v.ownBlock <;> simp)
theorem OwnE.alloc (h : OwnE w e B v es) (o : Obj) : OwnE (w.alloc o) e B v es := World.ownsRow.alloc h o
theorem OwnE.set (h : OwnE w e B v es) (j : Nat) (hj : j < es.length) (u : Value) : OwnE (w.setCell (ptr v j) u) e B v (es.set j u) ∧ Below B w (w.setCell (ptr v j) u) := by
  have hbl := h.block (by omega)
  rcases h.2 with ⟨rfl, h0⟩ | ⟨g, cap, cur, rfl, hb, hg, hn, hm, hs, ht⟩
  · omega
  · have hs := World.ownsRow.stored h j u
    simp only [ptr, base, Addr.add_lit, Nat.zero_add]
    refine ⟨?_, below_of_grown hs.2 (by simp only [base] at hbl; omega) (fun k hk => by simp at hk; omega)⟩
    have := hs.1
    unfold OwnE
    rw [List.length_set]
    exact this
/-- Another row is written: its block is another. -/
theorem OwnE.other (h : OwnE w e B v es) (p : Addr) (u : Value) (hp : p.block ≠ (base v).block) : OwnE (w.setCell p u) e B v es := by
  refine ⟨h.1, ?_⟩
  rcases h.2 with ⟨rfl, h0⟩ | ⟨g, cap, cur, rfl, hb, hg, hn, hm, hs, ht⟩
  · exact .inl ⟨rfl, h0⟩
  · refine .inr ⟨g, cap, cur, rfl, hb, ?_, hn, hm, hs, ht⟩
    simp only [base] at hp
    rw [Below.heap_setCell _ _ _ _ (fun e => hp e.symm)]; exact hg
theorem OwnE.mono {B' : Nat} (h : OwnE w e B v es) (hB : B' ≤ B) : OwnE w e B' v es := by
  refine ⟨h.1, ?_⟩
  rcases h.2 with ⟨rfl, h0⟩ | ⟨g, cap, cur, rfl, hb, rest⟩
  · exact .inl ⟨rfl, h0⟩
  · exact .inr ⟨g, cap, cur, rfl, by omega, rest⟩
end

/-- make([]T, n), T of one cell. -/
theorem wpList_make_E {P : Program} (w : World) {ops : Array Oper} {rest : List Oper} {o : Oper} {a : Act} {Q : Exit → Act → World → Prop}
    (hg : o.guard = none) (l c : Operand) (t : TypeId) (hop : o.op = Op.makeSlice t l c)
    (B : Nat) (e : TypeId) (i : TypeInfo) (z : Value) (h1 : P.underlying t = some (.slice e)) (h2 : P.info? e = some i) (h3 : i.zero = some z) (h4 : i.size = 1) (hz1 : z.cells = #[z])
    (n : Nat) (hl : a.eval l = .int .i64 n) (hc : a.eval c = .int .i64 n) (b2 : i.bytes * n ≤ 281474976710656) (b3 : n ≤ maxLen) (b4 : B ≤ w.heap.size)
    (hK : ∀ v w', OwnE w' e B v (List.replicate n z) → Below w.heap.size w w' → w.heap.size ≤ (base v).block → wpList P ops Q rest (a.put o.dst v) w') :
    wpList P ops Q (o :: rest) a w := by
  refine wpList_make_full w hg l c t hop B e i z 1 h1 h2 h3 h4 .i64 .i64 n n n hl hc rfl rfl b2 b3 b4 ?_
  intro w' hown hgr
  refine hK _ w' ?_ (below_of_grown hgr (Nat.le_refl _) (fun k hk => by cases hk)) (by simp [base])
  have : (madeCells z.cells (n * 1)).toList = List.replicate n z := by rw [hz1, Nat.mul_one, toList_madeCells_one]
  rw [this] at hown
  unfold OwnE
  rw [List.length_replicate]
  exact hown

/-- append(s, x...), s the call's own, x any slice that reads as news. -/
theorem run_append_E {P : Program} (w : World) (B : Nat) (t ty e : TypeId) (i : TypeInfo) (z : Value) (bytes : Nat) (ht : P.underlying t = some (.slice e)) (hi : P.info? e = some i) (hz : i.zero = some z)
    (hsize : i.size = 1) (hby : i.bytes = bytes) (hzs : z.cells.size = 1)
    (v : Value) (es : List Value) (hown : OwnE w e B v es) (x : Value) (hx : IsSl x) (news : List Value) (hlen : slen x = news.length)
    (hnews : ∀ j (hj : j < news.length), w.cell? (ptr x j) = some news[j]) (h1 : ∀ u ∈ news, u.oneCell' = true)
    (h63 : es.length + news.length ≤ maxLen) (hbytes : (es.length + news.length) * bytes ≤ 140737488355328) (hbase : B ≤ w.heap.size) :
    ∃ v' w', (Builtin.append_ #[t, t] ty #[v, x]).run P w = .ok v' w' ∧ OwnE w' e B v' (es ++ news) ∧ w.grownBy w' v.ownBlock := by
  obtain ⟨a, n, cap, rfl, hnc, hcm, hnil⟩ := hx
  simp only [slen] at hlen
  subst hlen
  cases a with
  | none =>
    have := hnil rfl
    obtain rfl : cap = 0 := this
    have hn : news = [] := List.eq_nil_of_length_eq_zero (by omega)
    subst hn
    refine ⟨v, w, run_append_owned_none w B t ty e i 1 ht hi v es.length es hown, ?_, ⟨rfl, rfl, rfl, Nat.le_refl _, fun _ _ _ => rfl⟩⟩
    rw [List.append_nil]; exact hown
  | some a =>
    obtain ⟨v', w', h2, h3, h4, _⟩ := run_append_own (P := P) w B t ty e i z 1 bytes ht hi hz hsize hby hzs (by omega) v es.length es hown a news.length cap news (by omega)
      (fun j u hu => by
        have hj : j < news.length := (List.getElem?_eq_some_iff.1 hu).1
        have := hnews j hj
        simp only [ptr, base] at this
        rw [this]; rw [List.getElem?_eq_getElem hj] at hu; exact hu) h1 h63 hbytes hbase
    refine ⟨v', w', h2, ?_, h4⟩
    unfold OwnE
    rw [List.length_append]
    exact h3
theorem OwnE.ownBlock {w : World} {e : TypeId} {B : Nat} {v : Value} {es : List Value} (h : OwnE w e B v es) : ∀ k, v.ownBlock = some k → B ≤ k := fun k hk => (World.ownsRow.lt h k hk).1
theorem wpList_append_E {P : Program} (w : World) {ops : Array Oper} {rest : List Oper} {o : Oper} {a : Act} {Q : Exit → Act → World → Prop} (hgd : o.guard = none) (s x : Operand) (t : TypeId)
    (ho : o.op = .call { callee := .builtin .append, args := #[s, x], argTypes := #[t, t] })
    (B : Nat) (e : TypeId) (i : TypeInfo) (z : Value) (bytes : Nat) (ht : P.underlying t = some (.slice e)) (hi : P.info? e = some i) (hz : i.zero = some z)
    (hsize : i.size = 1) (hby : i.bytes = bytes) (hzs : z.cells.size = 1)
    (v : Value) (es : List Value) (hs : a.eval s = v) (hown : OwnE w e B v es) (xv : Value) (hxe : a.eval x = xv) (hx : IsSl xv) (news : List Value) (hlen : slen xv = news.length)
    (hnews : ∀ j (hj : j < news.length), w.cell? (ptr xv j) = some news[j]) (h1 : ∀ u ∈ news, u.oneCell' = true)
    (h63 : es.length + news.length ≤ maxLen) (hbytes : (es.length + news.length) * bytes ≤ 140737488355328) (hbase : B ≤ w.heap.size)
    (h : ∀ v' w', OwnE w' e B v' (es ++ news) → w.grownBy w' v.ownBlock → Below B w w' → wpList P ops Q rest (a.put o.dst v') w') : wpList P ops Q (o :: rest) a w := by
  refine wpList_plain hgd fun K hK => ?_
  obtain ⟨v', w', hr, h2, h3⟩ := run_append_E (P := P) w B t o.type e i z bytes ht hi hz hsize hby hzs v es hown xv hx news hlen hnews h1 h63 hbytes hbase
  unfold Oper.wp execOp
  simp only [ho, resolve, invoke, builtin, Sem.run_bind, Sem.run_pure, Result.andThen_ok, List.map_toArray, List.map_cons, List.map_nil, hs, hxe, hr]
  exact hK _ _ (h v' w' h2 h3 (below_of_grown h3 hbase hown.ownBlock))
/-- append(s, u), one element: it lies in a block of its own, just made. -/
theorem wpList_append1_E {P : Program} (w0 : World) {ops : Array Oper} {rest : List Oper} {o : Oper} {a : Act} {Q : Exit → Act → World → Prop} (hgd : o.guard = none) (s x : Operand) (t : TypeId)
    (ho : o.op = .call { callee := .builtin .append, args := #[s, x], argTypes := #[t, t] })
    (B : Nat) (e e' : TypeId) (i : TypeInfo) (z : Value) (bytes : Nat) (ht : P.underlying t = some (.slice e)) (hi : P.info? e = some i) (hz : i.zero = some z)
    (hsize : i.size = 1) (hby : i.bytes = bytes) (hzs : z.cells.size = 1)
    (v : Value) (es : List Value) (hs : a.eval s = v) (hown : OwnE w0 e B v es) (u : Value) (hxe : a.eval x = .slice (some ⟨w0.heap.size, 0, none⟩) 1 1) (h1 : u.oneCell' = true)
    (h63 : es.length + 1 ≤ maxLen) (hbytes : (es.length + 1) * bytes ≤ 140737488355328) (hbase : B ≤ w0.heap.size)
    (h : ∀ v' w', OwnE w' e B v' (es ++ [u]) → Below B w0 w' → wpList P ops Q rest (a.put o.dst v') w') : wpList P ops Q (o :: rest) a (w0.alloc (.cells #[u] e')) := by
  refine wpList_append_E (w0.alloc (.cells #[u] e')) hgd s x t ho B e i z bytes ht hi hz hsize hby hzs v es hs (hown.alloc _) _ hxe ⟨_, 1, 1, rfl, Nat.le_refl _, by simp [maxLen], fun e => by cases e⟩ [u] rfl
    (fun j hj => ?_) (fun u' hu' => by simp at hu'; subst hu'; exact h1) h63 hbytes (by simp; omega) (fun v' w' h2 _ h3 => h v' w' h2 (((Below.refl B w0).alloc hbase _).trans h3))
  have hj0 : j = 0 := by simp at hj; omega
  subst hj0
  simp [ptr, base, Addr.add]

/-- A number of 32 bits as a cell. -/
def u32V (x : Nat) : Value := .int .u32 (x : Nat)
/-- v is the call's own list of limbs. -/
structure OwnN (w : World) (e : TypeId) (B : Nat) (v : Value) (o : List Nat) : Prop where
  own : OwnE w e B v (o.map u32V)
  lm : Lm o
section
variable {w : World} {e : TypeId} {B : Nat} {v : Value} {o : List Nat}
theorem OwnN.nil (w : World) (e : TypeId) (B : Nat) : OwnN w e B (.slice none 0 0) [] := ⟨OwnE.nil w e B, fun x h => by simp at h⟩
theorem OwnN.nat (h : OwnN w e B v o) : NatV w v o :=
  ⟨h.own.sl, by rw [h.own.len, List.length_map], fun j hj => by rw [h.own.cell j (by simpa using hj)]; simp [u32V], h.lm⟩
theorem OwnN.below {w' : World} (h : OwnN w e B v o) (hb : Below w.heap.size w w') : OwnN w' e B v o := ⟨h.own.below hb, h.lm⟩
theorem OwnN.frozen (h : OwnN w e B v o) (j : Nat) (hj : j < o.length) : w.frozen? (ptr v j) = false := h.own.frozen j (by simpa using hj)
theorem OwnN.block (h : OwnN w e B v o) (hj : 0 < o.length) : B ≤ (base v).block ∧ (base v).block < w.heap.size := h.own.block (by simpa using hj)
theorem Lm.set {o : List Nat} (h : Lm o) (j x : Nat) (hx : x < 4294967296) : Lm (o.set j x) := fun y hy => by
  rcases List.mem_or_eq_of_mem_set hy with h' | h'
  · exact h y h'
  · omega
theorem Lm.append {o p : List Nat} (h : Lm o) (h' : Lm p) : Lm (o ++ p) := fun y hy => (List.mem_append.1 hy).elim (h y) (h' y)
theorem Lm.one {x : Nat} (h : x < 4294967296) : Lm [x] := fun y hy => by simp at hy; omega
theorem Lm.take {o : List Nat} (h : Lm o) (k : Nat) : Lm (o.take k) := fun y hy => h y (List.mem_of_mem_take hy)
theorem Lm.drop {o : List Nat} (h : Lm o) (k : Nat) : Lm (o.drop k) := fun y hy => h y (List.mem_of_mem_drop hy)
theorem Lm.replicate (n : Nat) : Lm (List.replicate n 0) := fun y hy => by have := List.eq_of_mem_replicate hy; omega
theorem OwnN.set (h : OwnN w e B v o) (j : Nat) (hj : j < o.length) (x : Nat) (hx : x < 4294967296) :
    OwnN (w.setCell (ptr v j) (.int .u32 (x : Nat))) e B v (o.set j x) ∧ Below B w (w.setCell (ptr v j) (.int .u32 (x : Nat))) := by
  have := h.own.set j (by simpa using hj) (u32V x)
  refine ⟨⟨?_, h.lm.set j x hx⟩, this.2⟩
  rw [List.map_set]; exact this.1
end
/-- append(s, x...), s the call's own list of limbs, x a list of limbs. -/
theorem append_nat {P : Program} (t e : TypeId) (i : TypeInfo) (ht : P.underlying t = some (.slice e)) (hi : P.info? e = some i) (hz : i.zero = some (.int .u32 0))
    (hsize : i.size = 1) (hby : i.bytes = 4) (w : World) {ops : Array Oper} {rest : List Oper} {o : Oper} {a : Act} {Q : Exit → Act → World → Prop} (hgd : o.guard = none) (s x : Operand)
    (ho : o.op = .call { callee := .builtin .append, args := #[s, x], argTypes := #[t, t] }) (B : Nat)
    (v : Value) (es : List Nat) (hs : a.eval s = v) (hown : OwnN w e B v es) (xv : Value) (hxe : a.eval x = xv) (l : List Nat) (hx : NatV w xv l) (hb : es.length + l.length ≤ 35184372088832) (hbase : B ≤ w.heap.size)
    (h : ∀ v' w', OwnN w' e B v' (es ++ l) → w.grownBy w' v.ownBlock → Below B w w' → wpList P ops Q rest (a.put o.dst v') w') : wpList P ops Q (o :: rest) a w := by
  refine wpList_append_E w hgd s x t ho B e i (.int .u32 0) 4 ht hi hz hsize hby rfl v (es.map u32V) hs hown.own xv hxe hx.sl (l.map u32V) (by rw [hx.len, List.length_map])
    (fun j hj => by rw [hx.cell j (by simpa using hj)]; simp [u32V]) (fun u hu => by obtain ⟨x, _, rfl⟩ := List.mem_map.1 hu; rfl)
    (by simp [maxLen]; omega) (by simp; omega) hbase ?_
  intro v' w' h2 h3 h4
  exact h v' w' ⟨by rw [List.map_append]; exact h2, hown.lm.append hx.lm⟩ h3 h4
/-- append(s, u), s the call's own list of limbs. -/
theorem append1_nat {P : Program} (t e : TypeId) (i : TypeInfo) (ht : P.underlying t = some (.slice e)) (hi : P.info? e = some i) (hz : i.zero = some (.int .u32 0))
    (hsize : i.size = 1) (hby : i.bytes = 4) (w0 : World) {ops : Array Oper} {rest : List Oper} {o : Oper} {a : Act} {Q : Exit → Act → World → Prop} (hgd : o.guard = none) (s x : Operand)
    (ho : o.op = .call { callee := .builtin .append, args := #[s, x], argTypes := #[t, t] }) (B : Nat) (e' : TypeId)
    (v : Value) (es : List Nat) (hs : a.eval s = v) (hown : OwnN w0 e B v es) (u : Int) (y : Nat) (hu : u = y) (hy : y < 4294967296) (hxe : a.eval x = .slice (some ⟨w0.heap.size, 0, none⟩) 1 1) (hb : es.length + 1 ≤ 35184372088832) (hbase : B ≤ w0.heap.size)
    (h : ∀ v' w', OwnN w' e B v' (es ++ [y]) → Below B w0 w' → wpList P ops Q rest (a.put o.dst v') w') : wpList P ops Q (o :: rest) a (w0.alloc (.cells #[.int .u32 u] e')) := by
  subst hu
  refine wpList_append1_E w0 hgd s x t ho B e e' i (.int .u32 0) 4 ht hi hz hsize hby rfl v (es.map u32V) hs hown.own (u32V y) hxe rfl (by simp [maxLen]; omega) (by simp; omega) hbase ?_
  intro v' w' h2 h4
  exact h v' w' ⟨by rw [List.map_append]; exact h2, hown.lm.append (Lm.one hy)⟩ h4
/-- make(api.Nat, n). -/
theorem make_nat {P : Program} (t e : TypeId) (i : TypeInfo) (h1 : P.underlying t = some (.slice e)) (h2 : P.info? e = some i) (h3 : i.zero = some (.int .u32 0)) (h4 : i.size = 1) (h5 : i.bytes = 4)
    (w : World) {ops : Array Oper} {rest : List Oper} {o : Oper} {a : Act} {Q : Exit → Act → World → Prop} (hg : o.guard = none) (l c : Operand) (hop : o.op = Op.makeSlice t l c)
    (B : Nat) (u : Int) (n : Nat) (hu : u = n) (hl : a.eval l = .int .i64 u) (hc : a.eval c = .int .i64 u) (b2 : n ≤ 35184372088832) (b4 : B ≤ w.heap.size)
    (hK : ∀ v w', OwnN w' e B v (List.replicate n 0) → Below w.heap.size w w' → w.heap.size ≤ (base v).block → wpList P ops Q rest (a.put o.dst v) w') :
    wpList P ops Q (o :: rest) a w := by
  subst hu
  refine wpList_make_E w hg l c t hop B e i (.int .u32 0) h1 h2 h3 h4 rfl n hl hc (by rw [h5]; omega) (by simp [maxLen]; omega) b4 ?_
  intro v w' a1 a2 a3
  exact hK v w' ⟨by rw [List.map_replicate]; exact a1, Lm.replicate n⟩ a2 a3
end Go.Proofs.YtbhkibilnmoljaaGreat
