/-
  Small canonical chains; a chain with all rates multiplied. No program is walked here.
-/
import Derived.Test.YtlpdkbmmbdfoiaaKRb5
import Derived.Test.YtlpdkbmmbdfoiaaKGn
import Derived.Test.YtlpdkbmmbdfoiaaKMath12
import Derived.Test.YtlpdkbmmbdfoiaaKGw8
import Derived.Test.YtlpdkbmmbdfoiaaKOri
import Derived.RegionTactic
import Derived.ChangeAlike
set_option linter.unusedVariables false
set_option linter.unusedSimpArgs false
namespace Go.Proofs.Ytlpdkbmmbdfoiaa
open Go.RowKit
structure TapeAt (w : World) (b : Nat) (l : List Nat) (at' : Nat) : Prop where
 lt : b < w.heap.size
 ex : ∃ v, w.cell? ⟨b, 0, none⟩ = some v ∧ CellsV w v (l.map fun x : Nat => Value.int .u8 (x : Nat))
 c1 : w.cell? ⟨b, 1, none⟩ = some (.int .i64 (at' : Nat))
 f1 : w.frozen? ⟨b, 1, none⟩ = false
 len : l.length ≤ 400
 le : at' ≤ 400
 byte : ∀ x ∈ l, x < 256
def Ticks (b : Nat) (w w' : World) : Prop := (∃ k, w' = w.drewN k) ∨ ∃ k k' a, w' = ((w.drewN k).setCell ⟨b, 1, none⟩ (.int .i64 a)).drewN k'
def RNext (w0 : World) (b : Nat) (l : List Nat) (n : Nat) (e : Ending) (w : World) : Prop := ∃ x a : Nat, e = .returned (.int .i64 (x : Nat)) ∧ x < n ∧ TapeAt w b l a ∧ Ticks b w0 w
theorem TapeAt.drawn {w : World} {b : Nat} {l : List Nat} {a : Nat} (h : TapeAt w b l a) (k : Nat) : TapeAt (w.drewN k) b l a := by
 obtain ⟨lt, ⟨v, e1, e2⟩, c1, f1, h1, h2, h3⟩ := h
 have hb := below_drewN (B := w.heap.size) w k
 exact ⟨Nat.lt_of_lt_of_le lt hb.size, ⟨v, cell_below hb e1, e2.below hb⟩, cell_below hb c1, by rw [hb.frozen lt]; exact f1, h1, h2, h3⟩
set_option maxHeartbeats 800000 in
theorem next_zero (b : Nat) (l : List Nat) (a n : Nat) (w : World) (h : TapeAt w b l a) (hn : 1 ≤ n) (hn2 : n ≤ 65536) (hz : l.length ≤ a ∨ n < 2) :
 Calls Try.prog 36 #[.pointer (some ⟨b, 0, none⟩), .int .i64 n] w (RNext w b l n) := by
 obtain ⟨v, e1, e2⟩ := h.ex
 have c1 := h.c1
 have f1 := h.f1
 have sv := CellsV.sl e2
 have lv : slen v = l.length := by have := CellsV.len e2; simpa using this
 have hll := h.len
 have hle := h.le
 by_cases h1 : l.length ≤ a
 ·have hd : decide (((l.length : Nat) : Int) ≤ (a : Nat)) = true := decide_eq_true (by omega)
  go_enter Try.func36, Try.ntmps36
  go_wp2
  go_quiet (fail)
  go_wp2
  go_ret
  exact ⟨0, a, rfl, hn, h.drawn _, Or.inl ⟨_, rfl⟩⟩
 ·have hd : decide (((l.length : Nat) : Int) ≤ (a : Nat)) = false := decide_eq_false (by omega)
  have h2 : n < 2 := hz.resolve_left h1
  have hd2 : decide ((n : Int) < 2) = true := decide_eq_true (by omega)
  go_enter Try.func36, Try.ntmps36
  go_wp2
  go_quiet (fail)
  go_wp2
  go_ret
  exact ⟨0, a, rfl, hn, h.drawn _, Or.inl ⟨_, rfl⟩⟩
theorem cell_tick {w : World} {b : Nat} {a0 : Int} {p : Addr} {x : Value} (hc : w.cell? ⟨b, 1, none⟩ = some (.int .i64 a0)) (hp : w.cell? p = some x) (hx : ∀ z, x ≠ .int .i64 z) (u : Value) : (w.setCell ⟨b, 1, none⟩ u).cell? p = some x := by
 rw [World.cell?_setCell_other]
 ·exact hp
 ·intro e
  rw [← e, hc] at hp
  injection hp with hp
  exact hx _ hp.symm
theorem TapeAt.tick {w : World} {b : Nat} {l : List Nat} {a : Nat} (h : TapeAt w b l a) (a' : Nat) (ha : a' ≤ 400) : TapeAt (w.setCell ⟨b, 1, none⟩ (.int .i64 (a' : Nat))) b l a' := by
 obtain ⟨lt, ⟨v, e1, e2⟩, c1, f1, h1, h2, h3⟩ := h
 refine ⟨by simpa [World.setCell] using lt, ⟨v, ?_, e2.sl, e2.len, fun j hj => cell_tick c1 (e2.cell j hj) (fun z => by simp) _⟩, ?_, ?_, h1, ha, h3⟩
 ·rw [World.cell?_setCell_other _ _ _ _ (by simp)]; exact e1
 ·exact World.cell?_setCell_same _ _ _ c1
 ·go_simp
set_option maxHeartbeats 800000 in
theorem next_more (b : Nat) (l : List Nat) (a n : Nat) (w : World) (h : TapeAt w b l a) (hn2 : n ≤ 65536) (h1 : a < l.length) (h2 : 2 ≤ n) :
 Calls Try.prog 36 #[.pointer (some ⟨b, 0, none⟩), .int .i64 n] w (RNext w b l n) := by
 obtain ⟨v, e1, e2⟩ := h.ex
 have c1 := h.c1
 have f1 := h.f1
 have sv := CellsV.sl e2
 have lv : slen v = l.length := by have := CellsV.len e2; simpa using this
 have hll := h.len
 have hd : decide (((l.length : Nat) : Int) ≤ (a : Nat)) = false := decide_eq_false (by omega)
 have hd2 : decide ((n : Int) < 2) = false := decide_eq_false (by omega)
 have HT := zH h
 go_enter Try.func36, Try.ntmps36
 go_wp2
 go_quiet (fail)
 have hT1 := HT.out.drawn nq
 obtain ⟨v2, e11, e12⟩ := hT1.ex
 have c2 := hT1.c1
 have f2 := hT1.f1
 clear hd hd2 c1 f1
 go_wp2
 have hT2 : TapeAt ((w.drewN nq).setCell ⟨b, 1, none⟩ (.int .i64 ((a : Int) + 1))) b l (a + 1) := by
  have := hT1.tick (a + 1) (by omega)
  rwa [show (((a + 1 : Nat)) : Int) = (a : Int) + 1 from by omega] at this
 obtain ⟨v3, e13, e14⟩ := hT2.ex
 have c3 := hT2.c1
 have s3 := CellsV.sl e14
 have l3 : slen v3 = l.length := by have := CellsV.len e14; simpa using this
 have hx := e14.cell a (by simpa using h1)
 rw [List.getElem_map] at hx
 have hxb := h.byte l[a] (List.getElem_mem h1)
 have HTK : Hid (∀ k, Ticks b w (((w.drewN nq).setCell ⟨b, 1, none⟩ (.int .i64 ((a : Int) + 1))).drewN k)) := zH (fun k => Or.inr ⟨_, _, _, rfl⟩)
 generalize l[a]'h1 = x at *
 generalize (w.drewN nq).setCell ⟨b, 1, none⟩ (.int .i64 ((a : Int) + 1)) = W2 at *
 have i1 : IntKind.i64.wrap ((((a + 1 : Nat)) : Int) - 1) = (a : Int) := by rw [IntWalk.i64_in _ (by omega)]; omega
 have i2 : (0 : Int) ≤ (a : Int) := by omega
 have i3 : (a : Int) < (l.length : Nat) := by omega
 have i4 : Int.tmod (x : Int) (n : Int) = ((x % n : Nat) : Int) := by rw [Int.tmod_eq_emod_of_nonneg (by omega)]; omega
 go_quiet (fail)
 go_wp2
 go_ret
 exact ⟨x % n, a + 1, by first | rfl | (congr 2), Nat.mod_lt _ (by omega), hT2.drawn _, HTK.out _⟩
theorem next_any (b : Nat) (l : List Nat) (a n : Nat) (w : World) (h : TapeAt w b l a) (hn : 1 ≤ n) (hn2 : n ≤ 65536) :
 Calls Try.prog 36 #[.pointer (some ⟨b, 0, none⟩), .int .i64 n] w (RNext w b l n) := by
 rcases Nat.lt_or_ge a l.length with h1 | h1
 ·rcases Nat.lt_or_ge n 2 with h2 | h2
  ·exact next_zero b l a n w h hn hn2 (Or.inr h2)
  ·exact next_more b l a n w h hn2 h1 h2
 ·exact next_zero b l a n w h hn hn2 (Or.inl h1)
theorem Ticks.cell {b : Nat} {w w' : World} (h : Ticks b w w') {a0 : Int} (hc : w.cell? ⟨b, 1, none⟩ = some (.int .i64 a0)) {p : Addr} {x : Value} (hp : w.cell? p = some x) (hx : ∀ z, x ≠ .int .i64 z) : w'.cell? p = some x := by
 rcases h with ⟨k, rfl⟩ | ⟨k, k', a, rfl⟩
 ·exact cell_below (below_drewN w k) hp
 ·refine cell_below (below_drewN _ k') ?_
  exact cell_tick (cell_below (below_drewN w k) hc) (cell_below (below_drewN w k) hp) hx _
theorem Ticks.size {b : Nat} {w w' : World} (h : Ticks b w w') : w.heap.size ≤ w'.heap.size := by
 rcases h with ⟨k, rfl⟩ | ⟨k, k', a, rfl⟩
 ·exact (below_drewN (B := w.heap.size) w k).size
 ·have h1 := (below_drewN (B := w.heap.size) w k).size
  have h2 := (below_drewN (B := w.heap.size) ((w.drewN k).setCell ⟨b, 1, none⟩ (.int .i64 a)) k').size
  have h3 : ((w.drewN k).setCell ⟨b, 1, none⟩ (.int .i64 a)).heap.size = (w.drewN k).heap.size := by simp [World.setCell]
  omega
theorem Ticks.below {b B : Nat} {w w' : World} (h : Ticks b w w') (hB : B ≤ b) (hs : B ≤ w.heap.size) : Below B w w' := by
 rcases h with ⟨k, rfl⟩ | ⟨k, k', a, rfl⟩
 ·exact below_drewN w k
 ·exact ((below_drewN w k).setCell (p := ⟨b, 1, none⟩) hB _).trans (below_drewN _ k')
theorem NatV.tick {b : Nat} {w w' : World} {l0 : List Nat} {a : Nat} (ht : TapeAt w b l0 a) (h : Ticks b w w') {v : Value} {l : List Nat} (hv : NatV w v l) : NatV w' v l :=
 ⟨hv.sl, hv.len, fun j hj => h.cell ht.c1 (hv.cell j hj) (fun z => by simp), hv.lm⟩
theorem NatC.tick {b : Nat} {w w' : World} {l0 : List Nat} {a : Nat} (ht : TapeAt w b l0 a) (h : Ticks b w w') {v : Value} {n : Nat} (hv : NatC w v n) : NatC w' v n := ⟨hv.v.tick ht h, hv.2⟩
theorem FracC.tick {b : Nat} {w w' : World} {l0 : List Nat} {a : Nat} (ht : TapeAt w b l0 a) (h : Ticks b w w') {v : Value} {q : Rat} (hv : FracC w v q) : FracC w' v q := by
 obtain ⟨x, y, rfl, h1, h2⟩ := hv; exact ⟨x, y, rfl, h1.tick ht h, h2.tick ht h⟩
theorem Try.infoU8 : (Try.prog.info? 5).map (fun i => (i.zero, i.size, i.bytes)) = some (some (.int .u8 0), 1, 1) := by kernel_rfl
def bytes (l : List Nat) : List Value := l.map fun x : Nat => Value.int .u8 (x : Nat)
theorem CellsV.tk {w : World} {v : Value} {l : List Value} (h : CellsV w v l) (n : Nat) (hn : n ≤ l.length) : CellsV w (tk v n) (l.take n) := by
 have e : (l.take n).length = n := by rw [List.length_take]; omega
 have h1 := h.sl.le
 have h2 := h.len
 refine ⟨h.sl.tk (by omega), by rw [e]; exact h.sl.slen_tk n, fun j hj => ?_⟩
 rw [ptr_tk, List.getElem_take]
 exact h.cell j (by omega)
def RTape (w0 : World) (l : List Nat) (e : Ending) (w : World) : Prop := ∃ b, e = .returned (.pointer (some ⟨b, 0, none⟩)) ∧ w0.heap.size ≤ b ∧ TapeAt w b l 0 ∧ Below w0.heap.size w0 w
theorem tape_new (w w1 : World) (v : Value) (l : List Nat) (t e : TypeId) (hl : l.length ≤ 400) (hb : ∀ x ∈ l, x < 256) (h : zub w1 e w.heap.size v (bytes l)) (hbel : Below w.heap.size w w1) :
 RTape w l (.returned (.pointer (some ⟨w1.heap.size, 0, none⟩))) (w1.alloc (.cells #[v, .int .i64 0] t)) := by
 refine ⟨_, rfl, hbel.size, ⟨by simp, ⟨v, by simp, ?_⟩, by simp, by simp, hl, by omega, hb⟩, hbel.alloc hbel.size _⟩
 exact ⟨h.sl, by rw [h.len]; rfl, fun j hj => (h.alloc _).cell j hj⟩
theorem append_u8 {P : Program} (t e : TypeId) (i : TypeInfo) (ht : P.underlying t = some (.slice e)) (hi : P.info? e = some i) (hz : i.zero = some (.int .u8 0))
 (hsize : i.size = 1) (hby : i.bytes = 1) (w : World) {ops : Array Oper} {rest : List Oper} {o : Oper} {a : Act} {Q : Exit → Act → World → Prop} (hgd : o.guard = none) (s x : Operand)
 (ho : o.op = .call { callee := .builtin .append, args := #[s, x], argTypes := #[t, t] })
 (hs : a.eval s = .slice none 0 0) (xv : Value) (hxe : a.eval x = xv) (l : List Nat) (hx : CellsV w xv (bytes l)) (hb : l.length ≤ 400)
 (h : ∀ v' w', zub w' e w.heap.size v' (bytes l) → Below w.heap.size w w' → wpList P ops Q rest (a.put o.dst v') w') : wpList P ops Q (o :: rest) a w := by
 have hl : (bytes l).length = l.length := by simp [bytes]
 refine zic w hgd s x t ho w.heap.size e i (.int .u8 0) 1 ht hi hz hsize hby rfl _ [] hs (zub.nil _ _ _) xv hxe hx.sl (bytes l) hx.len
  (fun j hj => hx.cell j hj) (fun u hu => by obtain ⟨x, _, rfl⟩ := List.mem_map.1 hu; rfl)
  (by simp [maxLen, hl]; omega) (by simp [hl]; omega) (Nat.le_refl _) ?_
 intro v' w' h2 _ h4
 rw [List.nil_append] at h2
 exact h v' w' h2 h4
set_option maxHeartbeats 1600000 in
theorem new_any (v : Value) (l : List Nat) (w : World) (h : CellsV w v (bytes l)) (hb : ∀ x ∈ l, x < 256) :
 Calls Try.prog 13 #[v] w (RTape w (l.take 400)) := by
 obtain ⟨i0, hi, hz0, hz1, hz2⟩ := info_parts Try.infoU8
 have hA := append_u8 (P := Try.prog) 22 5 i0 Try.underlying22 hi hz0 hz1 hz2
 clear hi hz0 hz1 hz2
 have sv := h.sl
 have lv : slen v = l.length := by rw [h.len, bytes, List.length_map]
 have hle := sv.le
 rw [lv] at hle
 by_cases hd : 400 < l.length
 ·have hd1 : decide ((400 : Int) < (l.length : Nat)) = true := decide_eq_true (by omega)
  have hcap : (400 : Int) ≤ scap v := by omega
  have ht2 : CellsV w (tk v 400) (bytes (l.take 400)) := by have := h.tk 400 (by simp [bytes]; omega); simpa [bytes, List.map_take] using this
  go_enter Try.func13, Try.ntmps13
  go_wp2_with (at_builtin; refine hA w rfl _ _ rfl rfl _ rfl (l.take 400) ht2 (by simp; omega) ?_; intro v' w1 hown hbel; obtain ⟨an, nn, cn, rfl, _⟩ := hown.sl)
  go_ret
  exact tape_new w w1 _ _ _ _ (by simp; omega) (fun x hx => hb x (List.mem_of_mem_take hx)) hown hbel
 ·have hd1 : decide ((400 : Int) < (l.length : Nat)) = false := decide_eq_false (by omega)
  rw [List.take_of_length_le (by omega)]
  go_enter Try.func13, Try.ntmps13
  go_wp2_with (at_builtin; refine hA w rfl _ _ rfl rfl _ rfl l h (by omega) ?_; intro v' w1 hown hbel; obtain ⟨an, nn, cn, rfl, _⟩ := hown.sl)
  go_ret
  exact tape_new w w1 _ _ _ _ (by omega) hb hown hbel
theorem Moves.tick {B b a : Nat} {l : List Nat} {w w' : World} (ht : TapeAt w b l a) (hb : b < B) (h : Ticks b w w') : Moves B w w' := by
 refine ⟨h.size, fun g h1 h2 => ?_, fun p z hp => h.cell ht.c1 hp (fun z => by simp)⟩
 rcases h with ⟨k, rfl⟩ | ⟨k, k', a', rfl⟩
 ·exact (below_drewN (B := w.heap.size) w k).block g h2
 ·have h3 := (below_drewN (B := w.heap.size) w k)
  rw [(below_drewN (B := ((w.drewN k).setCell ⟨b, 1, none⟩ (.int .i64 a')).heap.size) _ k').block g (by simp [World.setCell]; have := h3.size; omega)]
  rw [Below.heap_setCell _ _ _ _ (by simp; omega)]
  exact h3.block g h2
theorem TapeAt.below {w w' : World} {l : List Nat} {b a : Nat} (h : TapeAt w b l a) (hb : Below w.heap.size w w') : TapeAt w' b l a := by
 obtain ⟨lt, ⟨v, e1, e2⟩, c1, f1, h1, h2, h3⟩ := h
 exact ⟨Nat.lt_of_lt_of_le lt hb.size, ⟨v, cell_below hb e1, e2.below hb⟩, cell_below hb c1, by rw [hb.frozen lt]; exact f1, h1, h2, h3⟩
def TapeB (w : World) (b : Nat) (l : List Nat) (B a : Nat) : Prop := TapeAt w b l a ∧ ∀ v, w.cell? ⟨b, 0, none⟩ = some v → ∀ j, j < l.length → (ptr v j).block < B
theorem TapeAt.b {w : World} {b a : Nat} {l : List Nat} (h : TapeAt w b l a) : TapeB w b l w.heap.size a := by
 refine ⟨h, fun v hv j hj => ?_⟩
 obtain ⟨v', e1, e2⟩ := h.ex
 rw [e1] at hv
 injection hv with hv
 subst hv
 exact World.block_lt_of_cell? w _ (e2.cell j (by simpa using hj))
theorem TapeB.mono {w : World} {b a B B' : Nat} {l : List Nat} (h : TapeB w b l B a) (hB : B ≤ B') : TapeB w b l B' a := ⟨h.1, fun v hv j hj => Nat.lt_of_lt_of_le (h.2 v hv j hj) hB⟩
theorem TapeB.below {w w' : World} {b a B : Nat} {l : List Nat} (h : TapeB w b l B a) (hb : Below w.heap.size w w') : TapeB w' b l B a := by
 obtain ⟨h1, h2⟩ := h
 refine ⟨h1.below hb, fun v hv j hj => ?_⟩
 rw [hb.cell h1.lt] at hv
 exact h2 v hv j hj
theorem TapeB.low {w w' : World} {b a B : Nat} {l : List Nat} (h : TapeB w b l B a) (hb : Below B w w') (hB : b < B) : TapeB w' b l B a := by
 obtain ⟨⟨lt, ⟨v, e1, e2⟩, c1, f1, h1, h2, h3⟩, h4⟩ := h
 have hl := h4 v e1
 refine ⟨⟨Nat.lt_of_lt_of_le lt hb.size, ⟨v, by rw [hb.cell (by exact hB)]; exact e1, e2.sl, e2.len, fun j hj => ?_⟩, by rw [hb.cell (by exact hB)]; exact c1, by rw [hb.frozen (by exact hB)]; exact f1, h1, h2, h3⟩, fun u hu j hj => ?_⟩
 ·rw [hb.cell (hl j (by simpa using hj))]; exact e2.cell j hj
 ·rw [hb.cell (by exact hB)] at hu
  exact h4 u hu j hj
theorem TapeB.tick {w w' : World} {b a a' B : Nat} {l : List Nat} (h : TapeB w b l B a) (ht : Ticks b w w') (hta : TapeAt w' b l a') : TapeB w' b l B a' := by
 refine ⟨hta, fun v hv j hj => ?_⟩
 obtain ⟨u, e1, e2⟩ := h.1.ex
 have e3 := ht.cell h.1.c1 e1 (fun z => by obtain ⟨a, n, c, rfl, _⟩ := CellsV.sl e2; simp)
 rw [e3] at hv
 injection hv with hv
 subst hv
 exact h.2 _ e1 j hj
theorem TapeB.set {w : World} {b a B : Nat} {l : List Nat} (h : TapeB w b l B a) {p : Addr} {x : Value} (hp : p.block ≠ b) (hc : w.cell? p = some x) (hx : ∀ z, x ≠ .int .u8 z) (u : Value) : TapeB (w.setCell p u) b l B a := by
 obtain ⟨⟨lt, ⟨v, e1, e2⟩, c1, f1, h1, h2, h3⟩, h4⟩ := h
 have hne : ∀ k, p ≠ ⟨b, k, none⟩ := fun k e => hp (by rw [e])
 refine ⟨⟨by simpa [World.setCell] using lt, ⟨v, by rw [World.cell?_setCell_other _ _ _ _ (hne _)]; exact e1, e2.sl, e2.len, fun j hj => ?_⟩, by rw [World.cell?_setCell_other _ _ _ _ (hne _)]; exact c1, by rw [World.frozen?_setCell]; exact f1, h1, h2, h3⟩, fun u' hu j hj => ?_⟩
 ·rw [World.cell?_setCell_other]
  ·exact e2.cell j hj
  ·intro e
   have h6 := e2.cell j hj
   rw [← e, hc] at h6
   injection h6 with h6
   rw [List.getElem_map] at h6
   exact hx _ h6
 ·rw [World.cell?_setCell_other _ _ _ _ (hne _)] at hu
  exact h4 u' hu j hj
theorem Ticks.frozen {w w' : World} {b : Nat} (h : Ticks b w w') {p : Addr} (hp : p.block < w.heap.size) : w'.frozen? p = w.frozen? p := by
 rcases h with ⟨k, rfl⟩ | ⟨k, k', a, rfl⟩
 ·exact (below_drewN (B := w.heap.size) w k).frozen hp
 ·have h1 := (below_drewN (B := w.heap.size) w k)
  rw [(below_drewN (B := ((w.drewN k).setCell ⟨b, 1, none⟩ (.int .i64 a)).heap.size) _ k').frozen (by simp [World.setCell]; have := h1.size; omega)]
  rw [World.frozen?_setCell]
  exact h1.frozen hp
theorem C3.tick {w w' : World} {b a c : Nat} {l : List Nat} {v0 v1 v2 : Value} (h : C3 w c v0 v1 v2) (hta : TapeAt w b l a) (ht : Ticks b w w') (n0 : ∀ z, v0 ≠ .int .i64 z) (n1 : ∀ z, v1 ≠ .int .i64 z) (n2 : ∀ z, v2 ≠ .int .i64 z) : C3 w' c v0 v1 v2 :=
 ⟨Nat.lt_of_lt_of_le h.lt ht.size, ht.cell hta.c1 h.c0 n0, ht.cell hta.c1 h.c1 n1, ht.cell hta.c1 h.c2 n2, by rw [ht.frozen h.lt]; exact h.f0, by rw [ht.frozen h.lt]; exact h.f1, by rw [ht.frozen h.lt]; exact h.f2⟩
theorem IsSl.noInt {v : Value} (h : IsSl v) : ∀ z, v ≠ .int .i64 z := fun z e => by obtain ⟨a, n, c, rfl, _⟩ := h; cases e
theorem IsSl.noLimb {v : Value} (h : IsSl v) : ∀ z, v ≠ .int .u32 z := fun z e => by obtain ⟨a, n, c, rfl, _⟩ := h; cases e
theorem IsSl.noByte {v : Value} (h : IsSl v) : ∀ z, v ≠ .int .u8 z := fun z e => by obtain ⟨a, n, c, rfl, _⟩ := h; cases e
theorem below_grow {w w' : World} {B : Nat} {u : Value} (hg : w.grownBy w' u.ownBlock) (hB : B ≤ w.heap.size) (hu : ∀ k, u.ownBlock = some k → B ≤ k ∧ k < w.heap.size) : Below B w w' := below_of_grown hg hB (fun k hk => (hu k hk).1)
structure ChW (w : World) (bt : Nat) (l : List Nat) (B b5 : Nat) (vr vs vl : Value) (rs : List Value) (rates : List (List Rat)) (start : List Rat) (lost : List Bool) : Prop where
 tape : ∃ a, TapeB w bt l B a
 box : C3 w b5 vr vs vl
 st : FrRow w 32 B vs start
 lo : OwnR w 4 B 1 vl (lost.map Value.bool).length (lost.map Value.bool)
 ra : OwnR w 23 B 1 vr rs.length rs
 rl : rs.length = rates.length
 rows : ∀ (j : Nat) (h : j < rs.length) (h' : j < rates.length), FrRow w 32 B rs[j] rates[j] ∧ (rs[j].ownBlock = none ∨ rs[j].ownBlock ≠ vs.ownBlock)
 sz : B ≤ w.heap.size
 bt5 : bt < B ∧ b5 < B ∧ b5 ≠ bt
section
variable {w w' : World} {bt : Nat} {l : List Nat} {B b5 : Nat} {vr vs vl : Value} {rs : List Value} {rates : List (List Rat)} {start : List Rat} {lost : List Bool}
theorem ChW.of (h : ChW w bt l B b5 vr vs vl rs rates start lost) (hm : Moves B w w') (ht : ∃ a, TapeB w' bt l B a) (hb : C3 w' b5 vr vs vl) : ChW w' bt l B b5 vr vs vl rs rates start lost :=
 ⟨ht, hb, h.st.moves hm (Nat.le_refl _), h.lo.moves hm (Nat.le_refl _), h.ra.moves hm (Nat.le_refl _), h.rl, fun j h1 h2 => ⟨(h.rows j h1 h2).1.moves hm (Nat.le_refl _), (h.rows j h1 h2).2⟩, Nat.le_trans h.sz hm.size, h.bt5⟩
theorem ChW.below (h : ChW w bt l B b5 vr vs vl rs rates start lost) (hb : Below w.heap.size w w') : ChW w' bt l B b5 vr vs vl rs rates start lost := by
 obtain ⟨a, ht⟩ := h.tape
 exact h.of (Moves.below hb) ⟨a, ht.below hb⟩ (h.box.belowS hb)
theorem ChW.tick (h : ChW w bt l B b5 vr vs vl rs rates start lost) {a' : Nat} (ht : Ticks bt w w') (hta : TapeAt w' bt l a') : ChW w' bt l B b5 vr vs vl rs rates start lost := by
 obtain ⟨a, h0⟩ := h.tape
 exact h.of (Moves.tick h0.1 h.bt5.1 ht) ⟨a', h0.tick ht hta⟩ (h.box.tick h0.1 ht h.ra.sl.noInt h.st.sl.noInt h.lo.sl.noInt)
theorem ChW.lostG (h : ChW w bt l B b5 vr vs vl rs rates start lost) {c : Bool} {v' : Value} (hv : OwnR w' 4 B 1 v' (lost.map Value.bool ++ [Value.bool c]).length (lost.map Value.bool ++ [Value.bool c])) (hg : w.grownBy w' vl.ownBlock) (hn : NoLimb w vl) :
 ChW (w'.setCell ⟨b5, 2, none⟩ v') bt l B b5 vr vs v' rs rates start (lost ++ [c]) ∧ Below B w w' := by
 obtain ⟨⟨a, ht⟩, box, st, lo, ra, rl, rows, sz, b1, b2, b3⟩ := h
 have hb := below_grow (B := B) hg sz lo.block
 have box' := box.below hb b2
 have hm : Moves B w' (w'.setCell ⟨b5, 2, none⟩ v') := Moves.set b2 box'.c2 lo.sl.noLimb _
 obtain ⟨xs, s1, s2⟩ := id st
 have st' : FrRow w' 32 B vs start := st.grown hg hn (s1.kinds lo (by decide))
 refine ⟨⟨⟨a, (ht.low hb b1).set (by exact b3) box'.c2 lo.sl.noByte _⟩, box'.set2 _, st'.moves hm (Nat.le_refl _), ?_, (ra.grown hg (ra.kinds lo (by decide))).moves hm (Nat.le_refl _), rl, fun j h1 h2 => ?_, Nat.le_trans sz (Nat.le_trans hb.size hm.size), b1, b2, b3⟩, hb⟩
 ·rw [List.map_append]; exact hv.moves hm (Nat.le_refl _)
 ·obtain ⟨k1, k2⟩ := rows j h1 h2
  obtain ⟨ys, y1, y2⟩ := id k1
  exact ⟨(k1.grown hg hn (y1.kinds lo (by decide))).moves hm (Nat.le_refl _), k2⟩
theorem ChW.startG (h : ChW w bt l B b5 vr vs vl rs rates start lost) {q : Rat} {v' : Value} {k : Nat} (hv : FrRow w' 32 B v' (start ++ [q])) (hg : w.grownBy w' vs.ownBlock) (hn : NoLimb w vs) (hvb : v'.ownBlock = vs.ownBlock ∨ v'.ownBlock = some k) (hk : w.heap.size ≤ k) :
 ChW (w'.setCell ⟨b5, 1, none⟩ v') bt l B b5 vr v' vl rs rates (start ++ [q]) lost ∧ Below B w w' := by
 obtain ⟨⟨a, ht⟩, box, st, lo, ra, rl, rows, sz, b1, b2, b3⟩ := h
 have hb := below_grow (B := B) hg sz st.block
 have box' := box.below hb b2
 have hm : Moves B w' (w'.setCell ⟨b5, 1, none⟩ v') := Moves.set b2 box'.c1 st.sl.noLimb _
 obtain ⟨xs, s1, s2⟩ := id st
 refine ⟨⟨⟨a, (ht.low hb b1).set (by exact b3) box'.c1 st.sl.noByte _⟩, box'.set1 _, hv.moves hm (Nat.le_refl _), (lo.grown hg (lo.kinds s1 (by decide))).moves hm (Nat.le_refl _), (ra.grown hg (ra.kinds s1 (by decide))).moves hm (Nat.le_refl _), rl, fun j h1 h2 => ?_, Nat.le_trans sz (Nat.le_trans hb.size hm.size), b1, b2, b3⟩, hb⟩
 obtain ⟨k1, k2⟩ := rows j h1 h2
 refine ⟨(k1.grown hg hn k2).moves hm (Nat.le_refl _), ?_⟩
 rcases k2 with k2 | k2
 ·exact Or.inl k2
 ·cases ho : rs[j].ownBlock with
  | none => exact Or.inl rfl
  | some g =>
    refine Or.inr ?_
    have := k1.block g ho
    rcases hvb with e | e
    ·rw [e, ← ho]; exact k2
    ·rw [e]; intro e2; injection e2 with e2; omega
theorem ChW.ratesG (h : ChW w bt l B b5 vr vs vl rs rates start lost) {q : List Rat} {r v' : Value} (hr : FrRow w 32 B r q) (hrs : r.ownBlock = none ∨ r.ownBlock ≠ vs.ownBlock) (hv : OwnR w' 23 B 1 v' (rs ++ [r]).length (rs ++ [r])) (hg : w.grownBy w' vr.ownBlock) (hn : NoLimb w vr) :
 ChW (w'.setCell ⟨b5, 0, none⟩ v') bt l B b5 v' vs vl (rs ++ [r]) (rates ++ [q]) start lost ∧ Below B w w' := by
 obtain ⟨⟨a, ht⟩, box, st, lo, ra, rl, rows, sz, b1, b2, b3⟩ := h
 have hb := below_grow (B := B) hg sz ra.block
 have box' := box.below hb b2
 have hm : Moves B w' (w'.setCell ⟨b5, 0, none⟩ v') := Moves.set b2 box'.c0 ra.sl.noLimb _
 obtain ⟨xs, s1, s2⟩ := id st
 obtain ⟨zs, z1, z2⟩ := id hr
 refine ⟨⟨⟨a, (ht.low hb b1).set (by exact b3) box'.c0 ra.sl.noByte _⟩, box'.set0 _, (st.grown hg hn (s1.kinds ra (by decide))).moves hm (Nat.le_refl _), (lo.grown hg (lo.kinds ra (by decide))).moves hm (Nat.le_refl _), hv.moves hm (Nat.le_refl _), by simp [rl], fun j h1 h2 => ?_, Nat.le_trans sz (Nat.le_trans hb.size hm.size), b1, b2, b3⟩, hb⟩
 rcases Nat.lt_or_ge j rs.length with hj | hj
 ·have hj2 : j < rates.length := by omega
  rw [List.getElem_append_left hj, List.getElem_append_left hj2]
  obtain ⟨k1, k2⟩ := rows j hj hj2
  obtain ⟨ys, y1, y2⟩ := id k1
  exact ⟨(k1.grown hg hn (y1.kinds ra (by decide))).moves hm (Nat.le_refl _), k2⟩
 ·obtain rfl : j = rs.length := by simp at h1; omega
  have e1 : (rs ++ [r])[rs.length]'h1 = r := by simp
  have e2 : (rates ++ [q])[rs.length]'h2 = q := by simp [rl]
  rw [e1, e2]
  exact ⟨(hr.grown hg hn (z1.kinds ra (by decide))).moves hm (Nat.le_refl _), hrs⟩
end
def unitL (n i : Nat) : List Rat := (List.range n).map fun j => if j = i then 1 else 0
theorem unitL_length (n i : Nat) : (unitL n i).length = n := by simp [unitL]
end Go.Proofs.Ytlpdkbmmbdfoiaa
namespace Go.Proofs.Ytlpdkbmmbdfoiaa
theorem zra.one' : zra 1 := ⟨1, 1, by decide, by decide, by decide, by decide⟩
theorem zra.over {q : Rat} (h : zra q) : over 720 28800 q := by
 obtain ⟨a, b, ha, hb, hb2, rfl⟩ := h
 refine ⟨((a * (720 / b) : Nat) : Int), ?_, ?_⟩
 ·have h1 : b * (720 / b) = 720 := by
   rcases (show b = 1 ∨ b = 2 ∨ b = 3 ∨ b = 4 by omega) with rfl | rfl | rfl | rfl <;> rfl
  have h2 : (720 / b : Nat) ≠ 0 := by
   rcases (show b = 1 ∨ b = 2 ∨ b = 3 ∨ b = 4 by omega) with rfl | rfl | rfl | rfl <;> decide
  rw [zne a b (720 / b) h2, h1]
  rfl
 ·have h3 : 720 / b ≤ 720 := Nat.div_le_self _ _
  have h4 : a * (720 / b) ≤ 4 * 720 := Nat.mul_le_mul ha h3
  rw [Int.natAbs_natCast]
  omega
theorem zlg (c : CQ) (i j : Nat) : rq c.raw i j = (c.rates.getD i []).getD j 0 := by
 unfold rq
 show (zoa c.raw i).getD j 0 = _
 unfold zoa
 simp only [CQ.raw, List.getD_eq_getElem?_getD, List.getElem?_map]
 cases c.rates[i]? with
 | none => simp [qs]
 | some r => simp [zwf]
theorem tapeP.sm {c : CQ} (h : tapeP c) : SmC c.raw where
 n5 := by simp [CQ.raw]; have := h.rl; have := h.n5; omega
 r := fun i j hi hj => by
  rw [zlg]
  have hl : c.raw.rates.length = c.start.length := by simp [CQ.raw]; exact h.rl
  exact (h.rate (by omega) (by omega)).over
 s := fun i hi => by
  have hl : c.raw.rates.length = c.start.length := by simp [CQ.raw]; exact h.rl
  show over 720 28800 ((qs (c.start.map RF.of)).getD i 0)
  rw [zwf, List.getD_eq_getElem?_getD, List.getElem?_eq_getElem (by omega)]
  exact (h.st _ (List.getElem_mem _)).over
theorem unitL_get {n i j : Nat} (hj : j < n) : (unitL n i).getD j 0 = if j = i then 1 else 0 := by
 unfold unitL
 rw [List.getD_eq_getElem?_getD, List.getElem?_map, List.getElem?_range hj]
 rfl
theorem unitL_sum {n i : Nat} (hi : i < n) : zsb (unitL n i) = 1 := by
 rw [lsum_sg, unitL_length, zea (g := fun j => if i = j then 1 else 0) fun j hj => by
  rw [unitL_get hj]
  by_cases e : j = i
  ·rw [if_pos e, if_pos e.symm]
  ·rw [if_neg e, if_neg (fun h => e h.symm)]]
 exact zqc hi (fun _ => 1)
def frm (c : CQ) (i : Nat) : CQ := ⟨c.rates, unitL c.start.length i, c.lost⟩
theorem tapeP.frm {c : CQ} (h : tapeP c) {i : Nat} (hi : i < c.start.length) : tapeP (frm c i) where
 n2 := by have := h.n2; simpa [Go.Proofs.Ytlpdkbmmbdfoiaa.frm, unitL_length] using this
 n5 := by have := h.n5; simpa [Go.Proofs.Ytlpdkbmmbdfoiaa.frm, unitL_length] using this
 ll := by simp [Go.Proofs.Ytlpdkbmmbdfoiaa.frm, unitL_length, h.ll]
 rl := by simp [Go.Proofs.Ytlpdkbmmbdfoiaa.frm, unitL_length, h.rl]
 st := fun q hq => by
  unfold Go.Proofs.Ytlpdkbmmbdfoiaa.frm unitL at hq
  obtain ⟨j, _, rfl⟩ := List.mem_map.1 hq
  split
  ·exact zra.one'
  ·exact zra.zero
 sum := unitL_sum hi
 rows := fun j r hr => by
  obtain ⟨h1, h2⟩ := h.rows j r hr
  exact ⟨by rw [h1]; simp [Go.Proofs.Ytlpdkbmmbdfoiaa.frm, unitL_length], h2⟩
theorem zeh : tapeP (cTwo (mkRat 1 3)) := by
 have h13 : zra (mkRat 1 3) := ⟨1, 3, by decide, by decide, by decide, rfl⟩
 have hs : ∀ {a b : Rat}, zra a → zra b → ∀ q ∈ [a, b], zra q := fun {a b} ha hb q hq => by
  simp at hq
  rcases hq with rfl | rfl
  ·exact ha
  ·exact hb
 refine ⟨by decide, by decide, rfl, rfl, hs zra.one' zra.zero, by decide +kernel, fun i r hr => ?_⟩
 have hi : i < 2 := (List.getElem?_eq_some_iff.1 hr).1
 rcases (show i = 0 ∨ i = 1 by omega) with rfl | rfl
 ·obtain rfl : [0, mkRat 1 3] = r := by simpa [cTwo] using hr
  exact ⟨rfl, hs zra.zero h13, fun x hx => by simpa using hx.symm, fun h => by simp [cTwo] at h⟩
 ·obtain rfl : [0, 0] = r := by simpa [cTwo] using hr
  exact ⟨rfl, hs zra.zero zra.zero, fun x hx => by simpa using hx.symm, fun _ q hq => by simpa using hq⟩
theorem lk_over {c : RC} {l : List Nat} (hv : zla c) (hk : LK c.rates.length (rq c) (zxa c) l) (hs : SmC c) {b X : Nat → Rat} (hb : ∀ i, i < l.length → over 720 230400 (b i))
 (hx : ∀ i, i < l.length → sg l.length (fun j => mmA (fun i j => rq c (l.getD i 0) (l.getD j 0)) (fun i => sg c.rates.length (rq c (l.getD i 0))) i j * X (l.getD j 0)) = b i) :
 ∃ E, E ≠ 0 ∧ E < 2 ^ 220 ∧ ∀ t, t ∈ l → over E (2 ^ 240) (X t) := by
 have hle : l.length ≤ c.rates.length := by
  have h1 := zui (lo := 0) (n := c.rates.length) hk.so fun x hx => ⟨Nat.zero_le _, hk.lt x hx⟩
  omega
 have h5 : l.length < 6 := by have := hs.n5; omega
 have hA : ∀ i j, i < l.length → j < l.length → over 720 230400 (mmA (fun i j => rq c (l.getD i 0) (l.getD j 0)) (fun i => sg c.rates.length (rq c (l.getD i 0))) i j) := fun i j hi hj => by
  have h1 := hk.lt _ (zna hi)
  have h2 := hk.lt _ (zna hj)
  unfold mmA
  split
  ·exact (over.sg (by decide) fun t ht => hs.r _ t h1 ht).mono (by have := hs.n5; omega)
  ·exact (over.neg (hs.r _ _ h1 h2)).mono (by decide)
 obtain ⟨E, hE, hEb, hI⟩ := sol_gen (n := l.length) (D := 720) (B := 230400) (by decide) (by decide) hA (hk.dt (zfm hv)) (F := 720) (K := 230400) (by decide) hb hx
 have hB := dtB5 _ h5
 refine ⟨E * 720, Nat.mul_ne_zero hE (by decide), ?_, fun t ht => ?_⟩
 ·exact Nat.lt_of_le_of_lt (Nat.mul_le_mul_right _ (Nat.le_trans hEb (Nat.le_of_lt hB))) (show 2 ^ 200 * 720 < 2 ^ 220 by decide +kernel)
 ·obtain ⟨i, hi, rfl⟩ := zem ht
  refine (hI i hi).mono ?_
  exact Nat.le_trans (Nat.mul_le_mul (show l.length ≤ 5 by omega) (Nat.mul_le_mul_right _ (Nat.le_of_lt hB))) (show 5 * (2 ^ 200 * 230400) ≤ 2 ^ 240 by decide +kernel)
theorem hit_lk (n : Nat) (r : Mx) (lost : Nat → Prop) : LK n r lost (lsP n fun s => FT n r lost s ∧ ¬ lost s) where
 so := lsP_so _ _
 lt := fun s h => (zdb.1 h).1
 nl := fun s h => (zdb.1 h).2.2
 ft := fun s h => (zdb.1 h).2.1
 cl := fun s t h ht hp => by
  by_cases h1 : lost t
  ·exact Or.inr (Or.inl h1)
  ·by_cases h2 : FT n r lost t
   ·exact Or.inl (zdb.2 ⟨ht, h2, h1⟩)
   ·exact Or.inr (Or.inr h2)
theorem over_big {E : Nat} (hE : E ≠ 0) (hEb : E < 2 ^ 220) : over E (2 ^ 240) 1 := (over.one hE).mono (Nat.le_of_lt (Nat.lt_trans hEb (by decide +kernel)))
structure HitS (c : RC) (H : Nat → Rat) : Prop where
 hit : HitC c H
 ov : ∃ E, E ≠ 0 ∧ E < 2 ^ 220 ∧ ∀ t, t < c.rates.length → over E (2 ^ 240) (H t)
structure TimeS (c : RC) (T : Nat → Rat) : Prop where
 time : TimeC c T
 z : ∀ t, t < c.rates.length → ¬ znl c.rates.length (rq c) (zxa c) t → T t = 0
 ov : ∃ E, E ≠ 0 ∧ E < 2 ^ 220 ∧ ∀ t, t < c.rates.length → over E (2 ^ 240) (T t)
theorem hitC_over {c : RC} {H : Nat → Rat} (hv : zla c) (hs : SmC c) (hH : HitC c H) : ∃ E, E ≠ 0 ∧ E < 2 ^ 220 ∧ ∀ t, t < c.rates.length → over E (2 ^ 240) (H t) := by
 have hk := hit_lk c.rates.length (rq c) (zxa c)
 generalize hl : lsP c.rates.length (fun s => FT c.rates.length (rq c) (zxa c) s ∧ ¬ zxa c s) = l at hk
 have hb1 : ∀ i, i < l.length → over 720 230400 (0 + sg c.rates.length fun t => if t ∈ l then 0 else rq c (l.getD i 0) t * H t) := fun i hi => by
  rw [Rat.zero_add]
  refine (over.sg (B := 28800) (by decide) fun t ht => ?_).mono (by have := hs.n5; omega)
  split
  ·exact over.zero _ _
  ·rename_i hm
   by_cases h1 : zxa c t
   ·rw [hH.one t ht h1, Rat.mul_one]; exact hs.r _ _ (hk.lt _ (zna hi)) ht
   ·by_cases h2 : FT c.rates.length (rq c) (zxa c) t
    ·exact absurd (hl ▸ zdb.2 ⟨ht, h2, h1⟩) hm
    ·rw [hH.no t ht h2, Rat.mul_zero]; exact over.zero _ _
 obtain ⟨E, hE, hEb, hX⟩ := lk_over (X := H) (b := fun i => 0 + sg c.rates.length fun t => if t ∈ l then 0 else rq c (l.getD i 0) t * H t) hv hk hs hb1 (fun i hi => hk.eq (zfm hv) (X := H) (b := fun _ => 0) hi (by rw [Rat.zero_add]; exact hH.eq _ (hk.lt _ (zna hi)) (hk.nl _ (zna hi))))
 refine ⟨E, hE, hEb, fun t ht => ?_⟩
 by_cases h1 : zxa c t
 ·rw [hH.one t ht h1]; exact over_big hE hEb
 ·by_cases h2 : FT c.rates.length (rq c) (zxa c) t
  ·exact hX t (hl ▸ zdb.2 ⟨ht, h2, h1⟩)
  ·rw [hH.no t ht h2]; exact over.zero _ _
theorem hit_s {c : RC} (hv : zla c) (hs : SmC c) : ∃ H, HitS c H := by
 obtain ⟨H, hH⟩ := hit_ex (zfm hv)
 exact ⟨H, hH, hitC_over hv hs hH⟩
theorem TimeC.s {c : RC} {T : Nat → Rat} (hv : zla c) (hs : SmC c) (hT : TimeC c T) (hz : ∀ t, t < c.rates.length → ¬ znl c.rates.length (rq c) (zxa c) t → T t = 0) : TimeS c T := by
 refine ⟨hT, hz, ?_⟩
 have hk := sure_lk c.rates.length (rq c) (zxa c)
 have h1 : ∀ t, t < c.rates.length → t ∉ lsP c.rates.length (fun s => znl c.rates.length (rq c) (zxa c) s ∧ ¬ zxa c s) → T t = 0 := fun t ht h => by
  by_cases hl : zxa c t
  ·exact hT.zero t ht hl
  ·exact hz t ht fun hu => h (zdb.2 ⟨ht, hu, hl⟩)
 have h2 : ∀ s, s ∈ lsP c.rates.length (fun s => znl c.rates.length (rq c) (zxa c) s ∧ ¬ zxa c s) → sg c.rates.length (rq c s) * T s = 1 + sg c.rates.length fun t => rq c s t * T t := fun s hs2 => by
  have h := zdb.1 hs2
  exact hT.eq s h.1 h.2.2 h.2.1
 generalize hl : lsP c.rates.length (fun s => znl c.rates.length (rq c) (zxa c) s ∧ ¬ zxa c s) = l at hk h1 h2
 have hb1 : ∀ i, i < l.length → over 720 230400 (1 + sg c.rates.length fun t => if t ∈ l then 0 else rq c (l.getD i 0) t * T t) := fun i hi => by
  have e : (sg c.rates.length fun t => if t ∈ l then 0 else rq c (l.getD i 0) t * T t) = 0 := sg_zero' fun t ht => by
   split
   ·rfl
   ·rename_i hm; rw [h1 t ht hm, Rat.mul_zero]
  rw [e, Rat.add_zero]
  exact (over.one (D := 720) (by decide)).mono (by decide)
 obtain ⟨E, hE, hEb, hX⟩ := lk_over (X := T) (b := fun i => 1 + sg c.rates.length fun t => if t ∈ l then 0 else rq c (l.getD i 0) t * T t) hv hk hs hb1 (fun i hi => hk.eq (zfm hv) (X := T) (b := fun _ => 1) hi (h2 _ (zna hi)))
 refine ⟨E, hE, hEb, fun t ht => ?_⟩
 by_cases hm : t ∈ l
 ·exact hX t hm
 ·rw [h1 t ht hm]; exact over.zero _ _
theorem time_s {c : RC} (hv : zla c) (hs : SmC c) : ∃ T, TimeS c T := by
 have hk := sure_lk c.rates.length (rq c) (zxa c)
 obtain ⟨T, h1, h2⟩ := hk.ex (zfm hv) (fun _ => 0) (fun _ => 1)
 have hT : TimeC c T := ⟨fun s hs h => h1 s fun hmem => (zdb.1 hmem).2.2 h, fun s hs h hu => h2 s (zdb.2 ⟨hs, hu, h⟩)⟩
 exact ⟨T, hT.s hv hs fun t ht h => h1 t fun hmem => h (zdb.1 hmem).2.1⟩
theorem sum_fits {E n : Nat} (hE : E ≠ 0) (hEb : E < 2 ^ 220) (hn : n ≤ 5) {f X : Nat → Rat} (hf : ∀ t, t < n → over 720 28800 (f t)) (hX : ∀ t, t < n → over E (2 ^ 240) (X t)) {x : Rat} (hx : over 720 28800 x) : fits (x + sg n fun t => f t * X t) := by
 have hE3 : 720 * E ≠ 0 := Nat.mul_ne_zero (by decide) hE
 have h1 : over (720 * E) (n * (28800 * 2 ^ 240)) (sg n fun t => f t * X t) := over.sg hE3 fun i hi => over.mul (hf i hi) (hX i hi)
 have h2 : over (720 * E) (28800 * E) x := hx.scale hE
 refine (over.add hE3 h2 h1).fits hE3 ?_ ?_
 ·have h6 : n * (28800 * 2 ^ 240) ≤ 5 * (28800 * 2 ^ 240) := Nat.mul_le_mul_right _ hn
  have h7 : 28800 * E ≤ 28800 * 2 ^ 220 := Nat.mul_le_mul_left _ (Nat.le_of_lt hEb)
  exact Nat.lt_of_le_of_lt (Nat.add_le_add h7 h6) (Nat.lt_trans (show 28800 * 2 ^ 220 + 5 * (28800 * 2 ^ 240) < 2 ^ 280 by decide +kernel) (pow_c (a := 280) (by decide)))
 ·exact Nat.lt_trans (Nat.lt_of_le_of_lt (Nat.mul_le_mul_left _ (Nat.le_of_lt hEb)) pow_a) (pow_c (by decide))
theorem prod_fits {E : Nat} (hE : E ≠ 0) (hEb : E < 2 ^ 220) {B : Nat} (hB : B ≤ 230400) {x y : Rat} (hx : over 720 B x) (hy : over E (2 ^ 240) y) : fits (x * y) := by
 have hE3 : 720 * E ≠ 0 := Nat.mul_ne_zero (by decide) hE
 refine (over.mul hx hy).fits hE3 ?_ ?_
 ·exact Nat.lt_of_le_of_lt (Nat.mul_le_mul_right _ hB) (Nat.lt_trans (show 230400 * 2 ^ 240 < 2 ^ 280 by decide +kernel) (pow_c (a := 280) (by decide)))
 ·exact Nat.lt_trans (Nat.lt_of_le_of_lt (Nat.mul_le_mul_left _ (Nat.le_of_lt hEb)) pow_a) (pow_c (by decide))
structure SmQ (c : CQ) : Prop where
 n1 : 1 ≤ c.start.length
 n5 : c.start.length ≤ 5
 ll : c.lost.length = c.start.length
 rl : c.rates.length = c.start.length
 st : ∀ q ∈ c.start, over 720 28800 q ∧ 0 ≤ q
 sum : zsb c.start = 1
 rows : ∀ (i : Nat) (r : List Rat), c.rates[i]? = some r → r.length = c.start.length ∧ (∀ q ∈ r, over 720 28800 q ∧ 0 ≤ q) ∧ (∀ x : Rat, r[i]? = some x → x = 0) ∧ (c.lost[i]? = some true → ∀ q ∈ r, q = 0)
theorem tapeP.smQ {c : CQ} (h : tapeP c) : SmQ c where
 n1 := by have := h.n2; omega
 n5 := h.n5
 ll := h.ll
 rl := h.rl
 st := fun q hq => ⟨(h.st q hq).over, Rat.not_lt.1 (h.st q hq).nonneg⟩
 sum := h.sum
 rows := fun i r hr => by
  obtain ⟨h1, h2, h3, h4⟩ := h.rows i r hr
  exact ⟨h1, fun q hq => ⟨(h2 q hq).over, Rat.not_lt.1 (h2 q hq).nonneg⟩, h3, h4⟩
theorem over_parts {q : Rat} (h : over 720 28800 q) : q.num.natAbs ≤ 28800 ∧ q.den ≤ 720 := by
 obtain ⟨z, rfl, hz⟩ := h
 have e : mkRat z 720 = fq (decide (z < 0)) z.natAbs 720 := by
  unfold fq sgn
  congr 1
  by_cases hn : z < 0
  ·rw [decide_eq_true hn]; simp; omega
  ·rw [decide_eq_false hn]; simp; omega
 rw [e, zad _ _ _ (by decide), zzj _ _ _ (by decide)]
 exact ⟨Nat.le_trans (Nat.div_le_self _ _) hz, Nat.div_le_self _ _⟩
theorem wt_25 {q : Rat} (h : over 720 28800 q) : wt q ≤ 25 := h.wt (a := 15) (b := 10) (by decide) (by decide) (by decide)
theorem rowP_over {l : List Rat} {n : Nat} (hn : l.length = n) (hn5 : n ≤ 128) (h : ∀ q ∈ l, over 720 28800 q ∧ 0 ≤ q) : zii (l.map RF.of) n := by
 refine ⟨fun x hx => ?_, by rw [List.length_map]; exact hn, by
  rw [zwf]
  have := zei (l := l) (K := 25) fun q hq => wt_25 (h q hq).1
  omega⟩
 obtain ⟨q, hq, rfl⟩ := List.mem_map.1 hx
 obtain ⟨h1, h2⟩ := h q hq
 have h3 := over_parts h1
 refine ⟨RF.of_ok (over_f h1 (by decide +kernel)), ?_⟩
 rw [RF.of_q]
 exact ⟨Rat.not_lt.2 h2, zcb.2 (by have := h3.1; simp [pw]; omega), zcb.2 (by have := h3.2; simp [pw]; omega)⟩
theorem SmQ.valid {c : CQ} (h : SmQ c) : zla c.raw := by
 obtain ⟨n1, n5, ll, rl, st, sum, rows⟩ := h
 refine ⟨by simp [CQ.raw]; omega, by simp [CQ.raw]; omega, by simp [CQ.raw]; exact ll, by simp [CQ.raw]; exact rl, ?_, fun i r hr => ?_, ?_⟩
 ·have := rowP_over (n := c.start.length) rfl (by omega) st
  simpa [CQ.raw] using this
 ·simp only [CQ.raw, List.getElem?_map, Option.map_eq_some_iff] at hr
  obtain ⟨r', hr', rfl⟩ := hr
  obtain ⟨k1, k2, k3, k4⟩ := rows i r' hr'
  refine ⟨?_, fun x hx => ?_, fun hl => ?_⟩
  ·have := rowP_over k1 (by omega) k2
   simpa [CQ.raw] using this
  ·rw [List.getElem?_map, Option.map_eq_some_iff] at hx
   obtain ⟨q, hq, rfl⟩ := hx
   rw [RF.of_q, k3 q hq]
   rfl
  ·rw [zwf]
   have h0 := k4 hl
   have : ∀ l : List Rat, (∀ q ∈ l, q = 0) → wts l = 0 := fun l => by
    induction l with
    | nil => intro _; rfl
    | cons x l ih =>
      intro h
      rw [zhc, ih (fun q hq => h q (by simp [hq])), h x (by simp)]
      decide
   exact this r' h0
 ·have : qs c.raw.start = c.start := zwf _
  rw [this]; exact sum
theorem SmQ.sm {c : CQ} (h : SmQ c) : SmC c.raw where
 n5 := by simp [CQ.raw]; have := h.rl; have := h.n5; omega
 r := fun i j hi hj => by
  rw [zlg]
  have hl : c.raw.rates.length = c.rates.length := by simp [CQ.raw]
  have hi2 : i < c.rates.length := by omega
  obtain ⟨h1, h2, _⟩ := h.rows i _ (List.getElem?_eq_getElem hi2)
  rw [List.getD_eq_getElem?_getD (l := c.rates), List.getElem?_eq_getElem hi2, Option.getD_some]
  have hj2 : j < (c.rates[i]).length := by have := h.rl; omega
  rw [List.getD_eq_getElem?_getD, List.getElem?_eq_getElem hj2, Option.getD_some]
  exact (h2 _ (List.getElem_mem hj2)).1
 s := fun i hi => by
  have hl : c.raw.rates.length = c.start.length := by simp [CQ.raw]; exact h.rl
  show over 720 28800 ((qs (c.start.map RF.of)).getD i 0)
  rw [zwf, List.getD_eq_getElem?_getD, List.getElem?_eq_getElem (by omega)]
  exact (h.st _ (List.getElem_mem _)).1
def scl (c : CQ) (k : Rat) : CQ := ⟨c.rates.map fun r => r.map fun q => k * q, c.start, c.lost⟩
theorem rq_scl (c : CQ) (k : Rat) (i j : Nat) : rq (scl c k).raw i j = k * rq c.raw i j := by
 rw [zlg, zlg]
 unfold scl
 simp only [List.getD_eq_getElem?_getD, List.getElem?_map]
 cases c.rates[i]? with
 | none => simp
 | some r =>
   simp only [Option.map_some, Option.getD_some, List.getElem?_map]
   cases r[j]? <;> simp
theorem scl_len (c : CQ) (k : Rat) : (scl c k).raw.rates.length = c.raw.rates.length := by simp [CQ.raw, scl]
theorem zoi {n : Nat} {S : Nat → Prop} {L M : Nat → Nat → Prop} (h : ∀ i j, L i j → M i j) {s : Nat} (hc : Clo n S L s) : Clo n S M s := by
 induction hc with
 | base hi hS => exact Clo.base hi hS
 | step _ hj hL ih => exact Clo.step ih hj (h _ _ hL)
section
variable {c : CQ} {k : Rat}
theorem zam (hk : 0 < k) (i j : Nat) : 0 < rq (scl c k).raw i j ↔ 0 < rq c.raw i j := by
 rw [rq_scl]
 constructor
 ·intro h
  refine Classical.byContradiction fun h2 => ?_
  have h3 : k * rq c.raw i j ≤ k * 0 := Rat.mul_le_mul_of_nonneg_left (Rat.not_lt.1 h2) (Rat.le_of_lt hk)
  rw [Rat.mul_zero] at h3
  exact absurd h (Rat.not_lt.2 h3)
 ·intro h; exact Rat.mul_pos hk h
theorem ft_scl (hk : 0 < k) (s : Nat) : FT c.raw.rates.length (rq (scl c k).raw) (zxa (scl c k).raw) s ↔ FT c.raw.rates.length (rq c.raw) (zxa c.raw) s :=
 ⟨zoi fun i j h => (zam hk j i).1 h, zoi fun i j h => (zam hk j i).2 h⟩
theorem rc1_scl (hk : 0 < k) (S : Nat → Prop) (s : Nat) : RC1 c.raw.rates.length (rq (scl c k).raw) S s ↔ RC1 c.raw.rates.length (rq c.raw) S s :=
 ⟨zoi fun i j h => (zam hk i j).1 h, zoi fun i j h => (zam hk i j).2 h⟩
theorem sure_scl (hk : 0 < k) (s : Nat) : znl c.raw.rates.length (rq (scl c k).raw) (zxa (scl c k).raw) s ↔ znl c.raw.rates.length (rq c.raw) (zxa c.raw) s :=
 ⟨fun h t ht => (ft_scl hk t).1 (h t ((rc1_scl hk _ t).2 ht)), fun h t ht => (ft_scl hk t).2 (h t ((rc1_scl hk _ t).1 ht))⟩
theorem out_scl (n s : Nat) : sg n (rq (scl c k).raw s) = k * sg n (rq c.raw s) := by
 rw [← zqa]; exact zea fun j _ => rq_scl c k s j
theorem hit_scl (hk : 0 < k) {H : Nat → Rat} (h : HitC c.raw H) : HitC (scl c k).raw H := by
 have hl := scl_len c k
 refine ⟨fun s hs hls => h.one s (by omega) hls, fun s hs hf => h.no s (by omega) fun hf2 => hf ?_, fun s hs hnl => ?_⟩
 ·rw [hl]; exact (ft_scl hk s).2 hf2
 ·rw [hl, out_scl, zea (f := fun t => rq (scl c k).raw s t * H t) (g := fun t => k * (rq c.raw s t * H t)) fun t _ => by rw [rq_scl, Rat.mul_assoc], zqa, ← h.eq s (by omega) hnl, Rat.mul_assoc]
theorem time_scl (hk : 0 < k) {T : Nat → Rat} (h : TimeC c.raw T) : TimeC (scl c k).raw fun s => T s * k⁻¹ := by
 have hl := scl_len c k
 have hki : k * k⁻¹ = 1 := Rat.mul_inv_cancel _ (fun e => by rw [e] at hk; exact absurd hk (by decide))
 refine ⟨fun s hs hls => by show T s * k⁻¹ = 0; rw [h.zero s (by omega) hls, Rat.zero_mul], fun s hs hnl hu => ?_⟩
 rw [hl] at hu ⊢
 have h1 := h.eq s (by omega) hnl ((sure_scl hk s).1 hu)
 rw [out_scl, zea (f := fun t => rq (scl c k).raw s t * (T t * k⁻¹)) (g := fun t => rq c.raw s t * T t) fun t _ => by rw [rq_scl]; grind, ← h1]
 grind
theorem stS_scl (T : Nat → Rat) : stS (scl c k).raw (fun s => T s * k⁻¹) = stS c.raw T * k⁻¹ := by
 unfold stS
 rw [scl_len, ← zdc]
 exact zea fun t _ => by
  show (qs (scl c k).raw.start).getD t 0 * (T t * k⁻¹) = _
  have e : (scl c k).raw.start = c.raw.start := rfl
  rw [e, Rat.mul_assoc]
theorem SmQ.scl (hk : 0 < k) (hb : ∀ i j, i < c.rates.length → j < c.start.length → over 720 28800 (k * (c.rates.getD i []).getD j 0)) (h : SmQ c) : SmQ (scl c k) where
 n1 := h.n1
 n5 := h.n5
 ll := h.ll
 rl := by unfold Go.Proofs.Ytlpdkbmmbdfoiaa.scl; simp [h.rl]
 st := h.st
 sum := h.sum
 rows := fun i r hr => by
  unfold Go.Proofs.Ytlpdkbmmbdfoiaa.scl at hr ⊢
  rw [List.getElem?_map, Option.map_eq_some_iff] at hr
  obtain ⟨r', hr', rfl⟩ := hr
  obtain ⟨h1, h2, h3, h4⟩ := h.rows i r' hr'
  have hi := (List.getElem?_eq_some_iff.1 hr').1
  refine ⟨by rw [List.length_map]; exact h1, fun q hq => ?_, fun x hx => ?_, fun hl q hq => ?_⟩
  ·obtain ⟨q', hq', rfl⟩ := List.mem_map.1 hq
   obtain ⟨j, hj, rfl⟩ := List.mem_iff_getElem.1 hq'
   refine ⟨?_, Rat.mul_nonneg (Rat.le_of_lt hk) (h2 _ hq').2⟩
   have h5 := hb i j hi (by omega)
   rw [List.getD_eq_getElem?_getD (l := c.rates), hr', Option.getD_some, List.getD_eq_getElem?_getD, List.getElem?_eq_getElem hj, Option.getD_some] at h5
   exact h5
  ·rw [List.getElem?_map, Option.map_eq_some_iff] at hx
   obtain ⟨y, hy, rfl⟩ := hx
   rw [h3 y hy, Rat.mul_zero]
  ·obtain ⟨y, hy, rfl⟩ := List.mem_map.1 hq
   rw [h4 hl y hy, Rat.mul_zero]
end
theorem small_scl : ∀ a : Fin 7, ∀ b : Fin 5, ∀ x : Fin 5, ∀ y : Fin 5, y.val ≠ 0 → fq false (1 + a.val) (1 + b.val) * fq false x.val y.val = mkRat (((1 + a.val) * x.val * (720 / ((1 + b.val) * y.val)) : Nat) : Int) 720 := by decide +kernel
theorem smallQ_scl {q : Rat} (h : zra q) {a b : Nat} (ha : a < 7) (hb : b < 5) : over 720 28800 (fq false (1 + a) (1 + b) * q) := by
 obtain ⟨x, y, hx, hy, hy2, rfl⟩ := h
 have h1 := small_scl ⟨a, ha⟩ ⟨b, hb⟩ ⟨x, by omega⟩ ⟨y, by omega⟩ (by show y ≠ 0; omega)
 refine ⟨_, h1, ?_⟩
 rw [Int.natAbs_natCast]
 have h2 : (1 + a) * x ≤ 7 * 4 := Nat.mul_le_mul (by omega) hx
 have h3 : 720 / ((1 + b) * y) ≤ 720 := Nat.div_le_self _ _
 have h4 := Nat.mul_le_mul h2 h3
 show (1 + a) * x * (720 / ((1 + b) * y)) ≤ 28800
 omega
theorem tapeP.scl {c : CQ} (h : tapeP c) {a b : Nat} (ha : a < 7) (hb : b < 5) : SmQ (scl c (fq false (1 + a) (1 + b))) := by
 refine SmQ.scl ?_ (fun i j hi hj => smallQ_scl (h.rate (by have := h.rl; omega) hj) ha hb) h.smQ
 have h1 : ¬ fq false (1 + a) (1 + b) < 0 := of_decide_eq_false (fq_neg false (1 + a) (1 + b) (by omega))
 have h2 : fq false (1 + a) (1 + b) ≠ 0 := fq_ne _ (by omega) (by omega)
 grind
end Go.Proofs.Ytlpdkbmmbdfoiaa
