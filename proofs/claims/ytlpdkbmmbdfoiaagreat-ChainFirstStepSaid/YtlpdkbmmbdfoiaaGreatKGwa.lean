/-
  package drydocklaw21: from.
-/
import Derived.Test.YtlpdkbmmbdfoiaaGreatKRb4
import Derived.Test.YtlpdkbmmbdfoiaaGreatKGn
import Derived.Test.YtlpdkbmmbdfoiaaGreatKMath12
import Derived.Test.YtlpdkbmmbdfoiaaGreatKOri
import Derived.Test.YtlpdkbmmbdfoiaaGreatKDt3
import Derived.Test.YtlpdkbmmbdfoiaaGreatKOwF
import Derived.Test.YtlpdkbmmbdfoiaaGreatKRa1
import Derived.Test.YtlpdkbmmbdfoiaaGreatKOth
import Derived.Test.YtlpdkbmmbdfoiaaGreatKGw8
import Derived.RegionTactic
import Derived.ChangeAlike
import Derived.Lib.SliceRun
set_option linter.unusedVariables false
set_option linter.unusedSimpArgs false
namespace Go.Proofs.YtlpdkbmmbdfoiaaGreat
open Go.RowKit
structure zac (w : World) (b : Nat) (l : List Nat) (at' : Nat) : Prop where
 lt : b < w.heap.size
 ex : ∃ v, w.cell? ⟨b, 0, none⟩ = some v ∧ zua w v (l.map fun x : Nat => Value.int .u8 (x : Nat))
 c1 : w.cell? ⟨b, 1, none⟩ = some (.int .i64 (at' : Nat))
 f1 : w.frozen? ⟨b, 1, none⟩ = false
 len : l.length ≤ 400
 le : at' ≤ 400
 byte : ∀ x ∈ l, x < 256
def zfg (b : Nat) (w w' : World) : Prop := (∃ k, w' = w.drewN k) ∨ ∃ k k' a, w' = ((w.drewN k).setCell ⟨b, 1, none⟩ (.int .i64 a)).drewN k'
def RNext (w0 : World) (b : Nat) (l : List Nat) (n : Nat) (e : Ending) (w : World) : Prop := ∃ x a : Nat, e = .returned (.int .i64 (x : Nat)) ∧ x < n ∧ zac w b l a ∧ zfg b w0 w
theorem zac.drawn {w : World} {b : Nat} {l : List Nat} {a : Nat} (h : zac w b l a) (k : Nat) : zac (w.drewN k) b l a := by
 obtain ⟨lt, ⟨v, e1, e2⟩, c1, f1, h1, h2, h3⟩ := h
 have hb := zla (B := w.heap.size) w k
 exact ⟨Nat.lt_of_lt_of_le lt hb.size, ⟨v, zca hb e1, e2.below hb⟩, zca hb c1, by rw [hb.frozen lt]; exact f1, h1, h2, h3⟩
set_option maxHeartbeats 800000 in
theorem next_zero (b : Nat) (l : List Nat) (a n : Nat) (w : World) (h : zac w b l a) (hn : 1 ≤ n) (hn2 : n ≤ 65536) (hz : l.length ≤ a ∨ n < 2) :
 Calls Tryz.prog 107 #[.pointer (some ⟨b, 0, none⟩), .int .i64 n] w (RNext w b l n) := by
 obtain ⟨v, e1, e2⟩ := h.ex
 have c1 := h.c1
 have f1 := h.f1
 have sv := zua.sl e2
 have lv : slen v = l.length := by have := zua.len e2; simpa using this
 have hll := h.len
 have hle := h.le
 by_cases h1 : l.length ≤ a
 ·have hd : decide (((l.length : Nat) : Int) ≤ (a : Nat)) = true := decide_eq_true (by omega)
  go_enter Tryz.func107, Tryz.ntmps107
  go_wp2
  go_quiet (fail)
  go_wp2
  go_ret
  exact ⟨0, a, rfl, hn, h.drawn _, Or.inl ⟨_, rfl⟩⟩
 ·have hd : decide (((l.length : Nat) : Int) ≤ (a : Nat)) = false := decide_eq_false (by omega)
  have h2 : n < 2 := hz.resolve_left h1
  have hd2 : decide ((n : Int) < 2) = true := decide_eq_true (by omega)
  go_enter Tryz.func107, Tryz.ntmps107
  go_wp2
  go_quiet (fail)
  go_wp2
  go_ret
  exact ⟨0, a, rfl, hn, h.drawn _, Or.inl ⟨_, rfl⟩⟩
theorem cell_tick {w : World} {b : Nat} {a0 : Int} {p : Addr} {x : Value} (hc : w.cell? ⟨b, 1, none⟩ = some (.int .i64 a0)) (hp : w.cell? p = some x) (hx : ∀ z, x ≠ .int .i64 z) (u : Value) : (w.setCell ⟨b, 1, none⟩ u).cell? p = some x := by
 rw [World.cell?_setCell_other]
 ·exact hp
 ·intro e
  rw [← e, hc] at hp
  injection hp with hp
  exact hx _ hp.symm
theorem zac.tick {w : World} {b : Nat} {l : List Nat} {a : Nat} (h : zac w b l a) (a' : Nat) (ha : a' ≤ 400) : zac (w.setCell ⟨b, 1, none⟩ (.int .i64 (a' : Nat))) b l a' := by
 obtain ⟨lt, ⟨v, e1, e2⟩, c1, f1, h1, h2, h3⟩ := h
 refine ⟨by simpa [World.setCell] using lt, ⟨v, ?_, e2.sl, e2.len, fun j hj => cell_tick c1 (e2.cell j hj) (fun z => by simp) _⟩, ?_, ?_, h1, ha, h3⟩
 ·rw [World.cell?_setCell_other _ _ _ _ (by simp)]; exact e1
 ·exact World.cell?_setCell_same _ _ _ c1
 ·go_simp
set_option maxHeartbeats 800000 in
theorem next_more (b : Nat) (l : List Nat) (a n : Nat) (w : World) (h : zac w b l a) (hn2 : n ≤ 65536) (h1 : a < l.length) (h2 : 2 ≤ n) :
 Calls Tryz.prog 107 #[.pointer (some ⟨b, 0, none⟩), .int .i64 n] w (RNext w b l n) := by
 obtain ⟨v, e1, e2⟩ := h.ex
 have c1 := h.c1
 have f1 := h.f1
 have sv := zua.sl e2
 have lv : slen v = l.length := by have := zua.len e2; simpa using this
 have hll := h.len
 have hd : decide (((l.length : Nat) : Int) ≤ (a : Nat)) = false := decide_eq_false (by omega)
 have hd2 : decide ((n : Int) < 2) = false := decide_eq_false (by omega)
 have HT := zH h
 go_enter Tryz.func107, Tryz.ntmps107
 go_wp2
 go_quiet (fail)
 have hT1 := HT.out.drawn nq
 obtain ⟨v2, e11, e12⟩ := hT1.ex
 have c2 := hT1.c1
 have f2 := hT1.f1
 clear hd hd2 c1 f1
 go_wp2
 have hT2 : zac ((w.drewN nq).setCell ⟨b, 1, none⟩ (.int .i64 ((a : Int) + 1))) b l (a + 1) := by
  have := hT1.tick (a + 1) (by omega)
  rwa [show (((a + 1 : Nat)) : Int) = (a : Int) + 1 from by omega] at this
 obtain ⟨v3, e13, e14⟩ := hT2.ex
 have c3 := hT2.c1
 have s3 := zua.sl e14
 have l3 : slen v3 = l.length := by have := zua.len e14; simpa using this
 have hx := e14.cell a (by simpa using h1)
 rw [List.getElem_map] at hx
 have hxb := h.byte l[a] (List.getElem_mem h1)
 have HTK : Hid (∀ k, zfg b w (((w.drewN nq).setCell ⟨b, 1, none⟩ (.int .i64 ((a : Int) + 1))).drewN k)) := zH (fun k => Or.inr ⟨_, _, _, rfl⟩)
 generalize l[a]'h1 = x at *
 generalize (w.drewN nq).setCell ⟨b, 1, none⟩ (.int .i64 ((a : Int) + 1)) = W2 at *
 have i1 : IntKind.i64.wrap ((((a + 1 : Nat)) : Int) - 1) = (a : Int) := by rw [IntWalk.i64_in _ (by omega)]; omega
 have i2 : (0 : Int) ≤ (a : Int) := by omega
 have i3 : (a : Int) < (l.length : Nat) := by omega
 have i4 : Int.tmod (x : Int) (n : Int) = ((x % n : Nat) : Int) := by rw [Int.tmod_eq_emod_of_nonneg (by omega)]; omega
 go_quiet (fail)
 go_wp2
 go_ret
 exact ⟨x % n, a + 1, by first | rfl | (congr 2), Nat.mod_lt _ (by omega), hT2.drawn _, HTK.out _⟩
theorem next_any (b : Nat) (l : List Nat) (a n : Nat) (w : World) (h : zac w b l a) (hn : 1 ≤ n) (hn2 : n ≤ 65536) :
 Calls Tryz.prog 107 #[.pointer (some ⟨b, 0, none⟩), .int .i64 n] w (RNext w b l n) := by
 rcases Nat.lt_or_ge a l.length with h1 | h1
 ·rcases Nat.lt_or_ge n 2 with h2 | h2
  ·exact next_zero b l a n w h hn hn2 (Or.inr h2)
  ·exact next_more b l a n w h hn2 h1 h2
 ·exact next_zero b l a n w h hn hn2 (Or.inl h1)
theorem zfg.cell {b : Nat} {w w' : World} (h : zfg b w w') {a0 : Int} (hc : w.cell? ⟨b, 1, none⟩ = some (.int .i64 a0)) {p : Addr} {x : Value} (hp : w.cell? p = some x) (hx : ∀ z, x ≠ .int .i64 z) : w'.cell? p = some x := by
 rcases h with ⟨k, rfl⟩ | ⟨k, k', a, rfl⟩
 ·exact zca (zla w k) hp
 ·refine zca (zla _ k') ?_
  exact cell_tick (zca (zla w k) hc) (zca (zla w k) hp) hx _
theorem zfg.size {b : Nat} {w w' : World} (h : zfg b w w') : w.heap.size ≤ w'.heap.size := by
 rcases h with ⟨k, rfl⟩ | ⟨k, k', a, rfl⟩
 ·exact (zla (B := w.heap.size) w k).size
 ·have h1 := (zla (B := w.heap.size) w k).size
  have h2 := (zla (B := w.heap.size) ((w.drewN k).setCell ⟨b, 1, none⟩ (.int .i64 a)) k').size
  have h3 : ((w.drewN k).setCell ⟨b, 1, none⟩ (.int .i64 a)).heap.size = (w.drewN k).heap.size := by simp [World.setCell]
  omega
theorem zfg.below {b B : Nat} {w w' : World} (h : zfg b w w') (hB : B ≤ b) (hs : B ≤ w.heap.size) : Below B w w' := by
 rcases h with ⟨k, rfl⟩ | ⟨k, k', a, rfl⟩
 ·exact zla w k
 ·exact ((zla w k).setCell (p := ⟨b, 1, none⟩) hB _).trans (zla _ k')
theorem znc.tick {b : Nat} {w w' : World} {l0 : List Nat} {a : Nat} (ht : zac w b l0 a) (h : zfg b w w') {v : Value} {l : List Nat} (hv : znc w v l) : znc w' v l :=
 ⟨hv.sl, hv.len, fun j hj => h.cell ht.c1 (hv.cell j hj) (fun z => by simp), hv.lm⟩
theorem zpb.tick {b : Nat} {w w' : World} {l0 : List Nat} {a : Nat} (ht : zac w b l0 a) (h : zfg b w w') {v : Value} {n : Nat} (hv : zpb w v n) : zpb w' v n := ⟨hv.v.tick ht h, hv.2⟩
theorem zoa.tick {b : Nat} {w w' : World} {l0 : List Nat} {a : Nat} (ht : zac w b l0 a) (h : zfg b w w') {v : Value} {q : Rat} (hv : zoa w v q) : zoa w' v q := by
 obtain ⟨x, y, rfl, h1, h2⟩ := hv; exact ⟨x, y, rfl, h1.tick ht h, h2.tick ht h⟩
theorem Tryz.infoU8 : (Tryz.prog.info? 5).map (fun i => (i.zero, i.size, i.bytes)) = some (some (.int .u8 0), 1, 1) := by kernel_rfl
def bytes (l : List Nat) : List Value := l.map fun x : Nat => Value.int .u8 (x : Nat)
theorem zua.tk {w : World} {v : Value} {l : List Value} (h : zua w v l) (n : Nat) (hn : n ≤ l.length) : zua w (tk v n) (l.take n) := by
 have e : (l.take n).length = n := by rw [List.length_take]; omega
 have h1 := h.sl.le
 have h2 := h.len
 refine ⟨h.sl.tk (by omega), by rw [e]; exact h.sl.slen_tk n, fun j hj => ?_⟩
 rw [ptr_tk, List.getElem_take]
 exact h.cell j (by omega)
def RTape (w0 : World) (l : List Nat) (e : Ending) (w : World) : Prop := ∃ b, e = .returned (.pointer (some ⟨b, 0, none⟩)) ∧ w0.heap.size ≤ b ∧ zac w b l 0 ∧ Below w0.heap.size w0 w
theorem tape_new (w w1 : World) (v : Value) (l : List Nat) (t e : TypeId) (hl : l.length ≤ 400) (hb : ∀ x ∈ l, x < 256) (h : zfd w1 e w.heap.size v (bytes l)) (hbel : Below w.heap.size w w1) :
 RTape w l (.returned (.pointer (some ⟨w1.heap.size, 0, none⟩))) (w1.alloc (.cells #[v, .int .i64 0] t)) := by
 refine ⟨_, rfl, hbel.size, ⟨by simp, ⟨v, by simp, ?_⟩, by simp, by simp, hl, by omega, hb⟩, hbel.alloc hbel.size _⟩
 exact ⟨h.sl, by rw [h.len]; rfl, fun j hj => (h.alloc _).cell j hj⟩
theorem append_u8 {P : Program} (t e : TypeId) (i : TypeInfo) (ht : P.underlying t = some (.slice e)) (hi : P.info? e = some i) (hz : i.zero = some (.int .u8 0))
 (hsize : i.size = 1) (hby : i.bytes = 1) (w : World) {ops : Array Oper} {rest : List Oper} {o : Oper} {a : Act} {Q : Exit → Act → World → Prop} (hgd : o.guard = none) (s x : Operand)
 (ho : o.op = .call { callee := .builtin .append, args := #[s, x], argTypes := #[t, t] })
 (hs : a.eval s = .slice none 0 0) (xv : Value) (hxe : a.eval x = xv) (l : List Nat) (hx : zua w xv (bytes l)) (hb : l.length ≤ 400)
 (h : ∀ v' w', zfd w' e w.heap.size v' (bytes l) → Below w.heap.size w w' → wpList P ops Q rest (a.put o.dst v') w') : wpList P ops Q (o :: rest) a w := by
 have hl : (bytes l).length = l.length := by simp [bytes]
 refine zvd w hgd s x t ho w.heap.size e i (.int .u8 0) 1 ht hi hz hsize hby rfl _ [] hs (zfd.nil _ _ _) xv hxe hx.sl (bytes l) hx.len
  (fun j hj => hx.cell j hj) (fun u hu => by obtain ⟨x, _, rfl⟩ := List.mem_map.1 hu; rfl)
  (by simp [maxLen, hl]; omega) (by simp [hl]; omega) (Nat.le_refl _) ?_
 intro v' w' h2 _ h4
 rw [List.nil_append] at h2
 exact h v' w' h2 h4
set_option maxHeartbeats 1600000 in
theorem new_any (v : Value) (l : List Nat) (w : World) (h : zua w v (bytes l)) (hb : ∀ x ∈ l, x < 256) :
 Calls Tryz.prog 41 #[v] w (RTape w (l.take 400)) := by
 obtain ⟨i0, hi, hz0, hz1, hz2⟩ := info_parts Tryz.infoU8
 have hA := append_u8 (P := Tryz.prog) 22 5 i0 Tryz.underlying22 hi hz0 hz1 hz2
 clear hi hz0 hz1 hz2
 have sv := h.sl
 have lv : slen v = l.length := by rw [h.len, bytes, List.length_map]
 have hle := sv.le
 rw [lv] at hle
 by_cases hd : 400 < l.length
 ·have hd1 : decide ((400 : Int) < (l.length : Nat)) = true := decide_eq_true (by omega)
  have hcap : (400 : Int) ≤ scap v := by omega
  have ht2 : zua w (tk v 400) (bytes (l.take 400)) := by have := h.tk 400 (by simp [bytes]; omega); simpa [bytes, List.map_take] using this
  go_enter Tryz.func41, Tryz.ntmps41
  go_wp2_with (at_builtin; refine hA w rfl _ _ rfl rfl _ rfl (l.take 400) ht2 (by simp; omega) ?_; intro v' w1 hown hbel; obtain ⟨an, nn, cn, rfl, _⟩ := hown.sl)
  go_ret
  exact tape_new w w1 _ _ _ _ (by simp; omega) (fun x hx => hb x (List.mem_of_mem_take hx)) hown hbel
 ·have hd1 : decide ((400 : Int) < (l.length : Nat)) = false := decide_eq_false (by omega)
  rw [List.take_of_length_le (by omega)]
  go_enter Tryz.func41, Tryz.ntmps41
  go_wp2_with (at_builtin; refine hA w rfl _ _ rfl rfl _ rfl l h (by omega) ?_; intro v' w1 hown hbel; obtain ⟨an, nn, cn, rfl, _⟩ := hown.sl)
  go_ret
  exact tape_new w w1 _ _ _ _ (by omega) hb hown hbel
theorem zyb.tick {B b a : Nat} {l : List Nat} {w w' : World} (ht : zac w b l a) (hb : b < B) (h : zfg b w w') : zyb B w w' := by
 refine ⟨h.size, fun g h1 h2 => ?_, fun p z hp => h.cell ht.c1 hp (fun z => by simp)⟩
 rcases h with ⟨k, rfl⟩ | ⟨k, k', a', rfl⟩
 ·exact (zla (B := w.heap.size) w k).block g h2
 ·have h3 := (zla (B := w.heap.size) w k)
  rw [(zla (B := ((w.drewN k).setCell ⟨b, 1, none⟩ (.int .i64 a')).heap.size) _ k').block g (by simp [World.setCell]; have := h3.size; omega)]
  rw [Below.heap_setCell _ _ _ _ (by simp; omega)]
  exact h3.block g h2
theorem zac.below {w w' : World} {l : List Nat} {b a : Nat} (h : zac w b l a) (hb : Below w.heap.size w w') : zac w' b l a := by
 obtain ⟨lt, ⟨v, e1, e2⟩, c1, f1, h1, h2, h3⟩ := h
 exact ⟨Nat.lt_of_lt_of_le lt hb.size, ⟨v, zca hb e1, e2.below hb⟩, zca hb c1, by rw [hb.frozen lt]; exact f1, h1, h2, h3⟩
def ztg (w : World) (b : Nat) (l : List Nat) (B a : Nat) : Prop := zac w b l a ∧ ∀ v, w.cell? ⟨b, 0, none⟩ = some v → ∀ j, j < l.length → (ptr v j).block < B
theorem zac.b {w : World} {b a : Nat} {l : List Nat} (h : zac w b l a) : ztg w b l w.heap.size a := by
 refine ⟨h, fun v hv j hj => ?_⟩
 obtain ⟨v', e1, e2⟩ := h.ex
 rw [e1] at hv
 injection hv with hv
 subst hv
 exact World.block_lt_of_cell? w _ (e2.cell j (by simpa using hj))
theorem ztg.mono {w : World} {b a B B' : Nat} {l : List Nat} (h : ztg w b l B a) (hB : B ≤ B') : ztg w b l B' a := ⟨h.1, fun v hv j hj => Nat.lt_of_lt_of_le (h.2 v hv j hj) hB⟩
theorem ztg.below {w w' : World} {b a B : Nat} {l : List Nat} (h : ztg w b l B a) (hb : Below w.heap.size w w') : ztg w' b l B a := by
 obtain ⟨h1, h2⟩ := h
 refine ⟨h1.below hb, fun v hv j hj => ?_⟩
 rw [hb.cell h1.lt] at hv
 exact h2 v hv j hj
theorem ztg.low {w w' : World} {b a B : Nat} {l : List Nat} (h : ztg w b l B a) (hb : Below B w w') (hB : b < B) : ztg w' b l B a := by
 obtain ⟨⟨lt, ⟨v, e1, e2⟩, c1, f1, h1, h2, h3⟩, h4⟩ := h
 have hl := h4 v e1
 refine ⟨⟨Nat.lt_of_lt_of_le lt hb.size, ⟨v, by rw [hb.cell (by exact hB)]; exact e1, e2.sl, e2.len, fun j hj => ?_⟩, by rw [hb.cell (by exact hB)]; exact c1, by rw [hb.frozen (by exact hB)]; exact f1, h1, h2, h3⟩, fun u hu j hj => ?_⟩
 ·rw [hb.cell (hl j (by simpa using hj))]; exact e2.cell j hj
 ·rw [hb.cell (by exact hB)] at hu
  exact h4 u hu j hj
theorem ztg.tick {w w' : World} {b a a' B : Nat} {l : List Nat} (h : ztg w b l B a) (ht : zfg b w w') (hta : zac w' b l a') : ztg w' b l B a' := by
 refine ⟨hta, fun v hv j hj => ?_⟩
 obtain ⟨u, e1, e2⟩ := h.1.ex
 have e3 := ht.cell h.1.c1 e1 (fun z => by obtain ⟨a, n, c, rfl, _⟩ := zua.sl e2; simp)
 rw [e3] at hv
 injection hv with hv
 subst hv
 exact h.2 _ e1 j hj
theorem ztg.set {w : World} {b a B : Nat} {l : List Nat} (h : ztg w b l B a) {p : Addr} {x : Value} (hp : p.block ≠ b) (hc : w.cell? p = some x) (hx : ∀ z, x ≠ .int .u8 z) (u : Value) : ztg (w.setCell p u) b l B a := by
 obtain ⟨⟨lt, ⟨v, e1, e2⟩, c1, f1, h1, h2, h3⟩, h4⟩ := h
 have hne : ∀ k, p ≠ ⟨b, k, none⟩ := fun k e => hp (by rw [e])
 refine ⟨⟨by simpa [World.setCell] using lt, ⟨v, by rw [World.cell?_setCell_other _ _ _ _ (hne _)]; exact e1, e2.sl, e2.len, fun j hj => ?_⟩, by rw [World.cell?_setCell_other _ _ _ _ (hne _)]; exact c1, by rw [World.frozen?_setCell]; exact f1, h1, h2, h3⟩, fun u' hu j hj => ?_⟩
 ·rw [World.cell?_setCell_other]
  ·exact e2.cell j hj
  ·intro e
   have h6 := e2.cell j hj
   rw [← e, hc] at h6
   injection h6 with h6
   rw [List.getElem_map] at h6
   exact hx _ h6
 ·rw [World.cell?_setCell_other _ _ _ _ (hne _)] at hu
  exact h4 u' hu j hj
theorem zfg.frozen {w w' : World} {b : Nat} (h : zfg b w w') {p : Addr} (hp : p.block < w.heap.size) : w'.frozen? p = w.frozen? p := by
 rcases h with ⟨k, rfl⟩ | ⟨k, k', a, rfl⟩
 ·exact (zla (B := w.heap.size) w k).frozen hp
 ·have h1 := (zla (B := w.heap.size) w k)
  rw [(zla (B := ((w.drewN k).setCell ⟨b, 1, none⟩ (.int .i64 a)).heap.size) _ k').frozen (by simp [World.setCell]; have := h1.size; omega)]
  rw [World.frozen?_setCell]
  exact h1.frozen hp
theorem C3.tick {w w' : World} {b a c : Nat} {l : List Nat} {v0 v1 v2 : Value} (h : C3 w c v0 v1 v2) (hta : zac w b l a) (ht : zfg b w w') (n0 : ∀ z, v0 ≠ .int .i64 z) (n1 : ∀ z, v1 ≠ .int .i64 z) (n2 : ∀ z, v2 ≠ .int .i64 z) : C3 w' c v0 v1 v2 :=
 ⟨Nat.lt_of_lt_of_le h.lt ht.size, ht.cell hta.c1 h.c0 n0, ht.cell hta.c1 h.c1 n1, ht.cell hta.c1 h.c2 n2, by rw [ht.frozen h.lt]; exact h.f0, by rw [ht.frozen h.lt]; exact h.f1, by rw [ht.frozen h.lt]; exact h.f2⟩
theorem zvc.noInt {v : Value} (h : zvc v) : ∀ z, v ≠ .int .i64 z := fun z e => by obtain ⟨a, n, c, rfl, _⟩ := h; cases e
theorem zvc.noLimb {v : Value} (h : zvc v) : ∀ z, v ≠ .int .u32 z := fun z e => by obtain ⟨a, n, c, rfl, _⟩ := h; cases e
theorem zvc.noByte {v : Value} (h : zvc v) : ∀ z, v ≠ .int .u8 z := fun z e => by obtain ⟨a, n, c, rfl, _⟩ := h; cases e
theorem zff {w w' : World} {B : Nat} {u : Value} (hg : w.grownBy w' u.ownBlock) (hB : B ≤ w.heap.size) (hu : ∀ k, u.ownBlock = some k → B ≤ k ∧ k < w.heap.size) : Below B w w' := zza hg hB (fun k hk => (hu k hk).1)
structure ChW (w : World) (bt : Nat) (l : List Nat) (B b5 : Nat) (vr vs vl : Value) (rs : List Value) (rates : List (List Rat)) (start : List Rat) (lost : List Bool) : Prop where
 tape : ∃ a, ztg w bt l B a
 box : C3 w b5 vr vs vl
 st : ztb w 38 B vs start
 lo : zfe w 4 B 1 vl (lost.map Value.bool).length (lost.map Value.bool)
 ra : zfe w 25 B 1 vr rs.length rs
 rl : rs.length = rates.length
 rows : ∀ (j : Nat) (h : j < rs.length) (h' : j < rates.length), ztb w 38 B rs[j] rates[j] ∧ (rs[j].ownBlock = none ∨ rs[j].ownBlock ≠ vs.ownBlock)
 sz : B ≤ w.heap.size
 bt5 : bt < B ∧ b5 < B ∧ b5 ≠ bt
section
variable {w w' : World} {bt : Nat} {l : List Nat} {B b5 : Nat} {vr vs vl : Value} {rs : List Value} {rates : List (List Rat)} {start : List Rat} {lost : List Bool}
theorem ChW.of (h : ChW w bt l B b5 vr vs vl rs rates start lost) (hm : zyb B w w') (ht : ∃ a, ztg w' bt l B a) (hb : C3 w' b5 vr vs vl) : ChW w' bt l B b5 vr vs vl rs rates start lost :=
 ⟨ht, hb, h.st.moves hm (Nat.le_refl _), h.lo.moves hm (Nat.le_refl _), h.ra.moves hm (Nat.le_refl _), h.rl, fun j h1 h2 => ⟨(h.rows j h1 h2).1.moves hm (Nat.le_refl _), (h.rows j h1 h2).2⟩, Nat.le_trans h.sz hm.size, h.bt5⟩
theorem ChW.below (h : ChW w bt l B b5 vr vs vl rs rates start lost) (hb : Below w.heap.size w w') : ChW w' bt l B b5 vr vs vl rs rates start lost := by
 obtain ⟨a, ht⟩ := h.tape
 exact h.of (zyb.below hb) ⟨a, ht.below hb⟩ (h.box.belowS hb)
theorem ChW.tick (h : ChW w bt l B b5 vr vs vl rs rates start lost) {a' : Nat} (ht : zfg bt w w') (hta : zac w' bt l a') : ChW w' bt l B b5 vr vs vl rs rates start lost := by
 obtain ⟨a, h0⟩ := h.tape
 exact h.of (zyb.tick h0.1 h.bt5.1 ht) ⟨a', h0.tick ht hta⟩ (h.box.tick h0.1 ht h.ra.sl.noInt h.st.sl.noInt h.lo.sl.noInt)
theorem ChW.lostG (h : ChW w bt l B b5 vr vs vl rs rates start lost) {c : Bool} {v' : Value} (hv : zfe w' 4 B 1 v' (lost.map Value.bool ++ [Value.bool c]).length (lost.map Value.bool ++ [Value.bool c])) (hg : w.grownBy w' vl.ownBlock) (hn : zkc w vl) :
 ChW (w'.setCell ⟨b5, 2, none⟩ v') bt l B b5 vr vs v' rs rates start (lost ++ [c]) ∧ Below B w w' := by
 obtain ⟨⟨a, ht⟩, box, st, lo, ra, rl, rows, sz, b1, b2, b3⟩ := h
 have hb := zff (B := B) hg sz lo.block
 have box' := box.below hb b2
 have hm : zyb B w' (w'.setCell ⟨b5, 2, none⟩ v') := zyb.set b2 box'.c2 lo.sl.noLimb _
 obtain ⟨xs, s1, s2⟩ := id st
 have st' : ztb w' 38 B vs start := st.grown hg hn (s1.kinds lo (by decide))
 refine ⟨⟨⟨a, (ht.low hb b1).set (by exact b3) box'.c2 lo.sl.noByte _⟩, box'.set2 _, st'.moves hm (Nat.le_refl _), ?_, (ra.grown hg (ra.kinds lo (by decide))).moves hm (Nat.le_refl _), rl, fun j h1 h2 => ?_, Nat.le_trans sz (Nat.le_trans hb.size hm.size), b1, b2, b3⟩, hb⟩
 ·rw [List.map_append]; exact hv.moves hm (Nat.le_refl _)
 ·obtain ⟨k1, k2⟩ := rows j h1 h2
  obtain ⟨ys, y1, y2⟩ := id k1
  exact ⟨(k1.grown hg hn (y1.kinds lo (by decide))).moves hm (Nat.le_refl _), k2⟩
theorem ChW.startG (h : ChW w bt l B b5 vr vs vl rs rates start lost) {q : Rat} {v' : Value} {k : Nat} (hv : ztb w' 38 B v' (start ++ [q])) (hg : w.grownBy w' vs.ownBlock) (hn : zkc w vs) (hvb : v'.ownBlock = vs.ownBlock ∨ v'.ownBlock = some k) (hk : w.heap.size ≤ k) :
 ChW (w'.setCell ⟨b5, 1, none⟩ v') bt l B b5 vr v' vl rs rates (start ++ [q]) lost ∧ Below B w w' := by
 obtain ⟨⟨a, ht⟩, box, st, lo, ra, rl, rows, sz, b1, b2, b3⟩ := h
 have hb := zff (B := B) hg sz st.block
 have box' := box.below hb b2
 have hm : zyb B w' (w'.setCell ⟨b5, 1, none⟩ v') := zyb.set b2 box'.c1 st.sl.noLimb _
 obtain ⟨xs, s1, s2⟩ := id st
 refine ⟨⟨⟨a, (ht.low hb b1).set (by exact b3) box'.c1 st.sl.noByte _⟩, box'.set1 _, hv.moves hm (Nat.le_refl _), (lo.grown hg (lo.kinds s1 (by decide))).moves hm (Nat.le_refl _), (ra.grown hg (ra.kinds s1 (by decide))).moves hm (Nat.le_refl _), rl, fun j h1 h2 => ?_, Nat.le_trans sz (Nat.le_trans hb.size hm.size), b1, b2, b3⟩, hb⟩
 obtain ⟨k1, k2⟩ := rows j h1 h2
 refine ⟨(k1.grown hg hn k2).moves hm (Nat.le_refl _), ?_⟩
 rcases k2 with k2 | k2
 ·exact Or.inl k2
 ·cases ho : rs[j].ownBlock with
  | none => exact Or.inl rfl
  | some g =>
    refine Or.inr ?_
    have := k1.block g ho
    rcases hvb with e | e
    ·rw [e, ← ho]; exact k2
    ·rw [e]; intro e2; injection e2 with e2; omega
theorem ChW.ratesG (h : ChW w bt l B b5 vr vs vl rs rates start lost) {q : List Rat} {r v' : Value} (hr : ztb w 38 B r q) (hrs : r.ownBlock = none ∨ r.ownBlock ≠ vs.ownBlock) (hv : zfe w' 25 B 1 v' (rs ++ [r]).length (rs ++ [r])) (hg : w.grownBy w' vr.ownBlock) (hn : zkc w vr) :
 ChW (w'.setCell ⟨b5, 0, none⟩ v') bt l B b5 v' vs vl (rs ++ [r]) (rates ++ [q]) start lost ∧ Below B w w' := by
 obtain ⟨⟨a, ht⟩, box, st, lo, ra, rl, rows, sz, b1, b2, b3⟩ := h
 have hb := zff (B := B) hg sz ra.block
 have box' := box.below hb b2
 have hm : zyb B w' (w'.setCell ⟨b5, 0, none⟩ v') := zyb.set b2 box'.c0 ra.sl.noLimb _
 obtain ⟨xs, s1, s2⟩ := id st
 obtain ⟨zs, z1, z2⟩ := id hr
 refine ⟨⟨⟨a, (ht.low hb b1).set (by exact b3) box'.c0 ra.sl.noByte _⟩, box'.set0 _, (st.grown hg hn (s1.kinds ra (by decide))).moves hm (Nat.le_refl _), (lo.grown hg (lo.kinds ra (by decide))).moves hm (Nat.le_refl _), hv.moves hm (Nat.le_refl _), by simp [rl], fun j h1 h2 => ?_, Nat.le_trans sz (Nat.le_trans hb.size hm.size), b1, b2, b3⟩, hb⟩
 rcases Nat.lt_or_ge j rs.length with hj | hj
 ·have hj2 : j < rates.length := by omega
  rw [List.getElem_append_left hj, List.getElem_append_left hj2]
  obtain ⟨k1, k2⟩ := rows j hj hj2
  obtain ⟨ys, y1, y2⟩ := id k1
  exact ⟨(k1.grown hg hn (y1.kinds ra (by decide))).moves hm (Nat.le_refl _), k2⟩
 ·obtain rfl : j = rs.length := by simp at h1; omega
  have e1 : (rs ++ [r])[rs.length]'h1 = r := by simp
  have e2 : (rates ++ [q])[rs.length]'h2 = q := by simp [rl]
  rw [e1, e2]
  exact ⟨(hr.grown hg hn (z1.kinds ra (by decide))).moves hm (Nat.le_refl _), hrs⟩
end
theorem zph : ∀ z, Value.slice none 0 0 ≠ .int .i64 z := fun z => by simp
def Fr (w : World) (bt : Nat) (wx : World) : Prop := C3 wx w.heap.size (.slice none 0 0) (.slice none 0 0) (.slice none 0 0) ∧ (∀ B, B ≤ bt → B ≤ w.heap.size → Below B w wx)
theorem Fr.below {w wx wy : World} {bt : Nat} (h : Fr w bt wx) (hb : Below wx.heap.size wx wy) : Fr w bt wy :=
 ⟨h.1.belowS hb, fun B h1 h2 => (h.2 B h1 h2).trans (hb.mono (by have := h.1.lt; omega))⟩
theorem Fr.tick {w wx wy : World} {bt a : Nat} {l : List Nat} (h : Fr w bt wx) (ht : zac wx bt l a) (hk : zfg bt wx wy) : Fr w bt wy :=
 ⟨h.1.tick ht hk zph zph zph, fun B h1 h2 => (h.2 B h1 h2).trans (hk.below h1 (by have := h.1.lt; omega))⟩
theorem Fr.low {w wx wy : World} {bt B : Nat} (h : Fr w bt wx) (hb : Below B wx wy) (hB : w.heap.size < B) : Fr w bt wy :=
 ⟨h.1.below hb hB, fun B' h1 h2 => (h.2 B' h1 h2).trans (hb.mono (by omega))⟩
theorem Fr.set {w wx : World} {bt : Nat} (h : Fr w bt wx) (p : Addr) (hp : w.heap.size < p.block) (u : Value) : Fr w bt (wx.setCell p u) :=
 ⟨h.1.other p u (by omega), fun B' h1 h2 => (h.2 B' h1 h2).setCell (by omega) u⟩
theorem zfe.over {w : World} {e : TypeId} {B size n : Nat} {v : Value} {xs : List Value} (h : zfe w e B size v n xs) {p : Addr} (hp : v.ownBlock = none ∨ v.ownBlock ≠ some p.block) (u : Value) : zfe (w.setCell p u) e B size v n xs := by
 have key : ∀ g, v.ownBlock = some g → (w.setCell p u).heap[g]? = w.heap[g]? := fun g hg => Below.heap_setCell _ _ _ _ (by
  intro e; rcases hp with h1 | h1
  ·rw [hg] at h1; cases h1
  ·exact h1 (by rw [hg, e]))
 refine ⟨⟨h.own.1, ?_⟩, fun g hg cur e' fz hc => ?_⟩
 ·rcases h.own.2 with h' | ⟨g, cap, cur, rfl, hb, hg, rest⟩
  ·exact .inl h'
  ·exact .inr ⟨g, cap, cur, rfl, hb, by rw [key g rfl]; exact hg, rest⟩
 ·rw [key g hg] at hc
  exact h.nl g hg cur e' fz hc
theorem ztb.over {w : World} {e : TypeId} {B : Nat} {v : Value} {q : List Rat} (h : ztb w e B v q) {p : Addr} {x : Value} (hp : v.ownBlock = none ∨ v.ownBlock ≠ some p.block) (hc : w.cell? p = some x) (hx : ∀ z, x ≠ .int .u32 z) (u : Value) : ztb (w.setCell p u) e B v q := by
 obtain ⟨xs, h1, h2⟩ := h
 refine ⟨xs, h1.over hp u, fun j hj => ?_⟩
 obtain ⟨a, b, e1, e2, e3, e4, e5⟩ := h2 j hj
 exact ⟨a, b, e1, e2, e3, ⟨e4.1.over hc hx u, e4.2⟩, ⟨e5.1.over hc hx u, e5.2⟩⟩
theorem zyb.high {B : Nat} {w0 w : World} (h : zyb B w0 w) {p : Addr} {x : Value} (hp : w0.heap.size ≤ p.block) (hc : w.cell? p = some x) (hx : ∀ z, x ≠ .int .u32 z) (u : Value) : zyb B w0 (w.setCell p u) := by
 refine ⟨by simpa [World.setCell] using h.size, fun g h1 h2 => ?_, fun q z hq => ?_⟩
 ·rw [Below.heap_setCell _ _ _ _ (by omega)]; exact h.row g h1 h2
 ·rw [World.cell?_setCell_other]
  ·exact h.limb q z hq
  ·intro e
   have := h.limb q z hq
   rw [← e, hc] at this
   injection this with this
   exact hx _ this
theorem zyb.grow {B : Nat} {w0 w w' : World} {v : Value} (h : zyb B w0 w) (hg : w.grownBy w' v.ownBlock) (hn : zkc w v) (hv : ∀ k, v.ownBlock = some k → w0.heap.size ≤ k) : zyb B w0 w' := by
 have hs : w.heap.size ≤ w'.heap.size := hg.size
 refine ⟨Nat.le_trans h.size hs, fun g h1 h2 => ?_, fun q z hq => ?_⟩
 ·rw [hg.block g (Nat.lt_of_lt_of_le h2 h.size) (fun e => by have := hv g e.symm; omega)]
  exact h.row g h1 h2
 ·have hc := h.limb q z hq
  refine hg.cell hc (fun e => ?_)
  have h2 := hn q.block e.symm
  unfold World.cell? at hc
  split at hc
  ·rename_i cur e' fz hh
   split at hc
   ·cases hc
   ·exact h2 cur e' fz hh _ (by have := Array.mem_of_getElem? hc; simpa using this) _ rfl
  ·cases hc
structure InS (w0 : World) (bt : Nat) (l : List Nat) (B b5 : Nat) (vr vs vl : Value) (wA : World) (rv : Value) (row : List Rat) (w : World) : Prop where
 fr : ztb w 38 wA.heap.size rv row
 mv : zyb B wA w
 tp : ∃ a, ztg w bt l B a
 bx : C3 w b5 vr vs vl
 fm : Fr w0 bt w
 nums : bt < B ∧ b5 < B ∧ w0.heap.size < B ∧ B ≤ wA.heap.size ∧ zvc vr ∧ zvc vs ∧ zvc vl
section
variable {w0 wA w w' : World} {bt B b5 : Nat} {l : List Nat} {vr vs vl rv : Value} {row : List Rat}
theorem InS.below (h : InS w0 bt l B b5 vr vs vl wA rv row w) (hb : Below w.heap.size w w') : InS w0 bt l B b5 vr vs vl wA rv row w' := by
 obtain ⟨fr, mv, ⟨a, tp⟩, bx, fm, nums⟩ := h
 exact ⟨fr.moves (zyb.below hb) (Nat.le_refl _), mv.trans (zyb.below hb), ⟨a, tp.below hb⟩, bx.belowS hb, fm.below hb, nums⟩
theorem InS.tick (h : InS w0 bt l B b5 vr vs vl wA rv row w) {a' : Nat} (ht : zfg bt w w') (hta : zac w' bt l a') : InS w0 bt l B b5 vr vs vl wA rv row w' := by
 obtain ⟨fr, mv, ⟨a, tp⟩, bx, fm, n1, n2, n3, n4, n5, n6, n7⟩ := h
 have hm : zyb B w w' := zyb.tick tp.1 n1 ht
 exact ⟨fr.moves hm n4, mv.trans hm, ⟨a', tp.tick ht hta⟩, bx.tick tp.1 ht n5.noInt n6.noInt n7.noInt, fm.tick tp.1 ht, n1, n2, n3, n4, n5, n6, n7⟩
theorem InS.set (h : InS w0 bt l B b5 vr vs vl wA rv row w) {p : Addr} {x : Value} (hp : wA.heap.size ≤ p.block) (hr : rv.ownBlock = none ∨ rv.ownBlock ≠ some p.block) (hc : w.cell? p = some x) (hx : ∀ z, x ≠ .int .u32 z) (hx8 : ∀ z, x ≠ .int .u8 z) (u : Value) :
 InS w0 bt l B b5 vr vs vl wA rv row (w.setCell p u) := by
 obtain ⟨fr, mv, ⟨a, tp⟩, bx, fm, n1, n2, n3, n4, n5, n6, n7⟩ := h
 exact ⟨fr.over hr hc hx u, mv.high hp hc hx u, ⟨a, tp.set (by omega) hc hx8 u⟩, bx.other p u (by omega), fm.set p (by omega) u, n1, n2, n3, n4, n5, n6, n7⟩
theorem InS.grow (h : InS w0 bt l B b5 vr vs vl wA rv row w) {rv' : Value} {row' : List Rat} (hv : ztb w' 38 wA.heap.size rv' row') (hg : w.grownBy w' rv.ownBlock) (hn : zkc w rv) : InS w0 bt l B b5 vr vs vl wA rv' row' w' := by
 obtain ⟨fr, mv, ⟨a, tp⟩, bx, fm, n1, n2, n3, n4, n5, n6, n7⟩ := h
 have hb : Below wA.heap.size w w' := zff hg mv.size fr.block
 have hb2 := hb.mono n4
 exact ⟨hv, mv.grow hg hn (fun k hk => (fr.block k hk).1), ⟨a, tp.low hb2 n1⟩, bx.below hb2 n2, fm.low hb2 n3, n1, n2, n3, n4, n5, n6, n7⟩
theorem InS.set3 (h : InS w0 bt l B b5 vr vs vl wA rv row w) {b : Nat} {t0 : Bool} {x0 y0 : Value} (hC : C3 w b (.bool t0) x0 y0) (sx : zvc x0) (sy : zvc y0) (hb : wA.heap.size ≤ b) (hr : rv.ownBlock = none ∨ rv.ownBlock ≠ some b) (u0 u1 u2 : Value) :
 InS w0 bt l B b5 vr vs vl wA rv row (((w.setCell ⟨b, 0, none⟩ u0).setCell ⟨b, 1, none⟩ u1).setCell ⟨b, 2, none⟩ u2) := by
 obtain ⟨_, c0, c1, c2, _, _, _⟩ := hC
 have h1 := h.set (p := ⟨b, 0, none⟩) hb hr c0 (fun z => by simp) (fun z => by simp) u0
 have h2 := h1.set (p := ⟨b, 1, none⟩) hb hr (by rw [World.cell?_setCell_other _ _ _ _ (by simp)]; exact c1) sx.noLimb sx.noByte u1
 exact h2.set (p := ⟨b, 2, none⟩) hb hr (by rw [World.cell?_setCell_other _ _ _ _ (by simp), World.cell?_setCell_other _ _ _ _ (by simp)]; exact c2) sy.noLimb sy.noByte u2
theorem InS.start {rs : List Value} {rates : List (List Rat)} {start : List Rat} {lost : List Bool} (c : ChW wA bt l B b5 vr vs vl rs rates start lost) (hF : Fr w0 bt wA) (hw : w0.heap.size < B) : InS w0 bt l B b5 vr vs vl wA (.slice none 0 0) [] wA :=
 ⟨ztb.nil _ _ _, zyb.refl _ _, c.tape, c.box, hF, c.bt5.1, c.bt5.2.1, hw, c.sz, c.ra.sl, c.st.sl, c.lo.sl⟩
theorem InS.chw {rs : List Value} {rates : List (List Rat)} {start : List Rat} {lost : List Bool} (h : InS w0 bt l B b5 vr vs vl wA rv row w) (c : ChW wA bt l B b5 vr vs vl rs rates start lost) : ChW w bt l B b5 vr vs vl rs rates start lost ∧ ztb w 38 B rv row ∧ (rv.ownBlock = none ∨ rv.ownBlock ≠ vs.ownBlock) := by
 refine ⟨c.of h.mv h.tp h.bx, h.fr.mono c.sz, ?_⟩
 cases ho : rv.ownBlock with
 | none => exact Or.inl rfl
 | some g =>
   refine Or.inr (fun e => ?_)
   have h1 := h.fr.block g ho
   have h2 := c.st.block g e.symm
   omega
theorem ChW.chainC {rs : List Value} {rates : List (List Rat)} {start : List Rat} {lost : List Bool} (h : ChW w bt l B b5 vr vs vl rs rates start lost) : zwc w (.agg #[vr, vs, vl]) ⟨rates, start, lost⟩ := by
 refine ⟨vr, vs, vl, rfl, ⟨h.ra.sl, by rw [h.ra.len]; exact h.rl, fun j hj => ?_⟩, h.st.fracs, ⟨h.lo.sl, h.lo.len, fun j hj => h.lo.cell j hj⟩⟩
 have hj2 : j < rs.length := by rw [h.rl]; exact hj
 exact ⟨rs[j], h.ra.cell j hj2, (h.rows j hj2 hj).1.fracs⟩
theorem ChW.set3 {rs : List Value} {rates : List (List Rat)} {start : List Rat} {lost : List Bool} (h : ChW w bt l B b5 vr vs vl rs rates start lost) {b : Nat} (hC : C3 w b (.slice none 0 0) (.slice none 0 0) (.slice none 0 0)) (hb : b < B) (hbt : b ≠ bt) (hb5 : b ≠ b5) (u0 u1 u2 : Value) :
 ChW (((w.setCell ⟨b, 0, none⟩ u0).setCell ⟨b, 1, none⟩ u1).setCell ⟨b, 2, none⟩ u2) bt l B b5 vr vs vl rs rates start lost := by
 obtain ⟨_, c0, c1, c2, _, _, _⟩ := hC
 have c1' : (w.setCell ⟨b, 0, none⟩ u0).cell? ⟨b, 1, none⟩ = some (.slice none 0 0) := by rw [World.cell?_setCell_other _ _ _ _ (by simp)]; exact c1
 have c2' : ((w.setCell ⟨b, 0, none⟩ u0).setCell ⟨b, 1, none⟩ u1).cell? ⟨b, 2, none⟩ = some (.slice none 0 0) := by rw [World.cell?_setCell_other _ _ _ _ (by simp), World.cell?_setCell_other _ _ _ _ (by simp)]; exact c2
 have one : ∀ (w : World) (k : Nat) (u : Value), ChW w bt l B b5 vr vs vl rs rates start lost → w.cell? ⟨b, k, none⟩ = some (.slice none 0 0) → ChW (w.setCell ⟨b, k, none⟩ u) bt l B b5 vr vs vl rs rates start lost := fun w k u h hc => by
  obtain ⟨a, ht⟩ := h.tape
  exact h.of (zyb.set hb hc (fun z => by simp) u) ⟨a, ht.set hbt hc (fun z => by simp) u⟩ (h.box.other _ u hb5)
 exact one _ 2 u2 (one _ 1 u1 (one _ 0 u0 h c0) c1') c2'
end
def zyg (n i : Nat) : List Rat := (List.range n).map fun j => if j = i then 1 else 0
theorem zzc (n i : Nat) : (zyg n i).length = n := by simp [zyg]
theorem zvn (n i : Nat) : zyg (n + 1) i = zyg n i ++ [if n = i then 1 else 0] := by
 unfold zyg; rw [List.range_succ, List.map_append]; rfl
set_option maxRecDepth 100000 in
set_option maxHeartbeats 3200000 in
theorem zpe (va : Value) (c : CQ) (i : Nat) (w : World) (ha : zwc w va c) (hn : c.start.length ≤ 128) (hi : i < c.start.length) :
 Calls Tryz.prog 44 #[va, .int .i64 i] w (fun e w' => ∃ v, e = .returned v ∧ zwc w' v ⟨c.rates, zyg c.start.length i, c.lost⟩ ∧ Below w.heap.size w w') := by
 obtain ⟨i3, hi3, hz3, hs3, hy3⟩ := info_parts Tryz.infoF
 have hAP := zvo (P := Tryz.prog) 25 38 i3 Tryz.underlying25 hi3 hz3 hs3 hy3
 clear hi3 hz3 hs3 hy3
 obtain ⟨rv, sv, lv, rfl, hr, hs, hlo⟩ := id ha
 obtain ⟨ra, rn, rk, rfl, _⟩ := id hr.sl
 obtain ⟨sa, sn, sk, rfl, _⟩ := id hs.sl
 obtain ⟨la, ln, lk, rfl, _⟩ := id (zua.sl hlo)
 have hsn : sn = c.start.length := hs.len
 obtain ⟨n, hnn⟩ : ∃ n, c.start.length = n := ⟨_, rfl⟩
 rw [hnn] at hsn hn hi ⊢
 subst hsn
 have hb1 := zba w (.cells #[.slice ra rn rk, .slice sa sn sk, .slice la ln lk] 28)
 have hb2 := zba (w.alloc (.cells #[.slice ra rn rk, .slice sa sn sk, .slice la ln lk] 28)) (.cells #[.slice none 0 0, .slice none 0 0, .slice none 0 0] 28)
 have hb3 := zba ((w.alloc (.cells #[.slice ra rn rk, .slice sa sn sk, .slice la ln lk] 28)).alloc (.cells #[.slice none 0 0, .slice none 0 0, .slice none 0 0] 28)) (.cells #[.slice ra rn rk, .slice none 0 0, .slice la ln lk] 28)
 have HC := zH (((C3.new w 28 (.slice ra rn rk) (.slice sa sn sk) (.slice la ln lk)).belowS hb2).belowS hb3)
 have HR := zH ((C3.newB (b := w.heap.size + 1) (w.alloc (.cells #[.slice ra rn rk, .slice sa sn sk, .slice la ln lk] 28)) 28 (.slice none 0 0) (.slice none 0 0) (.slice none 0 0) (by simp)).belowS hb3)
 have HD := zH (C3.newB (b := w.heap.size + 1 + 1) ((w.alloc (.cells #[.slice ra rn rk, .slice sa sn sk, .slice la ln lk] 28)).alloc (.cells #[.slice none 0 0, .slice none 0 0, .slice none 0 0] 28)) 28 (.slice ra rn rk) (.slice none 0 0) (.slice la ln lk) (by simp))
 have HBW := zH (zaa (zaa hb1 hb2) hb3)
 have HM := zH hr
 have HL := zH hlo
 have HRW := zH HR.out.lt
 clear hr hs hlo ha hnn hb1 hb2 hb3
 go_enter Tryz.func44, Tryz.ntmps44
 go_upto_region 2 with fail
 generalize ((w.alloc (.cells #[.slice ra rn rk, .slice sa sn sk, .slice la ln lk] 28)).alloc (.cells #[.slice none 0 0, .slice none 0 0, .slice none 0 0] 28)).alloc (.cells #[.slice ra rn rk, .slice none 0 0, .slice la ln lk] 28) = W at *
 obtain ⟨b5, hb5⟩ : ∃ b, w.heap.size + 1 + 1 = b := ⟨_, rfl⟩
 have HB5 : Hid (w.heap.size + 1 < b5) := zH (by omega)
 have HB6 := zH HD.out.lt
 rw [hb5] at HD HB6 ⊢
 clear hb5
 go_wp2_with fail
 go_loopg [6] (sn) (fun g u6 wr => ∃ (k : Nat) (vS : Value), k ≤ sn ∧ g = sn - k ∧ u6 = .int .i64 k ∧ C3 wr b5 (.slice ra rn rk) vS (.slice la ln lk) ∧ ztb wr 38 W.heap.size vS (zyg k i) ∧ Below b5 W wr)
 case atStart => exact ⟨0, _, Nat.zero_le _, rfl, rfl, HD.out, ztb.nil _ _ _, Below.refl _ _⟩
 case round =>
  obtain ⟨k, vS, hkn, hg, rfl, hd, hfr, hbr⟩ := hrel
  obtain ⟨wq, hwq⟩ : ∃ w6, w6 = wr := ⟨_, rfl⟩
  subst hwq
  have sS := hfr.sl
  have HG := zH hg
  have HDK := zH hd
  have HFR := zH hfr
  have HBR := zH hbr
  have hc := HC.out.below hbr (by have := HB5.out; omega)
  have HCK := zH hc
  obtain ⟨_, c0, c1, c2, _, _, _⟩ := hc
  have hd5 := hd.lt
  clear hg hd hfr HD
  by_cases hkl : k < sn
  ·obtain ⟨m1, m2, m3, rfl, _⟩ := id sS
   have hlen : (zyg k i).length ≤ 1000 := by rw [zzc]; omega
   by_cases hki : k = i
   ·have hke : (((k : Nat) : Int) == ((i : Nat) : Int)) = true := by rw [hki]; simp
    go_upto_region 8 with (first
     |(go_at_call 20; (with_reducible refine (zob _).mono ?_); rintro e3 w3 ⟨v3, rfl, hv3, hb3⟩
       obtain ⟨t3, x3, y3, rfl, ⟨a31, l31, k31, rfl, _⟩, ⟨a32, l32, k32, rfl, _⟩⟩ := hv3.isF)
     |(go_at_call 20; (with_reducible refine (zse _).mono ?_); rintro e4 w4 ⟨v4, rfl, hv4, hb4⟩
       obtain ⟨t4, x4, y4, rfl, ⟨a41, l41, k41, rfl, _⟩, ⟨a42, l42, k42, rfl, _⟩⟩ := hv4.isF
       have hc4 := (C3.new w3 38 (.bool t3) (.slice a31 l31 k31) (.slice a32 l32 k32)).belowS hb4
       have HC4 := zH hc4
       have hx4 := zaa (zaa hb3 (zba w3 (.cells #[.bool t3, .slice a31 l31 k31, .slice a32 l32 k32] 38))) hb4
       have hs3 := hb3.size
       have hlt3 : b5 < w3.heap.size := Nat.lt_of_lt_of_le hd5 hs3
       have HD9 := zH (HDK.out.belowS hx4)
       have HB9 := zH (zfa HBR.out hx4 (Nat.le_of_lt hd5))
       have HFR9 := zH (HFR.out.moves (zyb.below (B := W.heap.size) hx4) (Nat.le_refl _))
       have HS9 := zH (Nat.le_trans HBR.out.size hx4.size)
       have HS3 := zH hs3
       have HV9 := zH hv4
       obtain ⟨_, r0, r1, r2, q0, q1, q2⟩ := hc4
       clear hx4 hv3 hv4 hb3 hb4 hs3))
    have HT9 := zH (HC4.out.set (.bool t4) (.slice a41 l41 k41) (.slice a42 l42 k42))
    have HV9 := zH (HV9.out.set3 HC4.out (fun z => by simp) (fun z => by simp) (.bool t4) (.slice a41 l41 k41) (.slice a42 l42 k42))
    have HD9 := zH (HD9.out.set_other (show b5 ≠ w3.heap.size by omega) (.bool t4) (.slice a41 l41 k41) (.slice a42 l42 k42))
    have HB9 := zH (zga HB9.out (Nat.le_of_lt hlt3) (.bool t4) (.slice a41 l41 k41) (.slice a42 l42 k42))
    have HS9 := zH (Nat.le_trans HS9.out (zga (Below.refl w4.heap.size w4 |>.mono (Nat.zero_le _)) (Nat.zero_le w3.heap.size) (.bool t4) (.slice a41 l41 k41) (.slice a42 l42 k42)).size)
    have HFR9 : Hid (ztb (((w4.setCell ⟨w3.heap.size, 0, none⟩ (.bool t4)).setCell ⟨w3.heap.size, 1, none⟩ (.slice a41 l41 k41)).setCell ⟨w3.heap.size, 2, none⟩ (.slice a42 l42 k42)) 38 W.heap.size (.slice m1 m2 m3) (zyg k i)) := zH (by
     have hown : (Value.slice m1 m2 m3).ownBlock = none ∨ (Value.slice m1 m2 m3).ownBlock ≠ some w3.heap.size := by
      cases ho : (Value.slice m1 m2 m3).ownBlock with
      | none => exact Or.inl rfl
      | some g =>
        refine Or.inr fun e => ?_
        have h1 := HFR.out.block g ho
        have h2 := HS3.out
        injection e with e
        omega
     exact ((HFR9.out.over (p := ⟨w3.heap.size, 0, none⟩) hown HC4.out.c0 (fun z => by simp) _).over (p := ⟨w3.heap.size, 1, none⟩) hown (HC4.out.set0 _).c1 (fun z => by simp) _).over (p := ⟨w3.heap.size, 2, none⟩) hown ((HC4.out.set0 _).set1 _).c2 (fun z => by simp) _)
    obtain ⟨b7, hb7⟩ : ∃ b, w3.heap.size = b := ⟨_, rfl⟩
    clear r0 r1 r2 q0 q1 q2
    rw [hb7] at HT9 HV9 HD9 HB9 HS9 HFR9 ⊢
    generalize (((w4.setCell ⟨b7, 0, none⟩ (.bool t4)).setCell ⟨b7, 1, none⟩ (.slice a41 l41 k41)).setCell ⟨b7, 2, none⟩ (.slice a42 l42 k42)) = W9 at *
    have hd9 := HD9.out
    obtain ⟨_, e0, e1, e2, _, _, _⟩ := hd9
    obtain ⟨_, r0, r1, r2, q0, q1, q2⟩ := HT9.out
    clear c0 c1 c2
    go_wp2_with (at_builtin; refine hAP _ rfl _ _ rfl W.heap.size _ (.slice m1 m2 m3) (zyg k i) rfl HFR9.out _ _ _ 1 HV9.out rfl hlen HS9.out ?_; intro v9 w50 ho50 hg50 hn50 hq50 sv50
                 have hbg := zff hg50 HS9.out HFR9.out.block
                 have hd50 := HD9.out.below hbg HB6.out
                 have HD50 := zH hd50
                 have HO50 := zH ho50
                 have HB50 := zH (HB9.out.trans (hbg.mono (Nat.le_of_lt HB6.out)))
                 obtain ⟨n1, n2, n3, rfl, _⟩ := id sv50
                 obtain ⟨_, x0, x1, x2, f0, f1, f2⟩ := hd50
                 clear hbg hg50 hn50 hq50 ho50)
    go_roundg (sn - (k + 1))
    case measure => (have := HG.out; omega)
    case rel =>
     refine ⟨k + 1, _, by omega, rfl, by go_num, HD50.out.set1 _, ?_, HB50.out.setCell (p := ⟨b5, 1, none⟩) (Nat.le_refl _) _⟩
     rw [zvn]
     have h := HO50.out.moves (zyb.set (B := W.heap.size) (p := ⟨b5, 1, none⟩) HB6.out HD50.out.c1 (fun z => by simp) (.slice n1 n2 n3)) (Nat.le_refl _)
     rw [if_pos hki]
     exact h
   ·have hke : (((k : Nat) : Int) == ((i : Nat) : Int)) = false := by simp; omega
    go_upto_region 8 with (first
     |(go_at_call 20; (with_reducible refine (zob _).mono ?_); rintro e3 w3 ⟨v3, rfl, hv3, hb3⟩
       obtain ⟨t3, x3, y3, rfl, ⟨a31, l31, k31, rfl, _⟩, ⟨a32, l32, k32, rfl, _⟩⟩ := hv3.isF
       have hba := zba w3 (.cells #[.bool t3, .slice a31 l31 k31, .slice a32 l32 k32] 38)
       have hx3 := zaa hb3 hba
       have HT9 := zH (C3.new w3 38 (.bool t3) (.slice a31 l31 k31) (.slice a32 l32 k32))
       have HV9 := zH (hv3.below hba)
       have HD9 := zH (HDK.out.belowS hx3)
       have HB9 := zH (zfa HBR.out hx3 (Nat.le_of_lt hd5))
       have HFR9 := zH (HFR.out.moves (zyb.below (B := W.heap.size) hx3) (Nat.le_refl _))
       have HS9 := zH (Nat.le_trans HBR.out.size hx3.size)
       clear hv3 hb3 hba hx3))
    obtain ⟨b7, hb7⟩ : ∃ b, w3.heap.size = b := ⟨_, rfl⟩
    rw [hb7] at HT9 ⊢
    generalize w3.alloc (.cells #[.bool t3, .slice a31 l31 k31, .slice a32 l32 k32] 38) = W9 at *
    have hd9 := HD9.out
    obtain ⟨_, e0, e1, e2, _, _, _⟩ := hd9
    obtain ⟨_, r0, r1, r2, q0, q1, q2⟩ := HT9.out
    clear c0 c1 c2
    go_wp2_with (at_builtin; refine hAP _ rfl _ _ rfl W.heap.size _ (.slice m1 m2 m3) (zyg k i) rfl HFR9.out _ _ _ 0 HV9.out rfl hlen HS9.out ?_; intro v9 w50 ho50 hg50 hn50 hq50 sv50
                 have hbg := zff hg50 HS9.out HFR9.out.block
                 have hd50 := HD9.out.below hbg HB6.out
                 have HD50 := zH hd50
                 have HO50 := zH ho50
                 have HB50 := zH (HB9.out.trans (hbg.mono (Nat.le_of_lt HB6.out)))
                 obtain ⟨n1, n2, n3, rfl, _⟩ := id sv50
                 obtain ⟨_, x0, x1, x2, f0, f1, f2⟩ := hd50
                 clear hbg hg50 hn50 hq50 ho50)
    go_roundg (sn - (k + 1))
    case measure => (have := HG.out; omega)
    case rel =>
     refine ⟨k + 1, _, by omega, rfl, by go_num, HD50.out.set1 _, ?_, HB50.out.setCell (p := ⟨b5, 1, none⟩) (Nat.le_refl _) _⟩
     rw [zvn]
     have h := HO50.out.moves (zyb.set (B := W.heap.size) (p := ⟨b5, 1, none⟩) HB6.out HD50.out.c1 (fun z => by simp) (.slice n1 n2 n3)) (Nat.le_refl _)
     rw [if_neg hki]
     exact h
  ·obtain rfl : k = sn := by omega
   obtain ⟨m1, m2, m3, rfl, _⟩ := id sS
   have HRK := zH (HR.out.below hbr HB5.out)
   obtain ⟨_, d0, d1, d2, _, _, _⟩ := HDK.out
   obtain ⟨_, r0, r1, r2, q0, q1, q2⟩ := HRK.out
   go_wp2_with fail
   have hfin := zga (Below.trans HBW.out (hbr.mono (show w.heap.size ≤ b5 by have := HB5.out; omega))) (Nat.le_succ w.heap.size) (.slice ra rn rk) (.slice m1 m2 m3) (.slice la ln lk)
   have hst := ((HFR.out.moves (zyb.set (B := W.heap.size) (p := ⟨w.heap.size + 1, 0, none⟩) HRW.out HRK.out.c0 (fun z => by simp) (.slice ra rn rk)) (Nat.le_refl _)).moves (zyb.set (B := W.heap.size) (p := ⟨w.heap.size + 1, 1, none⟩) HRW.out (HRK.out.set0 _).c1 (fun z => by simp) (.slice m1 m2 m3)) (Nat.le_refl _)).moves (zyb.set (B := W.heap.size) (p := ⟨w.heap.size + 1, 2, none⟩) HRW.out ((HRK.out.set0 _).set1 _).c2 (fun z => by simp) (.slice la ln lk)) (Nat.le_refl _)
   exact zfb rfl rfl (fun w => by go_simp) (fun w => by go_simp) (HRK.out.set _ _ _) rfl ⟨_, rfl, ⟨_, _, _, rfl, HM.out.below hfin, hst.fracs, HL.out.below hfin⟩, hfin⟩
end Go.Proofs.YtlpdkbmmbdfoiaaGreat
