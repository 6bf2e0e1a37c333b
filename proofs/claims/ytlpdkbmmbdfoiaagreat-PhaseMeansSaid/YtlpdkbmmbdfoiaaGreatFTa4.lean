/-
  The state of Tape.Chain while a chain is made. No code is walked here.
-/
import Derived.Test.YtlpdkbmmbdfoiaaGreatFRb2
import Derived.Test.YtlpdkbmmbdfoiaaGreatFRa3
import Derived.RegionTactic
import Derived.ChangeAlike
set_option linter.unusedVariables false
set_option linter.unusedSimpArgs false
namespace Go.Proofs.YtlpdkbmmbdfoiaaGreat
open Go.RowKit
structure znb (w : World) (b : Nat) (l : List Nat) (at' : Nat) : Prop where
 lt : b < w.heap.size
 ex : ∃ v, w.cell? ⟨b, 0, none⟩ = some v ∧ zhc w v (l.map fun x : Nat => Value.int .u8 (x : Nat))
 c1 : w.cell? ⟨b, 1, none⟩ = some (.int .i64 (at' : Nat))
 f1 : w.frozen? ⟨b, 1, none⟩ = false
 len : l.length ≤ 400
 le : at' ≤ 400
 byte : ∀ x ∈ l, x < 256
def zyl (b : Nat) (w w' : World) : Prop := (∃ k, w' = w.drewN k) ∨ ∃ k k' a, w' = ((w.drewN k).setCell ⟨b, 1, none⟩ (.int .i64 a)).drewN k'
def RNext (w0 : World) (b : Nat) (l : List Nat) (n : Nat) (e : Ending) (w : World) : Prop := ∃ x a : Nat, e = .returned (.int .i64 (x : Nat)) ∧ x < n ∧ znb w b l a ∧ zyl b w0 w
theorem znb.drawn {w : World} {b : Nat} {l : List Nat} {a : Nat} (h : znb w b l a) (k : Nat) : znb (w.drewN k) b l a := by
 obtain ⟨lt, ⟨v, e1, e2⟩, c1, f1, h1, h2, h3⟩ := h
 have hb := zka (B := w.heap.size) w k
 exact ⟨Nat.lt_of_lt_of_le lt hb.size, ⟨v, zba hb e1, e2.below hb⟩, zba hb c1, by rw [hb.frozen lt]; exact f1, h1, h2, h3⟩
set_option maxHeartbeats 800000 in
theorem next_zero (b : Nat) (l : List Nat) (a n : Nat) (w : World) (h : znb w b l a) (hn : 1 ≤ n) (hn2 : n ≤ 65536) (hz : l.length ≤ a ∨ n < 2) :
 Calls Tryz.prog 107 #[.pointer (some ⟨b, 0, none⟩), .int .i64 n] w (RNext w b l n) := by
 obtain ⟨v, e1, e2⟩ := h.ex
 have c1 := h.c1
 have f1 := h.f1
 have sv := zhc.sl e2
 have lv : slen v = l.length := by have := zhc.len e2; simpa using this
 have hll := h.len
 have hle := h.le
 by_cases h1 : l.length ≤ a
 ·have hd : decide (((l.length : Nat) : Int) ≤ (a : Nat)) = true := decide_eq_true (by omega)
  go_enter Tryz.func107, Tryz.ntmps107
  go_wp2
  go_quiet (fail)
  go_wp2
  go_ret
  exact ⟨0, a, rfl, hn, h.drawn _, Or.inl ⟨_, rfl⟩⟩
 ·have hd : decide (((l.length : Nat) : Int) ≤ (a : Nat)) = false := decide_eq_false (by omega)
  have h2 : n < 2 := hz.resolve_left h1
  have hd2 : decide ((n : Int) < 2) = true := decide_eq_true (by omega)
  go_enter Tryz.func107, Tryz.ntmps107
  go_wp2
  go_quiet (fail)
  go_wp2
  go_ret
  exact ⟨0, a, rfl, hn, h.drawn _, Or.inl ⟨_, rfl⟩⟩
theorem cell_tick {w : World} {b : Nat} {a0 : Int} {p : Addr} {x : Value} (hc : w.cell? ⟨b, 1, none⟩ = some (.int .i64 a0)) (hp : w.cell? p = some x) (hx : ∀ z, x ≠ .int .i64 z) (u : Value) : (w.setCell ⟨b, 1, none⟩ u).cell? p = some x := by
 rw [World.cell?_setCell_other]
 ·exact hp
 ·intro e
  rw [← e, hc] at hp
  injection hp with hp
  exact hx _ hp.symm
theorem znb.tick {w : World} {b : Nat} {l : List Nat} {a : Nat} (h : znb w b l a) (a' : Nat) (ha : a' ≤ 400) : znb (w.setCell ⟨b, 1, none⟩ (.int .i64 (a' : Nat))) b l a' := by
 obtain ⟨lt, ⟨v, e1, e2⟩, c1, f1, h1, h2, h3⟩ := h
 refine ⟨by simpa [World.setCell] using lt, ⟨v, ?_, e2.sl, e2.len, fun j hj => cell_tick c1 (e2.cell j hj) (fun z => by simp) _⟩, ?_, ?_, h1, ha, h3⟩
 ·rw [World.cell?_setCell_other _ _ _ _ (by simp)]; exact e1
 ·exact World.cell?_setCell_same _ _ _ c1
 ·go_simp
set_option maxHeartbeats 800000 in
theorem next_more (b : Nat) (l : List Nat) (a n : Nat) (w : World) (h : znb w b l a) (hn2 : n ≤ 65536) (h1 : a < l.length) (h2 : 2 ≤ n) :
 Calls Tryz.prog 107 #[.pointer (some ⟨b, 0, none⟩), .int .i64 n] w (RNext w b l n) := by
 obtain ⟨v, e1, e2⟩ := h.ex
 have c1 := h.c1
 have f1 := h.f1
 have sv := zhc.sl e2
 have lv : slen v = l.length := by have := zhc.len e2; simpa using this
 have hll := h.len
 have hd : decide (((l.length : Nat) : Int) ≤ (a : Nat)) = false := decide_eq_false (by omega)
 have hd2 : decide ((n : Int) < 2) = false := decide_eq_false (by omega)
 have HT := zH h
 go_enter Tryz.func107, Tryz.ntmps107
 go_wp2
 go_quiet (fail)
 have hT1 := HT.out.drawn nq
 obtain ⟨v2, e11, e12⟩ := hT1.ex
 have c2 := hT1.c1
 have f2 := hT1.f1
 clear hd hd2 c1 f1
 go_wp2
 have hT2 : znb ((w.drewN nq).setCell ⟨b, 1, none⟩ (.int .i64 ((a : Int) + 1))) b l (a + 1) := by
  have := hT1.tick (a + 1) (by omega)
  rwa [show (((a + 1 : Nat)) : Int) = (a : Int) + 1 from by omega] at this
 obtain ⟨v3, e13, e14⟩ := hT2.ex
 have c3 := hT2.c1
 have s3 := zhc.sl e14
 have l3 : slen v3 = l.length := by have := zhc.len e14; simpa using this
 have hx := e14.cell a (by simpa using h1)
 rw [List.getElem_map] at hx
 have hxb := h.byte l[a] (List.getElem_mem h1)
 have HTK : Hid (∀ k, zyl b w (((w.drewN nq).setCell ⟨b, 1, none⟩ (.int .i64 ((a : Int) + 1))).drewN k)) := zH (fun k => Or.inr ⟨_, _, _, rfl⟩)
 generalize l[a]'h1 = x at *
 generalize (w.drewN nq).setCell ⟨b, 1, none⟩ (.int .i64 ((a : Int) + 1)) = W2 at *
 have i1 : IntKind.i64.wrap ((((a + 1 : Nat)) : Int) - 1) = (a : Int) := by rw [IntWalk.i64_in _ (by omega)]; omega
 have i2 : (0 : Int) ≤ (a : Int) := by omega
 have i3 : (a : Int) < (l.length : Nat) := by omega
 have i4 : Int.tmod (x : Int) (n : Int) = ((x % n : Nat) : Int) := by rw [Int.tmod_eq_emod_of_nonneg (by omega)]; omega
 go_quiet (fail)
 go_wp2
 go_ret
 exact ⟨x % n, a + 1, by first | rfl | (congr 2), Nat.mod_lt _ (by omega), hT2.drawn _, HTK.out _⟩
theorem next_any (b : Nat) (l : List Nat) (a n : Nat) (w : World) (h : znb w b l a) (hn : 1 ≤ n) (hn2 : n ≤ 65536) :
 Calls Tryz.prog 107 #[.pointer (some ⟨b, 0, none⟩), .int .i64 n] w (RNext w b l n) := by
 rcases Nat.lt_or_ge a l.length with h1 | h1
 ·rcases Nat.lt_or_ge n 2 with h2 | h2
  ·exact next_zero b l a n w h hn hn2 (Or.inr h2)
  ·exact next_more b l a n w h hn2 h1 h2
 ·exact next_zero b l a n w h hn hn2 (Or.inl h1)
theorem zyl.cell {b : Nat} {w w' : World} (h : zyl b w w') {a0 : Int} (hc : w.cell? ⟨b, 1, none⟩ = some (.int .i64 a0)) {p : Addr} {x : Value} (hp : w.cell? p = some x) (hx : ∀ z, x ≠ .int .i64 z) : w'.cell? p = some x := by
 rcases h with ⟨k, rfl⟩ | ⟨k, k', a, rfl⟩
 ·exact zba (zka w k) hp
 ·refine zba (zka _ k') ?_
  exact cell_tick (zba (zka w k) hc) (zba (zka w k) hp) hx _
theorem zyl.size {b : Nat} {w w' : World} (h : zyl b w w') : w.heap.size ≤ w'.heap.size := by
 rcases h with ⟨k, rfl⟩ | ⟨k, k', a, rfl⟩
 ·exact (zka (B := w.heap.size) w k).size
 ·have h1 := (zka (B := w.heap.size) w k).size
  have h2 := (zka (B := w.heap.size) ((w.drewN k).setCell ⟨b, 1, none⟩ (.int .i64 a)) k').size
  have h3 : ((w.drewN k).setCell ⟨b, 1, none⟩ (.int .i64 a)).heap.size = (w.drewN k).heap.size := by simp [World.setCell]
  omega
theorem zyl.below {b B : Nat} {w w' : World} (h : zyl b w w') (hB : B ≤ b) (hs : B ≤ w.heap.size) : Below B w w' := by
 rcases h with ⟨k, rfl⟩ | ⟨k, k', a, rfl⟩
 ·exact zka w k
 ·exact ((zka w k).setCell (p := ⟨b, 1, none⟩) hB _).trans (zka _ k')
theorem Tryz.infoU8 : (Tryz.prog.info? 5).map (fun i => (i.zero, i.size, i.bytes)) = some (some (.int .u8 0), 1, 1) := by kernel_rfl
def bytes (l : List Nat) : List Value := l.map fun x : Nat => Value.int .u8 (x : Nat)
theorem zhc.tk {w : World} {v : Value} {l : List Value} (h : zhc w v l) (n : Nat) (hn : n ≤ l.length) : zhc w (tk v n) (l.take n) := by
 have e : (l.take n).length = n := by rw [List.length_take]; omega
 have h1 := h.sl.le
 have h2 := h.len
 refine ⟨h.sl.tk (by omega), by rw [e]; exact h.sl.slen_tk n, fun j hj => ?_⟩
 rw [ptr_tk, List.getElem_take]
 exact h.cell j (by omega)
def RTape (w0 : World) (l : List Nat) (e : Ending) (w : World) : Prop := ∃ b, e = .returned (.pointer (some ⟨b, 0, none⟩)) ∧ w0.heap.size ≤ b ∧ znb w b l 0 ∧ Below w0.heap.size w0 w
theorem tape_new (w w1 : World) (v : Value) (l : List Nat) (t e : TypeId) (hl : l.length ≤ 400) (hb : ∀ x ∈ l, x < 256) (h : zce w1 e w.heap.size v (bytes l)) (hbel : Below w.heap.size w w1) :
 RTape w l (.returned (.pointer (some ⟨w1.heap.size, 0, none⟩))) (w1.alloc (.cells #[v, .int .i64 0] t)) := by
 refine ⟨_, rfl, hbel.size, ⟨by simp, ⟨v, by simp, ?_⟩, by simp, by simp, hl, by omega, hb⟩, hbel.alloc hbel.size _⟩
 exact ⟨h.sl, by rw [h.len]; rfl, fun j hj => (h.alloc _).cell j hj⟩
theorem append_u8 {P : Program} (t e : TypeId) (i : TypeInfo) (ht : P.underlying t = some (.slice e)) (hi : P.info? e = some i) (hz : i.zero = some (.int .u8 0))
 (hsize : i.size = 1) (hby : i.bytes = 1) (w : World) {ops : Array Oper} {rest : List Oper} {o : Oper} {a : Act} {Q : Exit → Act → World → Prop} (hgd : o.guard = none) (s x : Operand)
 (ho : o.op = .call { callee := .builtin .append, args := #[s, x], argTypes := #[t, t] })
 (hs : a.eval s = .slice none 0 0) (xv : Value) (hxe : a.eval x = xv) (l : List Nat) (hx : zhc w xv (bytes l)) (hb : l.length ≤ 400)
 (h : ∀ v' w', zce w' e w.heap.size v' (bytes l) → Below w.heap.size w w' → wpList P ops Q rest (a.put o.dst v') w') : wpList P ops Q (o :: rest) a w := by
 have hl : (bytes l).length = l.length := by simp [bytes]
 refine zie w hgd s x t ho w.heap.size e i (.int .u8 0) 1 ht hi hz hsize hby rfl _ [] hs (zce.nil _ _ _) xv hxe hx.sl (bytes l) hx.len
  (fun j hj => hx.cell j hj) (fun u hu => by obtain ⟨x, _, rfl⟩ := List.mem_map.1 hu; rfl)
  (by simp [maxLen, hl]; omega) (by simp [hl]; omega) (Nat.le_refl _) ?_
 intro v' w' h2 _ h4
 rw [List.nil_append] at h2
 exact h v' w' h2 h4
set_option maxHeartbeats 1600000 in
theorem new_any (v : Value) (l : List Nat) (w : World) (h : zhc w v (bytes l)) (hb : ∀ x ∈ l, x < 256) :
 Calls Tryz.prog 41 #[v] w (RTape w (l.take 400)) := by
 obtain ⟨i0, hi, hz0, hz1, hz2⟩ := info_parts Tryz.infoU8
 have hA := append_u8 (P := Tryz.prog) 22 5 i0 Tryz.underlying22 hi hz0 hz1 hz2
 clear hi hz0 hz1 hz2
 have sv := h.sl
 have lv : slen v = l.length := by rw [h.len, bytes, List.length_map]
 have hle := sv.le
 rw [lv] at hle
 by_cases hd : 400 < l.length
 ·have hd1 : decide ((400 : Int) < (l.length : Nat)) = true := decide_eq_true (by omega)
  have hcap : (400 : Int) ≤ scap v := by omega
  have ht2 : zhc w (tk v 400) (bytes (l.take 400)) := by have := h.tk 400 (by simp [bytes]; omega); simpa [bytes, List.map_take] using this
  go_enter Tryz.func41, Tryz.ntmps41
  go_wp2_with (at_builtin; refine hA w rfl _ _ rfl rfl _ rfl (l.take 400) ht2 (by simp; omega) ?_; intro v' w1 hown hbel; obtain ⟨an, nn, cn, rfl, _⟩ := hown.sl)
  go_ret
  exact tape_new w w1 _ _ _ _ (by simp; omega) (fun x hx => hb x (List.mem_of_mem_take hx)) hown hbel
 ·have hd1 : decide ((400 : Int) < (l.length : Nat)) = false := decide_eq_false (by omega)
  rw [List.take_of_length_le (by omega)]
  go_enter Tryz.func41, Tryz.ntmps41
  go_wp2_with (at_builtin; refine hA w rfl _ _ rfl rfl _ rfl l h (by omega) ?_; intro v' w1 hown hbel; obtain ⟨an, nn, cn, rfl, _⟩ := hown.sl)
  go_ret
  exact tape_new w w1 _ _ _ _ (by omega) hb hown hbel
def RSame (w0 : World) (p : Prop) (e : Ending) (w : World) : Prop := (∃ b, e = .returned (.bool b) ∧ (b = true ↔ p)) ∧ Below w0.heap.size w0 w
theorem list_ext_of {α : Type _} {a b : List α} (hl : a.length = b.length) (h : ∀ (j : Nat) (h1 : j < a.length) (h2 : j < b.length), a[j] = b[j]) : a = b := List.ext_getElem hl h
theorem zfc.at' {w : World} {v : Value} {l : List Nat} (h : zfc w v l) (j : Nat) (hj : j < l.length) : w.cell? (ptr v j) = some (.int .u32 (l[j] : Nat)) := h.cell j hj
set_option maxHeartbeats 1600000 in
theorem zrh (va vb : Value) (a b : List Nat) (w : World) (ha : zfc w va a) (hb : zfc w vb b) :
 Calls Tryz.prog 140 #[va, vb] w (RSame w (a = b)) := by
 have sa := ha.sl
 have la := ha.len
 have sb := hb.sl
 have lb := hb.len
 have hle := sa.le
 have hle2 := sb.le
 rw [la] at hle
 rw [lb] at hle2
 have hlb : a.length ≤ 9223372036854775807 := by omega
 have hlb2 : b.length ≤ 9223372036854775807 := by omega
 clear hle hle2
 have hw : w.heap.size ≤ w.heap.size := Nat.le_refl _
 by_cases hlen : a.length = b.length
 ·skip
  have hL := zH hlen
  rw [← hlen] at lb
  clear hlen
  go_enter Tryz.func140, Tryz.ntmps140
  go_wp2_with fail
  go_loopw [5] (fun u5 wr => ∃ (k : Nat), k ≤ a.length ∧ u5 = .int .i64 k ∧ (∀ (j : Nat) (h1 : j < a.length) (h2 : j < b.length), j < k → a[j] = b[j]) ∧ Below w.heap.size w wr) (fun u5 _ => a.length - (intOf u5).toNat)
  case atStart => exact ⟨0, Nat.zero_le _, rfl, fun j _ _ h => by omega, Below.refl _ _⟩
  case round =>
   obtain ⟨k, hk, rfl, hst, hbr⟩ := hrel
   have HST := zH hst
   clear hst
   by_cases hkl : k < a.length
   ·have hkb : k < b.length := by rw [← hL.out]; exact hkl
    have hc := (ha.below hbr).at' k hkl
    have hd := (hb.below hbr).at' k hkb
    have HX : Hid (∀ (h1 : k < a.length) (h2 : k < b.length), a[k] = b[k] ↔ a[k]'hkl = b[k]'hkb) := zH (fun _ _ => Iff.rfl)
    have i1 : (0 : Int) ≤ (k : Int) := by omega
    have i2 : (k : Int) < (a.length : Nat) := by omega
    generalize ha' : a[k]'hkl = x at *
    generalize hb' : b[k]'hkb = y at *
    have HA := zH ha'
    have HB := zH hb'
    clear ha' hb'
    by_cases hxy : x = y
    ·subst hxy
     have HST2 : Hid (∀ (j : Nat) (h1 : j < a.length) (h2 : j < b.length), j < k + 1 → a[j] = b[j]) := zH (fun j h1 h2 h3 => by
      rcases Nat.lt_or_ge j k with h4 | h4
      ·exact HST.out j h1 h2 h4
      ·obtain rfl : j = k := by omega
       rw [HA.out, HB.out])
     go_wp2_with fail
     go_quiet (fail)
     have hbd := zaa hbr (zka (B := wr.heap.size) wr nq)
     go_wp2_with fail
     go_roundw
     case rel => exact ⟨k + 1, by omega, by go_num, HST2.out, hbd⟩
     case measure => simp [intOf]; omega
    ·skip
     have hxy2 : ((x : Int) == (y : Int)) = false := by first | (simp; omega) | simpa using hxy
     go_wp2_with fail
     go_quiet (fail)
     have hbd := zaa hbr (zka (B := wr.heap.size) wr nq)
     go_wp2_with fail
     go_ret
     exact ⟨⟨false, rfl, by simp; intro h; subst h; exact hxy (HA.out.symm.trans HB.out)⟩, hbd⟩
   ·go_wp2_with fail
    go_ret
    refine ⟨⟨true, rfl, by simp; exact list_ext_of hL.out (fun j h1 h2 => HST.out j h1 h2 (by omega))⟩, hbr⟩
 ·have hne : ((a.length : Int) == (b.length : Int)) = false := by simp; omega
  go_enter Tryz.func140, Tryz.ntmps140
  go_wp2_with fail
  go_ret
  exact ⟨⟨false, rfl, by simp; intro h; exact hlen (by rw [h])⟩, Below.refl _ _⟩
theorem rat_parts {p q : Rat} : p = q ↔ decide (p < 0) = decide (q < 0) ∧ zla p.num.natAbs = zla q.num.natAbs ∧ zla p.den = zla q.den := by
 constructor
 ·rintro rfl; exact ⟨rfl, rfl, rfl⟩
 ·rintro ⟨h1, h2, h3⟩
  have e2 := zhg h2
  have e3 := zhg h3
  rw [← zvb p, ← zvb q, h1, e2, e3]
set_option maxRecDepth 100000 in
set_option maxHeartbeats 1600000 in
theorem same_frac (va vb : Value) (p q : Rat) (w : World) (ha : zqa w va p) (hb : zqa w vb q) :
 Calls Tryz.prog 61 #[va, vb] w (RSame w (p = q)) := by
 obtain ⟨a1, a2, rfl, n1, n2⟩ := ha
 obtain ⟨b1, b2, rfl, m1, m2⟩ := hb
 have HP := zH (@rat_parts p q)
 have n1 := n1.1
 have n2 := n2.1
 have m1 := m1.1
 have m2 := m2.1
 obtain ⟨a1a, a1n, a1c, rfl, _⟩ := n1.sl
 obtain ⟨a2a, a2n, a2c, rfl, _⟩ := n2.sl
 obtain ⟨b1a, b1n, b1c, rfl, _⟩ := m1.sl
 obtain ⟨b2a, b2n, b2c, rfl, _⟩ := m2.sl
 generalize decide (p < 0) = s at *
 generalize decide (q < 0) = t at *
 generalize zla p.num.natAbs = x at *
 generalize zla q.num.natAbs = y at *
 generalize zla p.den = z at *
 generalize zla q.den = u at *
 have hbx := zca w (.cells #[.bool s, .slice a1a a1n a1c, .slice a2a a2n a2c] 38)
 have hbx := (hbx.alloc hbx.size (.cells #[.bool t, .slice b1a b1n b1c, .slice b2a b2n b2c] 38))
 have n1 := n1.below hbx
 have n2 := n2.below hbx
 have m1 := m1.below hbx
 have m2 := m2.below hbx
 have hC := (C3.new w 38 (.bool s) (.slice a1a a1n a1c) (.slice a2a a2n a2c)).allocS (.cells #[.bool t, .slice b1a b1n b1c, .slice b2a b2n b2c] 38)
 have hD := C3.new (w.alloc (.cells #[.bool s, .slice a1a a1n a1c, .slice a2a a2n a2c] 38)) 38 (.bool t) (.slice b1a b1n b1c) (.slice b2a b2n b2c)
 rw [show (w.alloc (.cells #[.bool s, .slice a1a a1n a1c, .slice a2a a2n a2c] 38)).heap.size = w.heap.size + 1 from by simp] at hD
 by_cases h1 : s = t
 ·subst h1
  by_cases hxy : x = y
  ·by_cases hzu : z = u
   ·have tok : True := trivial
    go_enter Tryz.func61, Tryz.ntmps61
    go_wp2_with (first
     |(go_at_call 140; have _t := tok; (with_reducible refine (zrh _ _ x y _ n1 m1).mono ?_); rintro e1 w1 ⟨⟨r1, rfl, h1⟩, hbel1⟩; obtain rfl : r1 = true := h1.2 hxy; clear h1 tok _t
       have n3 := n2.below hbel1
       have m3 := m2.below hbel1
       obtain ⟨_, c0, c1, c2, _, _, _⟩ := hC.belowS hbel1
       obtain ⟨_, d0, d1, d2, _, _, _⟩ := hD.belowS hbel1)
     |(go_at_call 140; (with_reducible refine (zrh _ _ z u _ n3 m3).mono ?_); rintro e2 w2 ⟨⟨r2, rfl, h2⟩, hbel2⟩; obtain rfl : r2 = true := h2.2 hzu; clear h2))
    go_ret
    exact ⟨⟨true, rfl, by simp; exact HP.out.2 ⟨by first | rfl | trivial, hxy, hzu⟩⟩, (hbx.trans (hbel1.mono hbx.size)).trans (hbel2.mono (hbx.trans (hbel1.mono hbx.size)).size)⟩
   ·have tok : True := trivial
    go_enter Tryz.func61, Tryz.ntmps61
    go_wp2_with (first
     |(go_at_call 140; have _t := tok; (with_reducible refine (zrh _ _ x y _ n1 m1).mono ?_); rintro e1 w1 ⟨⟨r1, rfl, h1⟩, hbel1⟩; obtain rfl : r1 = true := h1.2 hxy; clear h1 tok _t
       have n3 := n2.below hbel1
       have m3 := m2.below hbel1
       obtain ⟨_, c0, c1, c2, _, _, _⟩ := hC.belowS hbel1
       obtain ⟨_, d0, d1, d2, _, _, _⟩ := hD.belowS hbel1)
     |(go_at_call 140; (with_reducible refine (zrh _ _ z u _ n3 m3).mono ?_); rintro e2 w2 ⟨⟨r2, rfl, h2⟩, hbel2⟩; obtain rfl : r2 = false := Bool.eq_false_iff.2 (fun h => hzu (h2.1 h)); clear h2))
    go_ret
    exact ⟨⟨false, rfl, by simp; exact fun h => hzu (HP.out.1 h).2.2⟩, (hbx.trans (hbel1.mono hbx.size)).trans (hbel2.mono (hbx.trans (hbel1.mono hbx.size)).size)⟩
  ·go_enter Tryz.func61, Tryz.ntmps61
   go_wp2_with (go_at_call 140; (with_reducible refine (zrh _ _ x y _ n1 m1).mono ?_); rintro e1 w1 ⟨⟨r1, rfl, h1⟩, hbel1⟩; obtain rfl : r1 = false := Bool.eq_false_iff.2 (fun h => hxy (h1.1 h)); clear h1)
   go_ret
   exact ⟨⟨false, rfl, by simp; exact fun h => hxy (HP.out.1 h).2.1⟩, hbx.trans (hbel1.mono hbx.size)⟩
 ·have h2 : (s == t) = false := by simpa using h1
  go_enter Tryz.func61, Tryz.ntmps61
  go_wp2_with fail
  go_ret
  exact ⟨⟨false, rfl, by simp; exact fun h => h1 (HP.out.1 h).1⟩, hbx⟩
structure MatC (w : World) (v : Value) (m : List (List Rat)) : Prop where
 sl : zgc v
 len : slen v = m.length
 at' : ∀ (j : Nat) (h : j < m.length), ∃ r, w.cell? (ptr v j) = some r ∧ zbb w r m[j]
theorem MatC.below {w w' : World} {v : Value} {m : List (List Rat)} (h : MatC w v m) (hb : Below w.heap.size w w') : MatC w' v m :=
 ⟨h.sl, h.len, fun j hj => by obtain ⟨r, h1, h2⟩ := h.at' j hj; exact ⟨r, zba hb h1, h2.below hb⟩⟩
structure CQ where
 rates : List (List Rat)
 start : List Rat
 lost : List Bool
theorem znb.below {w w' : World} {l : List Nat} {b a : Nat} (h : znb w b l a) (hb : Below w.heap.size w w') : znb w' b l a := by
 obtain ⟨lt, ⟨v, e1, e2⟩, c1, f1, h1, h2, h3⟩ := h
 exact ⟨Nat.lt_of_lt_of_le lt hb.size, ⟨v, zba hb e1, e2.below hb⟩, zba hb c1, by rw [hb.frozen lt]; exact f1, h1, h2, h3⟩
def zvf (w : World) (b : Nat) (l : List Nat) (B a : Nat) : Prop := znb w b l a ∧ ∀ v, w.cell? ⟨b, 0, none⟩ = some v → ∀ j, j < l.length → (ptr v j).block < B
theorem znb.b {w : World} {b a : Nat} {l : List Nat} (h : znb w b l a) : zvf w b l w.heap.size a := by
 refine ⟨h, fun v hv j hj => ?_⟩
 obtain ⟨v', e1, e2⟩ := h.ex
 rw [e1] at hv
 injection hv with hv
 subst hv
 exact World.block_lt_of_cell? w _ (e2.cell j (by simpa using hj))
theorem zvf.mono {w : World} {b a B B' : Nat} {l : List Nat} (h : zvf w b l B a) (hB : B ≤ B') : zvf w b l B' a := ⟨h.1, fun v hv j hj => Nat.lt_of_lt_of_le (h.2 v hv j hj) hB⟩
theorem zvf.below {w w' : World} {b a B : Nat} {l : List Nat} (h : zvf w b l B a) (hb : Below w.heap.size w w') : zvf w' b l B a := by
 obtain ⟨h1, h2⟩ := h
 refine ⟨h1.below hb, fun v hv j hj => ?_⟩
 rw [hb.cell h1.lt] at hv
 exact h2 v hv j hj
theorem zvf.low {w w' : World} {b a B : Nat} {l : List Nat} (h : zvf w b l B a) (hb : Below B w w') (hB : b < B) : zvf w' b l B a := by
 obtain ⟨⟨lt, ⟨v, e1, e2⟩, c1, f1, h1, h2, h3⟩, h4⟩ := h
 have hl := h4 v e1
 refine ⟨⟨Nat.lt_of_lt_of_le lt hb.size, ⟨v, by rw [hb.cell (by exact hB)]; exact e1, e2.sl, e2.len, fun j hj => ?_⟩, by rw [hb.cell (by exact hB)]; exact c1, by rw [hb.frozen (by exact hB)]; exact f1, h1, h2, h3⟩, fun u hu j hj => ?_⟩
 ·rw [hb.cell (hl j (by simpa using hj))]; exact e2.cell j hj
 ·rw [hb.cell (by exact hB)] at hu
  exact h4 u hu j hj
theorem zvf.set {w : World} {b a B : Nat} {l : List Nat} (h : zvf w b l B a) {p : Addr} {x : Value} (hp : p.block ≠ b) (hc : w.cell? p = some x) (hx : ∀ z, x ≠ .int .u8 z) (u : Value) : zvf (w.setCell p u) b l B a := by
 obtain ⟨⟨lt, ⟨v, e1, e2⟩, c1, f1, h1, h2, h3⟩, h4⟩ := h
 have hne : ∀ k, p ≠ ⟨b, k, none⟩ := fun k e => hp (by rw [e])
 refine ⟨⟨by simpa [World.setCell] using lt, ⟨v, by rw [World.cell?_setCell_other _ _ _ _ (hne _)]; exact e1, e2.sl, e2.len, fun j hj => ?_⟩, by rw [World.cell?_setCell_other _ _ _ _ (hne _)]; exact c1, by rw [World.frozen?_setCell]; exact f1, h1, h2, h3⟩, fun u' hu j hj => ?_⟩
 ·rw [World.cell?_setCell_other]
  ·exact e2.cell j hj
  ·intro e
   have h6 := e2.cell j hj
   rw [← e, hc] at h6
   injection h6 with h6
   rw [List.getElem_map] at h6
   exact hx _ h6
 ·rw [World.cell?_setCell_other _ _ _ _ (hne _)] at hu
  exact h4 u' hu j hj
theorem zyl.frozen {w w' : World} {b : Nat} (h : zyl b w w') {p : Addr} (hp : p.block < w.heap.size) : w'.frozen? p = w.frozen? p := by
 rcases h with ⟨k, rfl⟩ | ⟨k, k', a, rfl⟩
 ·exact (zka (B := w.heap.size) w k).frozen hp
 ·have h1 := (zka (B := w.heap.size) w k)
  rw [(zka (B := ((w.drewN k).setCell ⟨b, 1, none⟩ (.int .i64 a)).heap.size) _ k').frozen (by simp [World.setCell]; have := h1.size; omega)]
  rw [World.frozen?_setCell]
  exact h1.frozen hp
theorem zgc.noInt {v : Value} (h : zgc v) : ∀ z, v ≠ .int .i64 z := fun z e => by obtain ⟨a, n, c, rfl, _⟩ := h; cases e
theorem zgc.noLimb {v : Value} (h : zgc v) : ∀ z, v ≠ .int .u32 z := fun z e => by obtain ⟨a, n, c, rfl, _⟩ := h; cases e
theorem zgc.noByte {v : Value} (h : zgc v) : ∀ z, v ≠ .int .u8 z := fun z e => by obtain ⟨a, n, c, rfl, _⟩ := h; cases e
theorem zid {w w' : World} {B : Nat} {u : Value} (hg : w.grownBy w' u.ownBlock) (hB : B ≤ w.heap.size) (hu : ∀ k, u.ownBlock = some k → B ≤ k ∧ k < w.heap.size) : Below B w w' := zna hg hB (fun k hk => (hu k hk).1)
section
variable {w w' : World} {bt : Nat} {l : List Nat} {B b5 : Nat} {vr vs vl : Value} {rs : List Value} {rates : List (List Rat)} {start : List Rat} {lost : List Bool}
end
end Go.Proofs.YtlpdkbmmbdfoiaaGreat
