/-
  package drydocksame: Nat, Ints, Bools.
  Ahead of it: package drydockmake: New.
-/
import Derived.Test.YtoldfpkafcefnaaQTa1
namespace Go.Proofs.Ytoldfpkafcefnaa
set_option linter.unusedVariables false
set_option linter.unusedSimpArgs false
open Go.RowKit

theorem Try.infoU8 : (Try.prog.info? 5).map (fun i => (i.zero, i.size, i.bytes)) = some (some (.int .u8 0), 1, 1) := by kernel_rfl
def bytes (l : List Nat) : List Value := l.map fun x : Nat => Value.int .u8 (x : Nat)
theorem CellsV.tk {w : World} {v : Value} {l : List Value} (h : CellsV w v l) (n : Nat) (hn : n ≤ l.length) : CellsV w (tk v n) (l.take n) := by
  have e : (l.take n).length = n := by rw [List.length_take]; omega
  have h1 := h.sl.le
  have h2 := h.len
  refine ⟨h.sl.tk (by omega), by rw [e]; exact h.sl.slen_tk n, fun j hj => ?_⟩
  rw [ptr_tk, List.getElem_take]
  exact h.cell j (by omega)
/-- A new tape. -/
def RTape (w0 : World) (l : List Nat) (e : Ending) (w : World) : Prop := ∃ b, e = .returned (.pointer (some ⟨b, 0, none⟩)) ∧ w0.heap.size ≤ b ∧ TapeAt w b l 0 ∧ Below w0.heap.size w0 w
theorem tape_new (w w1 : World) (v : Value) (l : List Nat) (t e : TypeId) (hl : l.length ≤ 400) (hb : ∀ x ∈ l, x < 256) (h : OwnE w1 e w.heap.size v (bytes l)) (hbel : Below w.heap.size w w1) :
    RTape w l (.returned (.pointer (some ⟨w1.heap.size, 0, none⟩))) (w1.alloc (.cells #[v, .int .i64 0] t)) := by
  refine ⟨_, rfl, hbel.size, ⟨by simp, ⟨v, by simp, ?_⟩, by simp, by simp, hl, by omega, hb⟩, hbel.alloc hbel.size _⟩
  exact ⟨h.sl, by rw [h.len]; rfl, fun j hj => (h.alloc _).cell j hj⟩
theorem append_u8 {P : Program} (t e : TypeId) (i : TypeInfo) (ht : P.underlying t = some (.slice e)) (hi : P.info? e = some i) (hz : i.zero = some (.int .u8 0))
    (hsize : i.size = 1) (hby : i.bytes = 1) (w : World) {ops : Array Oper} {rest : List Oper} {o : Oper} {a : Act} {Q : Exit → Act → World → Prop} (hgd : o.guard = none) (s x : Operand)
    (ho : o.op = .call { callee := .builtin .append, args := #[s, x], argTypes := #[t, t] })
    (hs : a.eval s = .slice none 0 0) (xv : Value) (hxe : a.eval x = xv) (l : List Nat) (hx : CellsV w xv (bytes l)) (hb : l.length ≤ 400)
    (h : ∀ v' w', OwnE w' e w.heap.size v' (bytes l) → Below w.heap.size w w' → wpList P ops Q rest (a.put o.dst v') w') : wpList P ops Q (o :: rest) a w := by
  have hl : (bytes l).length = l.length := by simp [bytes]
  refine wpList_append_E w hgd s x t ho w.heap.size e i (.int .u8 0) 1 ht hi hz hsize hby rfl _ [] hs (OwnE.nil _ _ _) xv hxe hx.sl (bytes l) hx.len
    (fun j hj => hx.cell j hj) (fun u hu => by obtain ⟨x, _, rfl⟩ := List.mem_map.1 hu; rfl)
    (by simp [maxLen, hl]; omega) (by simp [hl]; omega) (Nat.le_refl _) ?_
  intro v' w' h2 _ h4
  rw [List.nil_append] at h2
  exact h v' w' h2 h4
set_option maxHeartbeats 1600000 in
theorem new_any (v : Value) (l : List Nat) (w : World) (h : CellsV w v (bytes l)) (hb : ∀ x ∈ l, x < 256) :
    Calls Try.prog 12 #[v] w (RTape w (l.take 400)) := by
  obtain ⟨i0, hi, hz0, hz1, hz2⟩ := info_parts Try.infoU8
  have hA := append_u8 (P := Try.prog) 22 5 i0 Try.underlying22 hi hz0 hz1 hz2
  clear hi hz0 hz1 hz2
  have sv := h.sl
  have lv : slen v = l.length := by rw [h.len, bytes, List.length_map]
  have hle := sv.le
  rw [lv] at hle
  by_cases hd : 400 < l.length
  · have hd1 : decide ((400 : Int) < (l.length : Nat)) = true := decide_eq_true (by omega)
    have hcap : (400 : Int) ≤ scap v := by omega
    have ht2 : CellsV w (tk v 400) (bytes (l.take 400)) := by have := h.tk 400 (by simp [bytes]; omega); simpa [bytes, List.map_take] using this
    go_enter Try.func12, Try.ntmps12
    go_wp2_with (at_builtin; refine hA w rfl _ _ rfl rfl _ rfl (l.take 400) ht2 (by simp; omega) ?_; intro v' w1 hown hbel; obtain ⟨an, nn, cn, rfl, _⟩ := hown.sl)
    go_ret
    exact tape_new w w1 _ _ _ _ (by simp; omega) (fun x hx => hb x (List.mem_of_mem_take hx)) hown hbel
  · have hd1 : decide ((400 : Int) < (l.length : Nat)) = false := decide_eq_false (by omega)
    rw [List.take_of_length_le (by omega)]
    go_enter Try.func12, Try.ntmps12
    go_wp2_with (at_builtin; refine hA w rfl _ _ rfl rfl _ rfl l h (by omega) ?_; intro v' w1 hown hbel; obtain ⟨an, nn, cn, rfl, _⟩ := hown.sl)
    go_ret
    exact tape_new w w1 _ _ _ _ (by omega) hb hown hbel
end Go.Proofs.Ytoldfpkafcefnaa
namespace Go.Proofs.Ytoldfpkafcefnaa
set_option linter.unusedVariables false
set_option linter.unusedSimpArgs false
open Go.RowKit

/-- The answer is b, the world is as it was, but for draws and new blocks. -/
def RSame (w0 : World) (p : Prop) (e : Ending) (w : World) : Prop := (∃ b, e = .returned (.bool b) ∧ (b = true ↔ p)) ∧ Below w0.heap.size w0 w
theorem list_ext_of {α : Type _} {a b : List α} (hl : a.length = b.length) (h : ∀ (j : Nat) (h1 : j < a.length) (h2 : j < b.length), a[j] = b[j]) : a = b := List.ext_getElem hl h
theorem NatV.at' {w : World} {v : Value} {l : List Nat} (h : NatV w v l) (j : Nat) (hj : j < l.length) : w.cell? (ptr v j) = some (.int .u32 (l[j] : Nat)) := h.cell j hj
set_option maxHeartbeats 1600000 in
theorem same_nat (va vb : Value) (a b : List Nat) (w : World) (ha : NatV w va a) (hb : NatV w vb b) :
    Calls Try.prog 49 #[va, vb] w (RSame w (a = b)) := by
  have sa := ha.sl
  have la := ha.len
  have sb := hb.sl
  have lb := hb.len
  have hle := sa.le
  have hle2 := sb.le
  rw [la] at hle
  rw [lb] at hle2
  have hlb : a.length ≤ 9223372036854775807 := by omega
  have hlb2 : b.length ≤ 9223372036854775807 := by omega
  clear hle hle2
  have hw : w.heap.size ≤ w.heap.size := Nat.le_refl _
  by_cases hlen : a.length = b.length
  · skip
    have hL := Lib.hid hlen
    rw [← hlen] at lb
    clear hlen
    go_enter Try.func49, Try.ntmps49
    go_wp2_with fail
    go_loopw [5] (fun u5 wr => ∃ (k : Nat), k ≤ a.length ∧ u5 = .int .i64 k ∧ (∀ (j : Nat) (h1 : j < a.length) (h2 : j < b.length), j < k → a[j] = b[j]) ∧ Below w.heap.size w wr) (fun u5 _ => a.length - (intOf u5).toNat)
    case atStart => exact ⟨0, Nat.zero_le _, rfl, fun j _ _ h => by omega, Below.refl _ _⟩
    case round =>
      obtain ⟨k, hk, rfl, hst, hbr⟩ := hrel
      have HST := Lib.hid hst
      clear hst
      by_cases hkl : k < a.length
      · have hkb : k < b.length := by rw [← hL.out]; exact hkl
        have hc := (ha.below hbr).at' k hkl
        have hd := (hb.below hbr).at' k hkb
        have HX : Hid (∀ (h1 : k < a.length) (h2 : k < b.length), a[k] = b[k] ↔ a[k]'hkl = b[k]'hkb) := Lib.hid (fun _ _ => Iff.rfl)
        have i1 : (0 : Int) ≤ (k : Int) := by omega
        have i2 : (k : Int) < (a.length : Nat) := by omega
        generalize ha' : a[k]'hkl = x at *
        generalize hb' : b[k]'hkb = y at *
        have HA := Lib.hid ha'
        have HB := Lib.hid hb'
        clear ha' hb'
        by_cases hxy : x = y
        · subst hxy
          have HST2 : Hid (∀ (j : Nat) (h1 : j < a.length) (h2 : j < b.length), j < k + 1 → a[j] = b[j]) := Lib.hid (fun j h1 h2 h3 => by
            rcases Nat.lt_or_ge j k with h4 | h4
            · exact HST.out j h1 h2 h4
            · obtain rfl : j = k := by omega
              rw [HA.out, HB.out])
          go_wp2_with fail
          go_quiet (fail)
          have hbd := below_then hbr (below_drewN (B := wr.heap.size) wr nq)
          go_wp2_with fail
          go_roundw
          case rel => exact ⟨k + 1, by omega, by go_num, HST2.out, hbd⟩
          case measure => simp [intOf]; omega
        · skip
          have hxy2 : ((x : Int) == (y : Int)) = false := by first | (simp; omega) | simpa using hxy
          go_wp2_with fail
          go_quiet (fail)
          have hbd := below_then hbr (below_drewN (B := wr.heap.size) wr nq)
          go_wp2_with fail
          go_ret
          exact ⟨⟨false, rfl, by simp; intro h; subst h; exact hxy (HA.out.symm.trans HB.out)⟩, hbd⟩
      · go_wp2_with fail
        go_ret
        refine ⟨⟨true, rfl, by simp; exact list_ext_of hL.out (fun j h1 h2 => HST.out j h1 h2 (by omega))⟩, hbr⟩
  · have hne : ((a.length : Int) == (b.length : Int)) = false := by simp; omega
    go_enter Try.func49, Try.ntmps49
    go_wp2_with fail
    go_ret
    exact ⟨⟨false, rfl, by simp; intro h; exact hlen (by rw [h])⟩, Below.refl _ _⟩
set_option maxHeartbeats 1600000 in
theorem same_ints (va vb : Value) (a b : List Int) (w : World) (ha : IntsV w va a) (hb : IntsV w vb b) :
    Calls Try.prog 25 #[va, vb] w (RSame w (a = b)) := by
  have sa := CellsV.sl ha
  have la : slen va = a.length := by have := CellsV.len ha; simpa using this
  have sb := CellsV.sl hb
  have lb : slen vb = b.length := by have := CellsV.len hb; simpa using this
  have hle := sa.le
  have hle2 := sb.le
  rw [la] at hle
  rw [lb] at hle2
  have hlb : a.length ≤ 9223372036854775807 := by omega
  have hlb2 : b.length ≤ 9223372036854775807 := by omega
  clear hle hle2
  have hw : w.heap.size ≤ w.heap.size := Nat.le_refl _
  by_cases hlen : a.length = b.length
  · skip
    have hL := Lib.hid hlen
    rw [← hlen] at lb
    clear hlen
    go_enter Try.func25, Try.ntmps25
    go_wp2_with fail
    go_loopw [5] (fun u5 wr => ∃ (k : Nat), k ≤ a.length ∧ u5 = .int .i64 k ∧ (∀ (j : Nat) (h1 : j < a.length) (h2 : j < b.length), j < k → a[j] = b[j]) ∧ Below w.heap.size w wr) (fun u5 _ => a.length - (intOf u5).toNat)
    case atStart => exact ⟨0, Nat.zero_le _, rfl, fun j _ _ h => by omega, Below.refl _ _⟩
    case round =>
      obtain ⟨k, hk, rfl, hst, hbr⟩ := hrel
      have HST := Lib.hid hst
      clear hst
      by_cases hkl : k < a.length
      · have hkb : k < b.length := by rw [← hL.out]; exact hkl
        have hc := (ha.below hbr).at' k hkl
        have hd := (hb.below hbr).at' k hkb
        have HX : Hid (∀ (h1 : k < a.length) (h2 : k < b.length), a[k] = b[k] ↔ a[k]'hkl = b[k]'hkb) := Lib.hid (fun _ _ => Iff.rfl)
        have i1 : (0 : Int) ≤ (k : Int) := by omega
        have i2 : (k : Int) < (a.length : Nat) := by omega
        generalize ha' : a[k]'hkl = x at *
        generalize hb' : b[k]'hkb = y at *
        have HA := Lib.hid ha'
        have HB := Lib.hid hb'
        clear ha' hb'
        by_cases hxy : x = y
        · subst hxy
          have HST2 : Hid (∀ (j : Nat) (h1 : j < a.length) (h2 : j < b.length), j < k + 1 → a[j] = b[j]) := Lib.hid (fun j h1 h2 h3 => by
            rcases Nat.lt_or_ge j k with h4 | h4
            · exact HST.out j h1 h2 h4
            · obtain rfl : j = k := by omega
              rw [HA.out, HB.out])
          go_wp2_with fail
          go_quiet (fail)
          have hbd := below_then hbr (below_drewN (B := wr.heap.size) wr nq)
          go_wp2_with fail
          go_roundw
          case rel => exact ⟨k + 1, by omega, by go_num, HST2.out, hbd⟩
          case measure => simp [intOf]; omega
        · skip
          have hxy2 : (x == y) = false := by first | (simp; omega) | simpa using hxy
          go_wp2_with fail
          go_quiet (fail)
          have hbd := below_then hbr (below_drewN (B := wr.heap.size) wr nq)
          go_wp2_with fail
          go_ret
          exact ⟨⟨false, rfl, by simp; intro h; subst h; exact hxy (HA.out.symm.trans HB.out)⟩, hbd⟩
      · go_wp2_with fail
        go_ret
        refine ⟨⟨true, rfl, by simp; exact list_ext_of hL.out (fun j h1 h2 => HST.out j h1 h2 (by omega))⟩, hbr⟩
  · have hne : ((a.length : Int) == (b.length : Int)) = false := by simp; omega
    go_enter Try.func25, Try.ntmps25
    go_wp2_with fail
    go_ret
    exact ⟨⟨false, rfl, by simp; intro h; exact hlen (by rw [h])⟩, Below.refl _ _⟩
set_option maxHeartbeats 1600000 in
theorem same_bools (va vb : Value) (a b : List Bool) (w : World) (ha : BoolsV w va a) (hb : BoolsV w vb b) :
    Calls Try.prog 38 #[va, vb] w (RSame w (a = b)) := by
  have sa := CellsV.sl ha
  have la : slen va = a.length := by have := CellsV.len ha; simpa using this
  have sb := CellsV.sl hb
  have lb : slen vb = b.length := by have := CellsV.len hb; simpa using this
  have hle := sa.le
  have hle2 := sb.le
  rw [la] at hle
  rw [lb] at hle2
  have hlb : a.length ≤ 9223372036854775807 := by omega
  have hlb2 : b.length ≤ 9223372036854775807 := by omega
  clear hle hle2
  have hw : w.heap.size ≤ w.heap.size := Nat.le_refl _
  by_cases hlen : a.length = b.length
  · skip
    have hL := Lib.hid hlen
    rw [← hlen] at lb
    clear hlen
    go_enter Try.func38, Try.ntmps38
    go_wp2_with fail
    go_loopw [5] (fun u5 wr => ∃ (k : Nat), k ≤ a.length ∧ u5 = .int .i64 k ∧ (∀ (j : Nat) (h1 : j < a.length) (h2 : j < b.length), j < k → a[j] = b[j]) ∧ Below w.heap.size w wr) (fun u5 _ => a.length - (intOf u5).toNat)
    case atStart => exact ⟨0, Nat.zero_le _, rfl, fun j _ _ h => by omega, Below.refl _ _⟩
    case round =>
      obtain ⟨k, hk, rfl, hst, hbr⟩ := hrel
      have HST := Lib.hid hst
      clear hst
      by_cases hkl : k < a.length
      · have hkb : k < b.length := by rw [← hL.out]; exact hkl
        have hc := (ha.below hbr).at' k hkl
        have hd := (hb.below hbr).at' k hkb
        have HX : Hid (∀ (h1 : k < a.length) (h2 : k < b.length), a[k] = b[k] ↔ a[k]'hkl = b[k]'hkb) := Lib.hid (fun _ _ => Iff.rfl)
        have i1 : (0 : Int) ≤ (k : Int) := by omega
        have i2 : (k : Int) < (a.length : Nat) := by omega
        generalize ha' : a[k]'hkl = x at *
        generalize hb' : b[k]'hkb = y at *
        have HA := Lib.hid ha'
        have HB := Lib.hid hb'
        clear ha' hb'
        by_cases hxy : x = y
        · subst hxy
          have HST2 : Hid (∀ (j : Nat) (h1 : j < a.length) (h2 : j < b.length), j < k + 1 → a[j] = b[j]) := Lib.hid (fun j h1 h2 h3 => by
            rcases Nat.lt_or_ge j k with h4 | h4
            · exact HST.out j h1 h2 h4
            · obtain rfl : j = k := by omega
              rw [HA.out, HB.out])
          go_wp2_with fail
          go_quiet (fail)
          have hbd := below_then hbr (below_drewN (B := wr.heap.size) wr nq)
          go_wp2_with fail
          go_roundw
          case rel => exact ⟨k + 1, by omega, by go_num, HST2.out, hbd⟩
          case measure => simp [intOf]; omega
        · skip
          have hxy2 : (x == y) = false := by first | (simp; omega) | simpa using hxy
          go_wp2_with fail
          go_quiet (fail)
          have hbd := below_then hbr (below_drewN (B := wr.heap.size) wr nq)
          go_wp2_with fail
          go_ret
          exact ⟨⟨false, rfl, by simp; intro h; subst h; exact hxy (HA.out.symm.trans HB.out)⟩, hbd⟩
      · go_wp2_with fail
        go_ret
        refine ⟨⟨true, rfl, by simp; exact list_ext_of hL.out (fun j h1 h2 => HST.out j h1 h2 (by omega))⟩, hbr⟩
  · have hne : ((a.length : Int) == (b.length : Int)) = false := by simp; omega
    go_enter Try.func38, Try.ntmps38
    go_wp2_with fail
    go_ret
    exact ⟨⟨false, rfl, by simp; intro h; exact hlen (by rw [h])⟩, Below.refl _ _⟩
end Go.Proofs.Ytoldfpkafcefnaa
