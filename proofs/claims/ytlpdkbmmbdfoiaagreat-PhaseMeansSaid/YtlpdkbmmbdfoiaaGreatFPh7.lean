/-
  A law in the making: its rows are the walk's own. No code is walked here.
-/
import Derived.Test.YtlpdkbmmbdfoiaaGreatFTa6
import Derived.Test.YtlpdkbmmbdfoiaaGreatFKeep
import Derived.Test.YtlpdkbmmbdfoiaaGreatFTa4
set_option linter.unusedVariables false
set_option linter.unusedSimpArgs false
namespace Go.Proofs.YtlpdkbmmbdfoiaaGreat
open Go.RowKit
structure zve (w : World) (B : Nat) (vs ve vr : Value) (rs : List Value) (S E : List Rat) (R : List (List Rat)) : Prop where
 s : zya w 38 B vs S
 e : zya w 38 B ve E
 ra : zlc w 25 B 1 vr rs.length rs
 rl : rs.length = R.length
 rows : ∀ (j : Nat) (h : j < rs.length) (h' : j < R.length), zya w 38 B rs[j] R[j]
 ds : vs.ownBlock ≠ ve.ownBlock
 dr : ∀ (j : Nat) (h : j < rs.length), rs[j].ownBlock ≠ vs.ownBlock ∧ rs[j].ownBlock ≠ ve.ownBlock
 dd : ∀ (i j : Nat) (hi : i < rs.length) (hj : j < rs.length), i ≠ j → rs[i].ownBlock ≠ rs[j].ownBlock
 sz : B ≤ w.heap.size
section
variable {w w' : World} {B : Nat} {vs ve vr : Value} {rs : List Value} {S E : List Rat} {R : List (List Rat)}
theorem zve.moves (h : zve w B vs ve vr rs S E R) (hm : zhb B w w') : zve w' B vs ve vr rs S E R :=
 ⟨h.s.moves hm (Nat.le_refl _), h.e.moves hm (Nat.le_refl _), h.ra.moves hm (Nat.le_refl _), h.rl, fun j h1 h2 => (h.rows j h1 h2).moves hm (Nat.le_refl _), h.ds, h.dr, h.dd, Nat.le_trans h.sz hm.size⟩
theorem zve.below (h : zve w B vs ve vr rs S E R) (hb : Below w.heap.size w w') : zve w' B vs ve vr rs S E R := h.moves (zhb.below (B := B) hb)
theorem zve.lawC (h : zve w B vs ve vr rs S E R) (nm : Value) : zhm w (.agg #[nm, vs, vr, ve]) ⟨S, E, R⟩ :=
 ⟨nm, vs, vr, ve, rfl, h.s.fracs, ⟨h.ra.sl, by rw [h.ra.len]; exact h.rl, fun j hj => by
  have hj2 : j < rs.length := by rw [h.rl]; exact hj
  exact ⟨rs[j], h.ra.cell j hj2, (h.rows j hj2 hj).fracs⟩⟩, h.e.fracs⟩
theorem zya.kindR {v u : Value} {q : List Rat} {xs : List Value} (h : zya w 38 B v q) (h2 : zlc w 25 B 1 u xs.length xs) : v.ownBlock = none ∨ v.ownBlock ≠ u.ownBlock := by
 obtain ⟨ys, y1, y2⟩ := id h
 exact y1.kinds h2 (by decide)
theorem zya.kindR' {v u : Value} {q : List Rat} {xs : List Value} (h : zya w 38 B v q) (h2 : zlc w 25 B 1 u xs.length xs) : u.ownBlock = none ∨ u.ownBlock ≠ v.ownBlock := by
 obtain ⟨ys, y1, y2⟩ := id h
 exact h2.kinds y1 (by decide)
theorem zve.push (h : zve w B vs ve vr rs S E R) {r v' : Value} {q : List Rat} (hr : zya w 38 B r q) (h1 : r.ownBlock ≠ vs.ownBlock) (h2 : r.ownBlock ≠ ve.ownBlock) (h3 : ∀ (j : Nat) (h : j < rs.length), rs[j].ownBlock ≠ r.ownBlock)
 (hv : zlc w' 25 B 1 v' (rs ++ [r]).length (rs ++ [r])) (hg : w.grownBy w' vr.ownBlock) (hn : zlb w vr) : zve w' B vs ve v' (rs ++ [r]) S E (R ++ [q]) ∧ Below B w w' := by
 have hb : Below B w w' := zid (B := B) hg h.sz h.ra.block
 refine ⟨⟨h.s.grown hg hn (h.s.kindR h.ra), h.e.grown hg hn (h.e.kindR h.ra), hv, by simp [h.rl], fun j h4 h5 => ?_, h.ds, fun j h4 => ?_, fun i j hi hj hij => ?_, Nat.le_trans h.sz hb.size⟩, hb⟩
 ·rcases Nat.lt_or_ge j rs.length with hj | hj
  ·have hj2 : j < R.length := by rw [← h.rl]; exact hj
   rw [List.getElem_append_left hj, List.getElem_append_left hj2]
   exact (h.rows j hj hj2).grown hg hn ((h.rows j hj hj2).kindR h.ra)
  ·obtain rfl : j = rs.length := by simp at h4; omega
   have e1 : (rs ++ [r])[rs.length]'h4 = r := by simp
   have e2 : (R ++ [q])[rs.length]'h5 = q := by simp [h.rl]
   rw [e1, e2]
   exact hr.grown hg hn (hr.kindR h.ra)
 ·rcases Nat.lt_or_ge j rs.length with hj | hj
  ·rw [List.getElem_append_left hj]
   exact h.dr j hj
  ·obtain rfl : j = rs.length := by simp at h4; omega
   have e1 : (rs ++ [r])[rs.length]'h4 = r := by simp
   rw [e1]
   exact ⟨h1, h2⟩
 ·have key : ∀ k (hk : k < (rs ++ [r]).length), ¬ k < rs.length → (rs ++ [r])[k] = r ∧ k = rs.length := fun k hk hk2 => by
   obtain rfl : k = rs.length := by simp at hk; omega
   exact ⟨by simp, rfl⟩
  by_cases hi2 : i < rs.length
  ·by_cases hj2 : j < rs.length
   ·rw [List.getElem_append_left hi2, List.getElem_append_left hj2]
    exact h.dd i j hi2 hj2 hij
   ·rw [(key j hj hj2).1, List.getElem_append_left hi2]
    exact h3 i hi2
  ·by_cases hj2 : j < rs.length
   ·rw [(key i hi hi2).1, List.getElem_append_left hj2]
    exact fun e => h3 j hj2 e.symm
   ·exact absurd ((key i hi hi2).2.trans (key j hj hj2).2.symm) hij
theorem zve.putS (h : zve w B vs ve vr rs S E R) {i : Nat} (hi : i < S.length) {x y z : Value} {r : Rat} (hf : zqa w (.agg #[x, y, z]) r) :
 zve (((w.setCell (ptr vs (i * 3)) x).setCell (ptr vs (i * 3 + 1)) y).setCell (ptr vs (i * 3 + 2)) z) B vs ve vr rs (S.set i r) E R ∧ Below B w (((w.setCell (ptr vs (i * 3)) x).setCell (ptr vs (i * 3 + 1)) y).setCell (ptr vs (i * 3 + 2)) z) := by
 obtain ⟨p1, hg⟩ := h.s.put hi hf
 have hn := h.s.noLimb
 have hb := zid (B := B) hg h.sz h.s.block
 exact ⟨⟨p1, h.e.grown hg hn (Or.inr fun e => h.ds e.symm), h.ra.grown hg (h.s.kindR' h.ra), h.rl, fun j h1 h2 => (h.rows j h1 h2).grown hg hn (Or.inr (h.dr j h1).1), h.ds, h.dr, h.dd, Nat.le_trans h.sz hb.size⟩, hb⟩
theorem zve.putE (h : zve w B vs ve vr rs S E R) {i : Nat} (hi : i < E.length) {x y z : Value} {r : Rat} (hf : zqa w (.agg #[x, y, z]) r) :
 zve (((w.setCell (ptr ve (i * 3)) x).setCell (ptr ve (i * 3 + 1)) y).setCell (ptr ve (i * 3 + 2)) z) B vs ve vr rs S (E.set i r) R ∧ Below B w (((w.setCell (ptr ve (i * 3)) x).setCell (ptr ve (i * 3 + 1)) y).setCell (ptr ve (i * 3 + 2)) z) := by
 obtain ⟨p1, hg⟩ := h.e.put hi hf
 have hn := h.e.noLimb
 have hb := zid (B := B) hg h.sz h.e.block
 exact ⟨⟨h.s.grown hg hn (Or.inr h.ds), p1, h.ra.grown hg (h.e.kindR' h.ra), h.rl, fun j h1 h2 => (h.rows j h1 h2).grown hg hn (Or.inr (h.dr j h1).2), h.ds, h.dr, h.dd, Nat.le_trans h.sz hb.size⟩, hb⟩
theorem zve.putR (h : zve w B vs ve vr rs S E R) {i j : Nat} (hi : i < rs.length) (hi2 : i < R.length) (hj : j < R[i].length) {x y z : Value} {r : Rat} (hf : zqa w (.agg #[x, y, z]) r) :
 zve (((w.setCell (ptr rs[i] (j * 3)) x).setCell (ptr rs[i] (j * 3 + 1)) y).setCell (ptr rs[i] (j * 3 + 2)) z) B vs ve vr rs S E (R.set i (R[i].set j r)) ∧ Below B w (((w.setCell (ptr rs[i] (j * 3)) x).setCell (ptr rs[i] (j * 3 + 1)) y).setCell (ptr rs[i] (j * 3 + 2)) z) := by
 have hrow := h.rows i hi hi2
 obtain ⟨p1, hg⟩ := hrow.put hj hf
 have hn := hrow.noLimb
 have hb := zid (B := B) hg h.sz hrow.block
 refine ⟨⟨h.s.grown hg hn (Or.inr fun e => (h.dr i hi).1 e.symm), h.e.grown hg hn (Or.inr fun e => (h.dr i hi).2 e.symm), h.ra.grown hg (hrow.kindR' h.ra), by rw [List.length_set]; exact h.rl, fun k h1 h2 => ?_, h.ds, h.dr, h.dd, Nat.le_trans h.sz hb.size⟩, hb⟩
 by_cases e : i = k
 ·subst e
  rw [List.getElem_set_self]
  exact p1
 ·rw [List.getElem_set_ne e]
  exact (h.rows k h1 (by rw [List.length_set] at h2; exact h2)).grown hg hn (Or.inr fun e2 => h.dd k i h1 hi (fun e3 => e e3.symm) e2)
theorem zlc.lower {B' n size : Nat} {e : TypeId} {v : Value} {xs : List Value} (h1 : zlc w e B size v n xs) (hB : B' ≤ B) : zlc w e B' size v n xs := by
 refine ⟨⟨h1.own.1, ?_⟩, h1.nl⟩
 rcases h1.own.2 with h | ⟨g, cap, cur, rfl, hb, rest⟩
 ·exact .inl h
 ·exact .inr ⟨g, cap, cur, rfl, by omega, rest⟩
theorem zve.mono {B' : Nat} (h : zve w B vs ve vr rs S E R) (hB : B' ≤ B) : zve w B' vs ve vr rs S E R :=
 ⟨h.s.mono hB, h.e.mono hB, h.ra.lower hB, h.rl, fun j h1 h2 => (h.rows j h1 h2).mono hB, h.ds, h.dr, h.dd, Nat.le_trans hB h.sz⟩
theorem zya.neB {v : Value} {q : List Rat} {e : TypeId} {b : Nat} {s : ByteArray} (h : zya w e B v q) (hq : 0 < q.length) (hc : w.cell? ⟨b, 0, none⟩ = some (.string s)) : v.ownBlock ≠ some b := by
 obtain ⟨g, h1, _, _, _, hp⟩ := h.blk hq
 rw [h1]
 intro e
 injection e with e
 subst e
 obtain ⟨x, y, e1, _⟩ := h.fracs.at' 0 hq
 rw [Nat.zero_mul, hp, hc] at e1
 cases e1
theorem zlc.neB {v : Value} {xs : List Value} {e : TypeId} {b : Nat} {s : ByteArray} (h : zlc w e B 1 v xs.length xs) (hq : 0 < xs.length) (hx : ∀ j (hj : j < xs.length), zgc xs[j]) (hc : w.cell? ⟨b, 0, none⟩ = some (.string s)) : v.ownBlock ≠ some b := by
 obtain ⟨g, h1, _, _, _, hp⟩ := h.blk hq
 rw [h1]
 intro e
 injection e with e
 subst e
 have e1 := h.cell 0 hq
 rw [hp, hc] at e1
 obtain ⟨a, l, k, h2, _⟩ := hx 0 hq
 injection e1 with e1
 rw [h2] at e1
 cases e1
structure zve.Pos (vr : Value) (rs : List Value) (S E : List Rat) (R : List (List Rat)) : Prop where
 s : 0 < S.length
 e : 0 < E.length
 r : ∀ (j : Nat) (h : j < R.length), 0 < R[j].length
 v : rs = [] → vr.ownBlock = none
theorem zve.over (h : zve w B vs ve vr rs S E R) (hp : zve.Pos vr rs S E R) {b : Nat} {s : ByteArray} (hc : w.cell? ⟨b, 0, none⟩ = some (.string s)) {p : Addr} {x : Value} (hpb : p.block = b) (hx : w.cell? p = some x) (hn : ∀ z, x ≠ .int .u32 z) (u : Value) :
 zve (w.setCell p u) B vs ve vr rs S E R := by
 have n1 : vs.ownBlock ≠ some p.block := by rw [hpb]; exact h.s.neB hp.s hc
 have n2 : ve.ownBlock ≠ some p.block := by rw [hpb]; exact h.e.neB hp.e hc
 have n3 : vr.ownBlock = none ∨ vr.ownBlock ≠ some p.block := by
  rw [hpb]
  rcases Nat.eq_zero_or_pos rs.length with h0 | h0
  ·exact Or.inl (hp.v (List.length_eq_zero_iff.1 h0))
  ·exact Or.inr (h.ra.neB h0 (fun j hj => (h.rows j hj (by rw [← h.rl]; exact hj)).sl) hc)
 exact ⟨h.s.over (Or.inr n1) hx hn u, h.e.over (Or.inr n2) hx hn u, h.ra.over n3 u, h.rl, fun j h1 h2 => (h.rows j h1 h2).over (Or.inr (by rw [hpb]; exact (h.rows j h1 h2).neB (hp.r j h2) hc)) hx hn u, h.ds, h.dr, h.dd, by
  have := h.sz
  simpa [World.setCell] using this⟩
end
section
variable {w : World} {b : Nat} {v0 v1 v2 v3 : Value}
theorem C4.set (h : C4 w b v0 v1 v2 v3) (u0 u1 u2 u3 : Value) : C4 ((((w.setCell ⟨b, 0, none⟩ u0).setCell ⟨b, 1, none⟩ u1).setCell ⟨b, 2, none⟩ u2).setCell ⟨b, 3, none⟩ u3) b u0 u1 u2 u3 := by
 obtain ⟨lt, c0, c1, c2, c3, f0, f1, f2, f3⟩ := h
 refine ⟨by simpa [World.setCell] using lt, ?_, ?_, ?_, ?_, ?_, ?_, ?_, ?_⟩ <;> go_simp
theorem C4.set2 (h : C4 w b v0 v1 v2 v3) (u : Value) : C4 (w.setCell ⟨b, 2, none⟩ u) b v0 v1 u v3 := by
 obtain ⟨lt, c0, c1, c2, c3, f0, f1, f2, f3⟩ := h
 refine ⟨by simpa [World.setCell] using lt, ?_, ?_, ?_, ?_, ?_, ?_, ?_, ?_⟩ <;> go_simp
theorem C4.other (h : C4 w b v0 v1 v2 v3) {p : Addr} (hp : p.block ≠ b) (u : Value) : C4 (w.setCell p u) b v0 v1 v2 v3 := by
 have key : ∀ k, p ≠ ⟨b, k, none⟩ := fun k e => hp (by rw [e])
 have key2 : ∀ k, (⟨b, k, none⟩ : Addr) ≠ p := fun k e => hp (by rw [← e])
 obtain ⟨lt, c0, c1, c2, c3, f0, f1, f2, f3⟩ := h
 refine ⟨by simpa [World.setCell] using lt, ?_, ?_, ?_, ?_, ?_, ?_, ?_, ?_⟩
 all_goals first
  |(rw [World.cell?_setCell_other _ _ _ _ (key2 _)]; assumption)
  |(rw [World.cell?_setCell_other _ _ _ _ (key _)]; assumption)
  |(rw [World.frozen?_setCell]; assumption)
theorem C4.grown {w' : World} {row : Option Nat} (h : C4 w b v0 v1 v2 v3) (hg : w.grownBy w' row) (hne : row ≠ some b) : C4 w' b v0 v1 v2 v3 := by
 have hb := hg.block b h.lt (fun e => hne e.symm)
 obtain ⟨lt, c0, c1, c2, c3, f0, f1, f2, f3⟩ := h
 have hc : ∀ k, w'.cell? ⟨b, k, none⟩ = w.cell? ⟨b, k, none⟩ := fun k => by unfold World.cell?; rw [hb]
 have hf : ∀ k, w'.frozen? ⟨b, k, none⟩ = w.frozen? ⟨b, k, none⟩ := fun k => by unfold World.frozen?; rw [hb]
 exact ⟨Nat.lt_of_lt_of_le lt hg.size, by rw [hc]; exact c0, by rw [hc]; exact c1, by rw [hc]; exact c2, by rw [hc]; exact c3, by rw [hf]; exact f0, by rw [hf]; exact f1, by rw [hf]; exact f2, by rw [hf]; exact f3⟩
theorem own_ne {w1 w2 : World} {B1 : Nat} {e1 e2 : TypeId} {v v' : Value} {q q' : List Rat} (h : zya w1 e1 B1 v q) (h' : zya w2 e2 w1.heap.size v' q') (hq' : 0 < q'.length) : v'.ownBlock ≠ v.ownBlock := by
 obtain ⟨g, h1, _, h2, _, _⟩ := h'.blk hq'
 rw [h1]
 intro e
 have := h.block g e.symm
 omega
theorem zqd {w0 w : World} {B b : Nat} (h : Below B w0 w) (hb : B ≤ b) (u0 u1 u2 u3 : Value) : Below B w0 ((((w.setCell ⟨b, 0, none⟩ u0).setCell ⟨b, 1, none⟩ u1).setCell ⟨b, 2, none⟩ u2).setCell ⟨b, 3, none⟩ u3) :=
 (zga h hb u0 u1 u2).setCell (p := ⟨b, 3, none⟩) hb u3
theorem zve.set4 {B : Nat} {vs ve vr : Value} {rs : List Value} {S E : List Rat} {R : List (List Rat)} {s : ByteArray} (h : zve w B vs ve vr rs S E R) (hp : zve.Pos vr rs S E R) (hc : C4 w b (.string s) v1 v2 v3) (n1 : ∀ z, v1 ≠ .int .u32 z) (n2 : ∀ z, v2 ≠ .int .u32 z) (n3 : ∀ z, v3 ≠ .int .u32 z) (s' : ByteArray) (u1 u2 u3 : Value) :
 zve ((((w.setCell ⟨b, 0, none⟩ (.string s')).setCell ⟨b, 1, none⟩ u1).setCell ⟨b, 2, none⟩ u2).setCell ⟨b, 3, none⟩ u3) B vs ve vr rs S E R := by
 obtain ⟨lt, c0, c1, c2, c3, f0, f1, f2, f3⟩ := hc
 have k1 := h.over hp c0 (p := ⟨b, 0, none⟩) rfl c0 (fun z => by simp) (.string s')
 have k2 := k1.over hp (b := b) (s := s') (by go_simp) (p := ⟨b, 1, none⟩) rfl (x := v1) (by go_simp) n1 u1
 have k3 := k2.over hp (b := b) (s := s') (by go_simp) (p := ⟨b, 2, none⟩) rfl (x := v2) (by go_simp) n2 u2
 exact k3.over hp (b := b) (s := s') (by go_simp) (p := ⟨b, 3, none⟩) rfl (x := v3) (by go_simp) n3 u3
end
end Go.Proofs.YtlpdkbmmbdfoiaaGreat
