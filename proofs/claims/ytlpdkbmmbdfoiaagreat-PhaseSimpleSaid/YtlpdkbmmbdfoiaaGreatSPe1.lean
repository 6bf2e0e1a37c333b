/-
  package drydockref20: low, zeros, empty.
-/
import Derived.Test.YtlpdkbmmbdfoiaaGreatSPh11
import Derived.Test.YtlpdkbmmbdfoiaaGreatSTk
set_option linter.unusedVariables false
set_option linter.unusedSimpArgs false
namespace Go.Proofs.YtlpdkbmmbdfoiaaGreat
open Go.RowKit
set_option maxHeartbeats 1600000 in
theorem rlow_any (va : Value) (s : Bool) (n d : Nat) (w : World) (ha : zlb w va s n d) (hk : okN n d) : Calls Tryz.prog 92 #[va] w (RF1 w (fq s n d)) := by
 obtain ⟨x0, y0, rfl, h1, h2⟩ := id ha
 obtain ⟨a11, l11, k11, rfl, _⟩ := h1.slen.1
 obtain ⟨a12, l12, k12, rfl, _⟩ := h2.slen.1
 have hb1 := zca w (.cells #[.bool s, .slice a11 l11 k11, .slice a12 l12 k12] 38)
 have hb2 := zca (w.alloc (.cells #[.bool s, .slice a11 l11 k11, .slice a12 l12 k12] 38)) (.cells #[.bool false, .slice none 0 0, .slice none 0 0] 38)
 have HC := zH ((C3.new w 38 (.bool s) (.slice a11 l11 k11) (.slice a12 l12 k12)).belowS hb2)
 have HT := zH (C3.newB (b := w.heap.size + 1) (w.alloc (.cells #[.bool s, .slice a11 l11 k11, .slice a12 l12 k12] 38)) 38 (.bool false) (.slice none 0 0) (.slice none 0 0) (by show (w.heap.push _).size = _; rw [Array.size_push]))
 have HB := zH (zaa hb1 hb2)
 have HA := zH (ha.below HB.out)
 have HK := zH hk
 obtain ⟨q, hq⟩ : ∃ q, fq s n d = q := ⟨_, rfl⟩
 rw [hq]
 have HRED : Hid (∀ w0 vx, zlb w0 vx s n d → Calls Tryz.prog 116 #[vx] w0 (RF0 w0 q)) := zH (fun w0 vx h => by
  refine (zvf vx _ _ _ w0 h).mono ?_
  rintro e w' ⟨v, er, rfl, hb, h1, _⟩
  obtain ⟨rfl, h2⟩ := h1 HK.out
  rw [hq] at h2
  exact ⟨v, rfl, h2, hb⟩)
 clear ha hb1 hb2 hk hq h1 h2
 go_enter Tryz.func92, Tryz.ntmps92
 go_upto_region 1 with fail
 generalize (w.alloc (.cells #[.bool s, .slice a11 l11 k11, .slice a12 l12 k12] 38)).alloc (.cells #[.bool false, .slice none 0 0, .slice none 0 0] 38) = W2 at *
 obtain ⟨_, c0, c1, c2, _, _, _⟩ := HC.out
 go_wp2_with (first
  |(go_at_call 116; (with_reducible refine (HRED.out _ _ HA.out).mono ?_); rintro e3 w3 ⟨v3, rfl, hv3, hb3⟩
    obtain ⟨t3, x3, y3, rfl, ⟨a31, l31, k31, rfl, _⟩, ⟨a32, l32, k32, rfl, _⟩⟩ := hv3.isF
    have hba := zca w3 (.cells #[.bool t3, .slice a31 l31 k31, .slice a32 l32 k32] 38)
    have HT3 := zH ((HT.out.belowS hb3).belowS hba)
    have HV3 := zH (hv3.below hba)
    have HB3 := zH (zaa HB.out (zaa hb3 hba))
    obtain ⟨_, d0, d1, d2, f0, f1, f2⟩ := HT3.out
    clear hv3 hb3 hba c0 c1 c2))
 refine zab rfl rfl Tryz.aggF Tryz.sizeF (HT3.out.set _ _ _) rfl ?_
 exact ⟨_, rfl, HV3.out.set3 HT3.out (fun z => by simp) (fun z => by simp) _ _ _, zha HB3.out (Nat.le_succ _) _ _ _⟩
set_option maxHeartbeats 1600000 in
theorem zii (n : Nat) (w : World) (hn1 : 1 ≤ n) (hn : n ≤ 4) :
 Calls Tryz.prog 165 #[.int .i64 (n : Nat)] w (fun e w' => ∃ v, e = .returned v ∧ zbb w' 38 w.heap.size v (zua n) ∧ Below w.heap.size w w') := by
 obtain ⟨i3, hi3, hz3, hs3, hy3⟩ := info_parts Tryz.infoF
 have hAP := append1_fr (P := Tryz.prog) 25 38 i3 Tryz.underlying25 hi3 hz3 hs3 hy3
 clear hi3 hz3 hs3 hy3
 go_enter Tryz.func165, Tryz.ntmps165
 go_wp2_with fail
 go_loopg [3, 4] (n) (fun g u3 u4 wr => ∃ (i : Nat), i ≤ n ∧ g = n - i ∧ u4 = .int .i64 i ∧ zbb wr 38 w.heap.size u3 (zua i) ∧ zlc u3 ∧ Below w.heap.size w wr)
 case atStart => exact ⟨0, Nat.zero_le _, rfl, rfl, zbb.nil _ _ _, (zbb.nil w 38 w.heap.size).sl, Below.refl _ _⟩
 case round =>
  obtain ⟨i, hin, hg, rfl, hr, hsl, hbr⟩ := hrel
  obtain ⟨r1, r2, r3, rfl, _⟩ := id hsl
  obtain ⟨wx, hwx⟩ : ∃ w6, w6 = wr := ⟨_, rfl⟩
  subst hwx
  have HG := zH hg
  have HR := zH hr
  have HBR := zH hbr
  clear hg hr hbr
  by_cases hil : i < n
  ·have i2 : (i : Int) < (n : Nat) := by omega
   go_wp2_with (first
    |(go_at_call 20; (with_reducible refine (zdm _).mono ?_); rintro e7 w7 ⟨v7, rfl, hv7, hb7⟩
      obtain ⟨t7, x7, y7, rfl, ⟨a71, l71, k71, rfl, _⟩, ⟨a72, l72, k72, rfl, _⟩⟩ := hv7.isF
      have hr7 := HR.out.moves (zec.below (B := w.heap.size) hb7) (Nat.le_refl _)
      have hb8 := zda HBR.out hb7 HBR.out.size
      have hsz8 := hb8.size
      have hlz : (zua i).length ≤ 1000 := by rw [zna]; omega)
    |(at_builtin; refine hAP w7 rfl _ _ rfl w.heap.size _ (.slice r1 r2 r3) (zua i) rfl hr7 _ _ _ 0 hv7 rfl hlz hsz8 ?_; intro v9 w9 ho9 hg9 hn9 hq9 sv9
      have HO9 := zH ho9
      have HS9 := zH sv9
      have HB9 := zH (hb8.trans (zla hg9 hsz8 (fun k hk => (hr7.block k hk).1)))
      clear ho9 hg9 hn9 hq9 sv9 hr7 hb8 hb7 hv7 hsz8 hlz))
   go_roundg (n - (i + 1))
   case measure => (have := HG.out; omega)
   case rel => exact ⟨i + 1, by omega, rfl, by go_num, by
    have h := HO9.out
    have e : zua i ++ [0] = zua (i + 1) := by unfold zua; rw [← List.replicate_succ']
    rwa [e] at h, HS9.out, HB9.out⟩
  ·obtain rfl : i = n := by omega
   go_wp2_with fail
   go_ret
   exact ⟨_, rfl, HR.out, HBR.out⟩
set_option maxRecDepth 100000 in
set_option maxHeartbeats 3200000 in
theorem rempty_any (n : Nat) (w : World) (hn1 : 1 ≤ n) (hn : n ≤ 4) :
 Calls Tryz.prog 91 #[.int .i64 (n : Nat)] w (fun e w' => ∃ vs ve vr rs, e = .returned (.agg #[.string { data := #[] }, vs, vr, ve]) ∧ zxd w' w.heap.size vs ve vr rs (zua n) (zua n) (List.replicate n (zua n)) ∧ Below w.heap.size w w') := by
 obtain ⟨i4, hi4, hz4, hs4, hy4⟩ := info_parts Tryz.infoRow
 have hAR := fun {ops : Array Oper} {o : Oper} {a : Act} {w : World} {K : Act → World → Prop} {Q : Exit → Act → World → Prop} {E : Prop} => zvi (P := Tryz.prog) 24 25 i4 Tryz.underlying24 hi4 hz4 hs4 hy4 (ops := ops) (o := o) (a := a) (w := w) (K := K) (Q := Q) (E := E)
 clear hi4 hz4 hs4 hy4
 have hT := C4.new w 52 (.string { data := #[] }) (.slice none 0 0) (.slice none 0 0) (.slice none 0 0)
 have hbw := zca w (.cells #[.string { data := #[] }, .slice none 0 0, .slice none 0 0, .slice none 0 0] 52)
 go_enter Tryz.func91, Tryz.ntmps91
 go_upto_region 1 with fail
 generalize hW : w.alloc (.cells #[.string { data := #[] }, .slice none 0 0, .slice none 0 0, .slice none 0 0] 52) = W2 at *
 have HT := zH hT
 have HBW := zH hbw
 clear hT hbw hW
 have tok1 : True := trivial
 go_wp2_with (first
  |(go_at_call 165; have _t := tok1; (with_reducible refine (zii n _ hn1 hn).mono ?_); rintro e5 w5 ⟨v5, rfl, hv5, hb5⟩
    obtain ⟨s1, s2, s3, rfl, _⟩ := id hv5.sl
    have HV5 := zH hv5
    have HB5 := zH hb5
    clear hv5 hb5 tok1 _t)
  |(go_at_call 165
    (with_reducible refine (zii n _ hn1 hn).mono ?_); rintro e6 w6 ⟨v6, rfl, hv6, hb6⟩
    obtain ⟨e1, e2, e3, rfl, _⟩ := id hv6.sl
    have hba := zca w6 (.cells #[.string { data := #[] }, .slice s1 s2 s3, .slice none 0 0, .slice e1 e2 e3] 52)
    have HB6 := zH (zaa (zaa HB5.out hb6) hba)
    have HC6 := zH (C4.new w6 52 (.string { data := #[] }) (.slice s1 s2 s3) (.slice none 0 0) (.slice e1 e2 e3))
    obtain ⟨g5, k1, _, k3, k4, _⟩ := HV5.out.blk (by rw [zna]; exact hn1)
    obtain ⟨g6, m1, _, m3, m4, _⟩ := hv6.blk (by rw [zna]; exact hn1)
    have HW6 : Hid (zxd w6 W2.heap.size (.slice s1 s2 s3) (.slice e1 e2 e3) (.slice none 0 0) [] (zua n) (zua n) []) := zH ⟨HV5.out.moves (zec.below (B := W2.heap.size) hb6) (Nat.le_refl _), hv6.mono HB5.out.size, zuc.nil _ _ _ _, rfl, fun j h => (by cases h), (by rw [k1, m1]; intro e; injection e with e; omega), fun j h => (by cases h), fun i j h => (by cases h), Nat.le_trans HB5.out.size hb6.size⟩
    have HL6 := zH (HW6.out.below hba)
    have HSZ : Hid (W2.heap.size ≤ w6.heap.size) := zH (Nat.le_trans HB5.out.size hb6.size)
    clear hv6 hb6 hba k1 k3 k4 m1 m3 m4 HV5 HB5 HW6))
 obtain ⟨b4, hb4⟩ : ∃ b, w6.heap.size = b := ⟨_, rfl⟩
 rw [hb4] at HC6 ⊢
 have HB4 : Hid (W2.heap.size ≤ b4) := zH (by rw [← hb4]; exact HSZ.out)
 clear hb4
 go_loopg [4] (n) (fun g u4 wr => ∃ (i : Nat) (vr : Value) (rs : List Value), i ≤ n ∧ g = n - i ∧ u4 = .int .i64 i ∧ zxd wr W2.heap.size (.slice s1 s2 s3) (.slice e1 e2 e3) vr rs (zua n) (zua n) (List.replicate i (zua n)) ∧ (rs = [] → vr.ownBlock = none) ∧ C4 wr b4 (.string { data := #[] }) (.slice s1 s2 s3) vr (.slice e1 e2 e3) ∧ Below W2.heap.size W2 wr)
 case atStart => exact ⟨0, _, _, Nat.zero_le _, rfl, rfl, HL6.out, fun _ => rfl, HC6.out, HB6.out⟩
 case round =>
  obtain ⟨i, vr, rs, hin, hg, rfl, hl, hnv, hc, hbr⟩ := hrel
  obtain ⟨wx, hwx⟩ : ∃ w6, w6 = wr := ⟨_, rfl⟩
  subst hwx
  have HG := zH hg
  have HL := zH hl
  have HNV := zH hnv
  have HC := zH hc
  have HBR := zH hbr
  clear hg hl hnv HL6 HC6 HB6
  by_cases hil : i < n
  ·have i1 : (0 : Int) ≤ (i : Int) := by omega
   have i2 : (i : Int) < (n : Nat) := by omega
   go_wp2_with fail
   obtain ⟨hlt4, c0, c1, c2, c3, f0, f1, f2, f3⟩ := hc
   obtain ⟨y1, y2, y3, rfl, _⟩ := id HL.out.ra.sl
   have hbD := zga (B := wx.heap.size) wx
   have HLD := zH (HL.out.below hbD)
   have HCD := zH (HC.out.belowS hbD)
   have HBD := zH (zda HBR.out hbD HBR.out.size)
   clear hbr
   refine wpL.start 7 (fun w' => w'.cell? ⟨b4, 2, none⟩ = some (.slice y1 y2 y3)) (by kernel_rfl) (zba hbD c2) (fun hHeld => ?_)
   clear c0 c1 c2 c3 f0 f1 f2 f3 hbD
   generalize wx.drew = wd at *
   (refine wpL.takeU 0 (by kernel_rfl) (by kernel_rfl) (by kernel_rfl) (by kernel_rfl) (by kernel_rfl) (by assumption) (by kernel_rfl) ?_; intro oi hoi; simp only [List.getElem?_toArray, List.getElem?_cons_succ, List.getElem?_cons_zero, Option.some.injEq] at hoi; subst hoi)
   first
    |(refine ⟨undef, fun _ _ _ h => h, Or.inr ⟨by rfl, rfl⟩, ?_⟩; simp only [Act.put, List.setIfInBounds_toArray, List.set_cons_zero, List.set_cons_succ])
    |(refine ⟨?_, fun _ _ _ h => h, Or.inl ⟨by rfl, ?_⟩, ?_⟩; rotate_left; focus (intro w hSw; go_simp; try with_reducible rfl)
      simp only [Act.put, List.setIfInBounds_toArray, List.set_cons_zero, List.set_cons_succ])
    | fail "op 0"
   (refine wpL.takeU 2 (by kernel_rfl) (by kernel_rfl) (by kernel_rfl) (by kernel_rfl) (by kernel_rfl) (by assumption) (by kernel_rfl) ?_; intro oi hoi; simp only [List.getElem?_toArray, List.getElem?_cons_succ, List.getElem?_cons_zero, Option.some.injEq] at hoi; subst hoi)
   first
    |(refine ⟨undef, fun _ _ _ h => h, Or.inr ⟨by rfl, rfl⟩, ?_⟩; simp only [Act.put, List.setIfInBounds_toArray, List.set_cons_zero, List.set_cons_succ])
    |(refine ⟨?_, fun _ _ _ h => h, Or.inl ⟨by rfl, ?_⟩, ?_⟩; rotate_left; focus (intro w hSw; go_simp; try with_reducible rfl)
      simp only [Act.put, List.setIfInBounds_toArray, List.set_cons_zero, List.set_cons_succ])
    | fail "op 2"
   (refine wpL.take 1 (by kernel_rfl) (by kernel_rfl) (by kernel_rfl) (by kernel_rfl) (by kernel_rfl) (by kernel_rfl) (by assumption) (by kernel_rfl) ?_; intro oi hoi; simp only [List.getElem?_toArray, List.getElem?_cons_succ, List.getElem?_cons_zero, Option.some.injEq] at hoi; subst hoi)
   first
    |(refine ⟨undef, fun _ _ _ h => h, Or.inr ⟨by rfl, rfl⟩, ?_⟩; simp only [Act.put, List.setIfInBounds_toArray, List.set_cons_zero, List.set_cons_succ])
    |(refine ⟨?_, fun _ _ _ h => h, Or.inl ⟨by rfl, ?_⟩, ?_⟩; rotate_left; focus (intro w hSw; (try dsimp only at hSw); go_simp; try with_reducible rfl)
      simp only [Act.put, List.setIfInBounds_toArray, List.set_cons_zero, List.set_cons_succ])
    | fail "op 1"
   (refine wpL.one 3 (by kernel_rfl) (by kernel_rfl) ?_; intro oi hoi K hK; simp only [List.getElem?_toArray, List.getElem?_cons_succ, List.getElem?_cons_zero, Option.some.injEq] at hoi; subst hoi)
   refine zva 165 #[.int .i64 (n : Nat)] ?_ ?_ (zii n wd hn1 hn) ?_
   ·rfl
   ·go_simp
   rintro e7 w7 ⟨v7, rfl, hv7, hb7⟩
   obtain ⟨r1, r2, r3, rfl, _⟩ := id hv7.sl
   refine ⟨_, rfl, ?_⟩
   refine hK.out _ _ (fun _ => zba hb7 hHeld) ?_
   have h7 := zba hb7 hHeld
   clear hK K hHeld
   try simp only [Act.put, List.setIfInBounds_toArray, List.set_cons_zero, List.set_cons_succ]
   (refine wpL.one 4 (by kernel_rfl) (by kernel_rfl) ?_; intro oi hoi K hK; simp only [List.getElem?_toArray, List.getElem?_cons_succ, List.getElem?_cons_zero, Option.some.injEq] at hoi; subst hoi)
   rw [if_pos (by rfl)]
   go_simp
   have hb8 := zca w7 (.cells #[.slice r1 r2 r3] 25)
   refine hK.out _ _ (fun _ => zba hb8 h7) ?_
   clear hK K
   try simp only [Act.put, List.setIfInBounds_toArray, List.set_cons_zero, List.set_cons_succ]
   have hle := HBD.out.size
   have hrow := (hv7.mono hle).moves (zec.below (B := W2.heap.size) hb8) (Nat.le_refl _)
   have L8 := (HLD.out.below hb7).below hb8
   have hzl : 0 < (zua n).length := by rw [zna]; exact hn1
   have n1 := zem HLD.out.s hv7 hzl
   have n2 := zem HLD.out.e hv7 hzl
   have n3 : ∀ (j : Nat) (h : j < rs.length), rs[j].ownBlock ≠ (Value.slice r1 r2 r3).ownBlock := fun j h => (zem (HLD.out.rows j h (by rw [← HLD.out.rl]; exact h)) hv7 hzl).symm
   have hrl : rs.length ≤ 1000 := by have h := HLD.out.rl; rw [List.length_replicate] at h; omega
   have C8 := (HCD.out.belowS hb7).belowS hb8
   have hb48 := zda (zda HBD.out hb7 HBD.out.size) hb8 (Nat.le_trans HBD.out.size hb7.size)
   have hc8 : (w7.alloc (.cells #[.slice r1 r2 r3] 25)).cell? ⟨w7.heap.size, 0, none⟩ = some (.slice r1 r2 r3) := by go_simp
   have hsz8 := hb48.size
   have hslr := hv7.sl
   generalize w7.alloc (.cells #[.slice r1 r2 r3] 25) = w8 at *
   generalize w7.heap.size = g7 at *
   clear hv7 hb7 hb8 h7 HLD HCD hle
   (refine wpL.one 5 (by kernel_rfl) (by kernel_rfl) ?_; intro oi hoi K hK; simp only [List.getElem?_toArray, List.getElem?_cons_succ, List.getElem?_cons_zero, Option.some.injEq] at hoi; subst hoi)
   refine hAR rfl _ _ (by rfl) W2.heap.size (.slice y1 y2 y3) rs (by rfl) L8.ra (.slice r1 r2 r3) hslr g7 (by rfl) hc8 hrl hsz8 ?_
   intro v9 w9 ho9 hg9 hn9 hs9
   obtain ⟨x1, x2, x3, rfl, _⟩ := id hs9
   have hnv : (Value.slice y1 y2 y3).ownBlock ≠ some b4 := by
    rcases Nat.eq_zero_or_pos rs.length with h0 | h0
    ·rw [HNV.out (List.length_eq_zero_iff.1 h0)]; intro e; cases e
    ·exact L8.ra.neB h0 (fun j hj => (L8.rows j hj (by rw [← L8.rl]; exact hj)).sl) C8.c0
   have C9 := C8.grown hg9 hnv
   have P9 : zxd.Pos (.slice x1 x2 x3) (rs ++ [.slice r1 r2 r3]) (zua n) (zua n) (List.replicate (i + 1) (zua n)) := zch hn1 (fun h => by simp at h)
   have h9 := L8.push hrow n1 n2 n3 ho9 hg9 hn9
   rw [← List.replicate_succ'] at h9
   have HL10 := zH (h9.1.over P9 C9.c0 (p := ⟨b4, 2, none⟩) rfl C9.c2 (fun z => by simp) (.slice x1 x2 x3))
   have HC10 := zH (C9.set2 (.slice x1 x2 x3))
   have HB10 := zH ((hb48.trans h9.2).setCell (p := ⟨b4, 2, none⟩) HB4.out (.slice x1 x2 x3))
   have hc92 := C9.c2
   have hf92 := C9.f2
   refine hK.out _ _ (fun h => hc92) ?_
   clear hK K h9 P9 C9 C8 L8 hnv hrow n1 n2 n3 ho9 hg9 hn9 hb48
   try simp only [Act.put, List.setIfInBounds_toArray, List.set_cons_zero, List.set_cons_succ]
   (refine wpL.one 6 (by kernel_rfl) (by kernel_rfl) ?_; intro oi hoi K hK; simp only [List.getElem?_toArray, List.getElem?_cons_succ, List.getElem?_cons_zero, Option.some.injEq] at hoi; subst hoi)
   rw [if_pos (by rfl)]
   go_simp
   refine hK.out _ _ (fun h => hc92) ?_
   clear hK K
   try simp only [Act.put, List.setIfInBounds_toArray, List.set_cons_zero, List.set_cons_succ]
   (refine wpL.one 7 (by kernel_rfl) (by kernel_rfl) ?_; intro oi hoi K hK; simp only [List.getElem?_toArray, List.getElem?_cons_succ, List.getElem?_cons_zero, Option.some.injEq] at hoi; subst hoi)
   rw [if_pos (by rfl)]
   go_simp
   refine hK.out _ _ (fun h => by first | cases h | simp at h) ?_
   clear hK K hc92 hf92
   refine wpL.done (by kernel_rfl) ?_ _
   go_wp2_with fail
   go_roundg (n - (i + 1))
   case measure => (have := HG.out; omega)
   case rel => exact ⟨i + 1, _, _, by omega, rfl, by go_num, HL10.out, fun h => by simp at h, HC10.out, HB10.out⟩
  ·obtain rfl : i = n := by omega
   have HT2 := zH (HT.out.belowS hbr)
   obtain ⟨hlt4, c0, c1, c2, c3, f0, f1, f2, f3⟩ := hc
   obtain ⟨tlt4, d0, d1, d2, d3, g0, g1, g2, g3⟩ := HT2.out
   obtain ⟨y1, y2, y3, rfl, _⟩ := id HL.out.ra.sl
   have P9 : zxd.Pos (.slice y1 y2 y3) rs (zua i) (zua i) (List.replicate i (zua i)) := zch hn1 HNV.out
   have HL9 := zH ((HL.out.set4 P9 HT2.out (fun z => by simp) (fun z => by simp) (fun z => by simp) { data := #[] } (.slice s1 s2 s3) (.slice y1 y2 y3) (.slice e1 e2 e3)).mono HBW.out.size)
   have HB9 := zH (zic (zaa HBW.out hbr) (Nat.le_refl _) (.string { data := #[] }) (.slice s1 s2 s3) (.slice y1 y2 y3) (.slice e1 e2 e3))
   clear hbr P9
   go_wp2_with fail
   refine zml rfl rfl Tryz.aggL Tryz.sizeL (HT2.out.set _ _ _ _) rfl ?_
   exact ⟨_, _, _, _, rfl, HL9.out, HB9.out⟩
end Go.Proofs.YtlpdkbmmbdfoiaaGreat
