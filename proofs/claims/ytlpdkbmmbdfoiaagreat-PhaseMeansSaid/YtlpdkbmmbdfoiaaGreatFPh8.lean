/-
  package phase: blank.
-/
import Derived.Test.YtlpdkbmmbdfoiaaGreatFPh7
import Derived.Test.YtlpdkbmmbdfoiaaGreatFTa6
import Derived.Test.YtlpdkbmmbdfoiaaGreatFOr2
set_option linter.unusedVariables false
set_option linter.unusedSimpArgs false
namespace Go.Proofs.YtlpdkbmmbdfoiaaGreat
open Go.RowKit
def zeb (n : Nat) : List Rat := List.replicate n 0
theorem zwa (n : Nat) : (zeb n).length = n := by simp [zeb]
theorem zij (b n : Nat) (w : World) (hc : w.cell? ⟨b, 0, none⟩ = some (.int .i64 (n : Nat))) (hn1 : 1 ≤ n) (hn : n ≤ 4) :
 Calls Tryz.prog 164 #[.pointer (some ⟨b, 0, none⟩)] w (fun e w' => ∃ v, e = .returned v ∧ zya w' 38 w.heap.size v (zeb n) ∧ Below w.heap.size w w') :=
 (blank1_any b n w hc hn1 hn).mono fun e w' ⟨v, h1, h2, h3, h4⟩ => ⟨v, h1, h2.frRow (zwa n) (fun j hj => by
  have e : (zeb n)[j] = 0 := by simp [zeb]
  rw [e]
  exact h3 j (by rw [zwa] at hj; exact hj)), h4⟩
theorem zpn {P : Program} {w : World} {b : Nat} {v0 v1 v2 v3 : Value} {ty : TypeId} (hagg : ∀ w, (isAgg ty).run P w = .ok true w) (hs : ∀ w, (sizeOf ty).run P w = .ok 4 w) (h : C4 w b v0 v1 v2 v3) :
 (loadVar ty ⟨b, 0, none⟩).run P w = .ok (.agg #[v0, v1, v2, v3]) w := by
 obtain ⟨lt, c0, c1, c2, c3, f0, f1, f2, f3⟩ := h
 simp only [loadVar, Sem.run_bind, hagg, hs, Result.andThen_ok]
 go_simp
theorem zvl {P : Program} {fn : Func} {R : Ending → World → Prop} {a : Act} {w : World} {p : Tmp} {ty : TypeId} {b : Nat} {v0 v1 v2 v3 : Value} (h : fn.results = #[.cell p ty])
 (hp : a.tmps.getD p undef = .pointer (some ⟨b, 0, none⟩)) (hagg : ∀ w, (isAgg ty).run P w = .ok true w) (hs : ∀ w, (sizeOf ty).run P w = .ok 4 w) (hc : C4 w b v0 v1 v2 v3) (hd : a.defers = [])
 (hR : R (.returned (.agg #[v0, v1, v2, v3])) w) : bodyPost P fn R .ret a w := by
 refine bodyPost_ret ?_ hd hR
 rw [zmj h, hp]
 simp only [asAddr, Sem.run_pure, Result.andThen_ok, zpn hagg hs hc]
theorem zzd {P : Program} {fn : Func} {R : Ending → World → Prop} {a : Act} {w : World} {p u : Tmp} {ty : TypeId} {b : Nat} {v0 v1 v2 v3 : Value} (h : fn.results = #[.cell p ty, .tmp u])
 (hp : a.tmps.getD p undef = .pointer (some ⟨b, 0, none⟩)) (hagg : ∀ w, (isAgg ty).run P w = .ok true w) (hs : ∀ w, (sizeOf ty).run P w = .ok 4 w) (hc : C4 w b v0 v1 v2 v3) (hd : a.defers = [])
 (hR : R (.returned (.tuple #[.agg #[v0, v1, v2, v3], a.tmps.getD u undef])) w) : bodyPost P fn R .ret a w := by
 refine bodyPost_ret ?_ hd hR
 rw [results_cell_tmp h, hp]
 simp only [asAddr, Sem.run_pure, Result.andThen_ok, zpn hagg hs hc]
theorem Tryz.aggL (w : World) : (isAgg 52).run Tryz.prog w = .ok true w := by go_simp
theorem Tryz.sizeL (w : World) : (sizeOf 52).run Tryz.prog w = .ok 4 w := by go_simp
theorem step_app_row {P : Program} (t e : TypeId) (i : TypeInfo) (ht : P.underlying t = some (.slice e)) (hi : P.info? e = some i) (hz : i.zero = some (.slice none 0 0)) (hsize : i.size = 1) (hby : i.bytes = 24)
 {ops : Array Oper} {o : Oper} {a : Act} {w : World} {K : Act → World → Prop} {Q : Exit → Act → World → Prop} {E : Prop} (hgd : o.guard = none) (s x : Operand)
 (ho : o.op = .call { callee := .builtin .append, args := #[s, x], argTypes := #[t, t] }) (B : Nat) (v : Value) (xs : List Value) (hs : a.eval s = v) (hown : zlc w e B 1 v xs.length xs) (y : Value) (hy : zgc y) (g : Nat) (hxe : a.eval x = .slice (some ⟨g, 0, none⟩) 1 1)
 (hc : w.cell? ⟨g, 0, none⟩ = some y) (hn : xs.length ≤ 1000) (hbase : B ≤ w.heap.size)
 (h : ∀ v' w', zlc w' e B 1 v' (xs ++ [y]).length (xs ++ [y]) → w.grownBy w' v.ownBlock → zlb w v → zgc v' → K (a.put o.dst v') w') :
 if Region.wanted o (yielded ops a.tmps) = true then Oper.wp P o a w K Q else E := by
 rw [if_pos (by simp [Region.wanted, hgd])]
 obtain ⟨y1, y2, y3, rfl, _⟩ := hy
 obtain ⟨v', w', hr, k2, k3, k4, k5⟩ := zwd (P := P) w B t o.type e i _ 1 24 ht hi hz hsize hby rfl (by decide) v xs.length xs hown.own ⟨g, 0, none⟩ 1 1 [Value.slice y1 y2 y3] rfl
  (fun j u hu => by
   have hj := (List.getElem?_eq_some_iff.1 hu).1
   have : j = 0 := by simp at hj; omega
   subst this
   simp at hu; subst hu; rw [Addr.add_lit, Nat.zero_add]; exact hc) (fun u hu => by simp at hu; subst hu; rfl) (by simp [maxLen]; omega) (by omega) hbase hown.nl (fun u hu z => by simp at hu; subst hu; simp) (fun c hc z => by
   have hc2 : c ∈ [Value.slice none 0 0] := hc
   simp at hc2; subst hc2; simp)
 unfold Oper.wp execOp
 simp only [ho, resolve, invoke, builtin, Sem.run_bind, Sem.run_pure, Result.andThen_ok, List.map_toArray, List.map_cons, List.map_nil, hs, hxe, hr]
 have hw : zlc w' e B 1 v' (xs ++ [Value.slice y1 y2 y3]).length (xs ++ [Value.slice y1 y2 y3]) := by
  rw [List.length_append]
  exact ⟨k2, k5⟩
 exact h v' w' hw k3 hown.nl hw.sl
theorem zeros_pos {vr : Value} {rs : List Value} {n i : Nat} (hn : 1 ≤ n) (hv : rs = [] → vr.ownBlock = none) : zve.Pos vr rs (zeb n) (zeb n) (List.replicate i (zeb n)) :=
 ⟨by rw [zwa]; exact hn, by rw [zwa]; exact hn, fun j h => by rw [List.getElem_replicate, zwa]; exact hn, hv⟩
set_option maxRecDepth 100000 in
set_option maxHeartbeats 3200000 in
theorem blank_any (n : Nat) (w : World) (hn1 : 1 ≤ n) (hn : n ≤ 4) :
 Calls Tryz.prog 87 #[.int .i64 (n : Nat)] w (fun e w' => ∃ vs ve vr rs, e = .returned (.agg #[.string { data := #[] }, vs, vr, ve]) ∧ zve w' w.heap.size vs ve vr rs (zeb n) (zeb n) (List.replicate n (zeb n)) ∧ Below w.heap.size w w') := by
 obtain ⟨i4, hi4, hz4, hs4, hy4⟩ := info_parts Tryz.infoRow
 have hAR := fun {ops : Array Oper} {o : Oper} {a : Act} {w : World} {K : Act → World → Prop} {Q : Exit → Act → World → Prop} {E : Prop} => step_app_row (P := Tryz.prog) 24 25 i4 Tryz.underlying24 hi4 hz4 hs4 hy4 (ops := ops) (o := o) (a := a) (w := w) (K := K) (Q := Q) (E := E)
 clear hi4 hz4 hs4 hy4
 have hN : ((w.alloc (.cells #[.int .i64 (n : Nat)] 3)).alloc (.cells #[.string { data := #[] }, .slice none 0 0, .slice none 0 0, .slice none 0 0] 52)).cell? ⟨w.heap.size, 0, none⟩ = some (.int .i64 (n : Nat)) := by go_simp
 have hT := C4.new (w.alloc (.cells #[.int .i64 (n : Nat)] 3)) 52 (.string { data := #[] }) (.slice none 0 0) (.slice none 0 0) (.slice none 0 0)
 have hbw := zaa (zca w (.cells #[.int .i64 (n : Nat)] 3)) (zca (w.alloc (.cells #[.int .i64 (n : Nat)] 3)) (.cells #[.string { data := #[] }, .slice none 0 0, .slice none 0 0, .slice none 0 0] 52))
 go_enter Tryz.func87, Tryz.ntmps87
 go_upto_region 2 with fail
 have htb : (w.alloc (.cells #[.int .i64 (n : Nat)] 3)).heap.size = w.heap.size + 1 := by show (w.heap.push _).size = _; rw [Array.size_push]
 rw [htb] at hT
 generalize hW : (w.alloc (.cells #[.int .i64 (n : Nat)] 3)).alloc (.cells #[.string { data := #[] }, .slice none 0 0, .slice none 0 0, .slice none 0 0] 52) = W2 at *
 have HN := zH hN
 have HT := zH hT
 have HBW := zH hbw
 clear hN hT hbw htb hW
 have tok1 : True := trivial
 go_wp2_with (first
  |(go_at_call 164; have _t := tok1; (with_reducible refine (zij _ n _ HN.out hn1 hn).mono ?_); rintro e5 w5 ⟨v5, rfl, hv5, hb5⟩
    obtain ⟨s1, s2, s3, rfl, _⟩ := id hv5.sl
    have HV5 := zH hv5
    have HB5 := zH hb5
    have HN5 := zH (zba hb5 HN.out)
    clear hv5 hb5 tok1 _t)
  |(go_at_call 164
    (with_reducible refine (zij _ n _ HN5.out hn1 hn).mono ?_); rintro e6 w6 ⟨v6, rfl, hv6, hb6⟩
    obtain ⟨e1, e2, e3, rfl, _⟩ := id hv6.sl
    have hba := zca w6 (.cells #[.string { data := #[] }, .slice s1 s2 s3, .slice none 0 0, .slice e1 e2 e3] 52)
    have HB6 := zH (zaa (zaa HB5.out hb6) hba)
    have HC6 := zH (C4.new w6 52 (.string { data := #[] }) (.slice s1 s2 s3) (.slice none 0 0) (.slice e1 e2 e3))
    obtain ⟨g5, k1, _, k3, k4, _⟩ := HV5.out.blk (by rw [zwa]; exact hn1)
    obtain ⟨g6, m1, _, m3, m4, _⟩ := hv6.blk (by rw [zwa]; exact hn1)
    have HW6 : Hid (zve w6 W2.heap.size (.slice s1 s2 s3) (.slice e1 e2 e3) (.slice none 0 0) [] (zeb n) (zeb n) []) := zH ⟨HV5.out.moves (zhb.below (B := W2.heap.size) hb6) (Nat.le_refl _), hv6.mono HB5.out.size, zlc.nil _ _ _ _, rfl, fun j h => (by cases h), (by rw [k1, m1]; intro e; injection e with e; omega), fun j h => (by cases h), fun i j h => (by cases h), Nat.le_trans HB5.out.size hb6.size⟩
    have HL6 := zH (HW6.out.below hba)
    have HSZ : Hid (W2.heap.size ≤ w6.heap.size) := zH (Nat.le_trans HB5.out.size hb6.size)
    clear hv6 hb6 hba k1 k3 k4 m1 m3 m4 HV5 HB5 HN5 HW6))
 obtain ⟨b4, hb4⟩ : ∃ b, w6.heap.size = b := ⟨_, rfl⟩
 rw [hb4] at HC6 ⊢
 have HB4 : Hid (W2.heap.size ≤ b4) := zH (by rw [← hb4]; exact HSZ.out)
 clear hb4
 go_loopg [5] (n) (fun g u5 wr => ∃ (i : Nat) (vr : Value) (rs : List Value), i ≤ n ∧ g = n - i ∧ u5 = .int .i64 i ∧ zve wr W2.heap.size (.slice s1 s2 s3) (.slice e1 e2 e3) vr rs (zeb n) (zeb n) (List.replicate i (zeb n)) ∧ (rs = [] → vr.ownBlock = none) ∧ C4 wr b4 (.string { data := #[] }) (.slice s1 s2 s3) vr (.slice e1 e2 e3) ∧ Below W2.heap.size W2 wr)
 case atStart => exact ⟨0, _, _, Nat.zero_le _, rfl, rfl, HL6.out, fun _ => rfl, HC6.out, HB6.out⟩
 case round =>
  obtain ⟨i, vr, rs, hin, hg, rfl, hl, hnv, hc, hbr⟩ := hrel
  obtain ⟨wx, hwx⟩ : ∃ w6, w6 = wr := ⟨_, rfl⟩
  subst hwx
  have HG := zH hg
  have HL := zH hl
  have HNV := zH hnv
  have HC := zH hc
  have HBR := zH hbr
  have hN := zba hbr HN.out
  clear hg hl hnv HL6 HC6 HB6
  by_cases hil : i < n
  ·have i1 : (0 : Int) ≤ (i : Int) := by omega
   have i2 : (i : Int) < (n : Nat) := by omega
   go_wp2_with fail
   obtain ⟨hlt4, c0, c1, c2, c3, f0, f1, f2, f3⟩ := hc
   obtain ⟨y1, y2, y3, rfl, _⟩ := id HL.out.ra.sl
   have hbD := zja (B := wx.heap.size) wx
   have HND := zH (zba hbD hN)
   have HLD := zH (HL.out.below hbD)
   have HCD := zH (HC.out.belowS hbD)
   have HBD := zH (zfa HBR.out hbD HBR.out.size)
   clear hN hbr
   refine wpL.start 7 (fun w' => w'.cell? ⟨b4, 2, none⟩ = some (.slice y1 y2 y3)) (by kernel_rfl) (zba hbD c2) (fun hHeld => ?_)
   clear c0 c1 c2 c3 f0 f1 f2 f3 hbD
   generalize wx.drew = wd at *
   refine wpL.u 0 ?_
   refine wpL.u 2 ?_
   refine wpL.t 1 ?_
   (refine wpL.oo 3 ?_; intro K hK)
   refine zxa 164 #[.pointer (some ⟨w.heap.size, 0, none⟩)] ?_ ?_ (zij _ n wd HND.out hn1 hn) ?_
   ·rfl
   ·go_simp
   rintro e7 w7 ⟨v7, rfl, hv7, hb7⟩
   obtain ⟨r1, r2, r3, rfl, _⟩ := id hv7.sl
   refine ⟨_, rfl, ?_⟩
   refine hK.out _ _ (fun _ => zba hb7 hHeld) ?_
   have h7 := zba hb7 hHeld
   clear hK K hHeld
   try simp only [Act.put, List.setIfInBounds_toArray, List.set_cons_zero, List.set_cons_succ]
   (refine wpL.oo 4 ?_; intro K hK)
   rw [if_pos (by rfl)]
   go_simp
   have hb8 := zca w7 (.cells #[.slice r1 r2 r3] 25)
   refine hK.out _ _ (fun _ => zba hb8 h7) ?_
   clear hK K
   try simp only [Act.put, List.setIfInBounds_toArray, List.set_cons_zero, List.set_cons_succ]
   have hle := HBD.out.size
   have hrow := (hv7.mono hle).moves (zhb.below (B := W2.heap.size) hb8) (Nat.le_refl _)
   have L8 := (HLD.out.below hb7).below hb8
   have hzl : 0 < (zeb n).length := by rw [zwa]; exact hn1
   have n1 := own_ne HLD.out.s hv7 hzl
   have n2 := own_ne HLD.out.e hv7 hzl
   have n3 : ∀ (j : Nat) (h : j < rs.length), rs[j].ownBlock ≠ (Value.slice r1 r2 r3).ownBlock := fun j h => (own_ne (HLD.out.rows j h (by rw [← HLD.out.rl]; exact h)) hv7 hzl).symm
   have hrl : rs.length ≤ 1000 := by have h := HLD.out.rl; rw [List.length_replicate] at h; omega
   have C8 := (HCD.out.belowS hb7).belowS hb8
   have hb48 := zfa (zfa HBD.out hb7 HBD.out.size) hb8 (Nat.le_trans HBD.out.size hb7.size)
   have hc8 : (w7.alloc (.cells #[.slice r1 r2 r3] 25)).cell? ⟨w7.heap.size, 0, none⟩ = some (.slice r1 r2 r3) := by go_simp
   have hsz8 := hb48.size
   have hslr := hv7.sl
   generalize w7.alloc (.cells #[.slice r1 r2 r3] 25) = w8 at *
   generalize w7.heap.size = g7 at *
   clear hv7 hb7 hb8 h7 HLD HCD hle
   (refine wpL.oo 5 ?_; intro K hK)
   refine hAR rfl _ _ (by rfl) W2.heap.size (.slice y1 y2 y3) rs (by rfl) L8.ra (.slice r1 r2 r3) hslr g7 (by rfl) hc8 hrl hsz8 ?_
   intro v9 w9 ho9 hg9 hn9 hs9
   obtain ⟨x1, x2, x3, rfl, _⟩ := id hs9
   have hnv : (Value.slice y1 y2 y3).ownBlock ≠ some b4 := by
    rcases Nat.eq_zero_or_pos rs.length with h0 | h0
    ·rw [HNV.out (List.length_eq_zero_iff.1 h0)]; intro e; cases e
    ·exact L8.ra.neB h0 (fun j hj => (L8.rows j hj (by rw [← L8.rl]; exact hj)).sl) C8.c0
   have C9 := C8.grown hg9 hnv
   have P9 : zve.Pos (.slice x1 x2 x3) (rs ++ [.slice r1 r2 r3]) (zeb n) (zeb n) (List.replicate (i + 1) (zeb n)) := zeros_pos hn1 (fun h => by simp at h)
   have h9 := L8.push hrow n1 n2 n3 ho9 hg9 hn9
   rw [← List.replicate_succ'] at h9
   have HL10 := zH (h9.1.over P9 C9.c0 (p := ⟨b4, 2, none⟩) rfl C9.c2 (fun z => by simp) (.slice x1 x2 x3))
   have HC10 := zH (C9.set2 (.slice x1 x2 x3))
   have HB10 := zH ((hb48.trans h9.2).setCell (p := ⟨b4, 2, none⟩) HB4.out (.slice x1 x2 x3))
   have hc92 := C9.c2
   have hf92 := C9.f2
   refine hK.out _ _ (fun h => hc92) ?_
   clear hK K h9 P9 C9 C8 L8 hnv hrow n1 n2 n3 ho9 hg9 hn9 hb48
   try simp only [Act.put, List.setIfInBounds_toArray, List.set_cons_zero, List.set_cons_succ]
   (refine wpL.oo 6 ?_; intro K hK)
   rw [if_pos (by rfl)]
   go_simp
   refine hK.out _ _ (fun h => hc92) ?_
   clear hK K
   try simp only [Act.put, List.setIfInBounds_toArray, List.set_cons_zero, List.set_cons_succ]
   (refine wpL.oo 7 ?_; intro K hK)
   rw [if_pos (by rfl)]
   go_simp
   refine hK.out _ _ (fun h => by first | cases h | simp at h) ?_
   clear hK K hc92 hf92
   refine wpL.done (by kernel_rfl) ?_ _
   go_wp2_with fail
   go_roundg (n - (i + 1))
   case measure => (have := HG.out; omega)
   case rel => exact ⟨i + 1, _, _, by omega, rfl, by go_num, HL10.out, fun h => by simp at h, HC10.out, HB10.out⟩
  ·obtain rfl : i = n := by omega
   have HT2 := zH (HT.out.belowS hbr)
   obtain ⟨hlt4, c0, c1, c2, c3, f0, f1, f2, f3⟩ := hc
   obtain ⟨tlt4, d0, d1, d2, d3, g0, g1, g2, g3⟩ := HT2.out
   obtain ⟨y1, y2, y3, rfl, _⟩ := id HL.out.ra.sl
   have P9 : zve.Pos (.slice y1 y2 y3) rs (zeb i) (zeb i) (List.replicate i (zeb i)) := zeros_pos hn1 HNV.out
   have HL9 := zH ((HL.out.set4 P9 HT2.out (fun z => by simp) (fun z => by simp) (fun z => by simp) { data := #[] } (.slice s1 s2 s3) (.slice y1 y2 y3) (.slice e1 e2 e3)).mono HBW.out.size)
   have HB9 := zH (zqd (zaa HBW.out hbr) (Nat.le_succ _) (.string { data := #[] }) (.slice s1 s2 s3) (.slice y1 y2 y3) (.slice e1 e2 e3))
   clear hbr P9
   go_wp2_with fail
   refine zvl rfl rfl Tryz.aggL Tryz.sizeL (HT2.out.set _ _ _ _) rfl ?_
   exact ⟨_, _, _, _, rfl, HL9.out, HB9.out⟩
end Go.Proofs.YtlpdkbmmbdfoiaaGreat
