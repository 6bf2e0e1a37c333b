/-
  Determinants of matrices of rational numbers, by expansion along the first column. No program is named here.
-/
import Derived.Test.YtlpdkbmmbdfoiaaGreatFTa6
import Derived.Test.YtlpdkbmmbdfoiaaGreatFLi4
import Derived.Test.YtlpdkbmmbdfoiaaGreatFPh8
import Derived.Test.YtlpdkbmmbdfoiaaGreatFKeep
import Derived.Test.YtlpdkbmmbdfoiaaGreatFPk0
set_option linter.unusedVariables false
set_option linter.unusedSimpArgs false
namespace Go.Proofs.YtlpdkbmmbdfoiaaGreat
open Go.RowKit
theorem zbb.cells {w : World} {x : Value} {q : List Rat} (h : zbb w x q) : ∃ xs : List Value, xs.length = q.length * 3 ∧ (∀ j u, xs[j]? = some u → w.cell? (ptr x j) = some u) ∧ zwe w xs q ∧ (∀ u ∈ xs, u.oneCell' = true) ∧ ∀ u ∈ xs, ∀ z, u ≠ .int .u32 z := by
 have hex : ∀ j, j < q.length * 3 → ∃ u, w.cell? (ptr x j) = some u ∧ u.oneCell' = true ∧ ∀ z, u ≠ .int .u32 z := fun j hj => by
  obtain ⟨a, b, h1, h2, h3, h4, h5⟩ := h.at' (j / 3) (by omega)
  obtain ⟨a1, a2, a3, rfl, _⟩ := h4.v.sl
  obtain ⟨b1, b2, b3, rfl, _⟩ := h5.v.sl
  rcases (show j = j / 3 * 3 ∨ j = j / 3 * 3 + 1 ∨ j = j / 3 * 3 + 2 by omega) with e | e | e
  ·rw [e]; exact ⟨_, h1, rfl, fun z => by simp⟩
  ·rw [e]; exact ⟨_, h2, rfl, fun z => by simp⟩
  ·rw [e]; exact ⟨_, h3, rfl, fun z => by simp⟩
 refine ⟨(List.range (q.length * 3)).map (fun j => (w.cell? (ptr x j)).getD undef), by simp, fun j u hu => ?_, fun j hj => ?_, fun u hu => ?_, fun u hu => ?_⟩
 ·rw [List.getElem?_map] at hu
  by_cases hj : j < q.length * 3
  ·rw [List.getElem?_range hj] at hu
   obtain ⟨u', h1, _⟩ := hex j hj
   simp [h1] at hu
   rw [h1, hu]
  ·rw [List.getElem?_eq_none (by simp; omega)] at hu; simp at hu
 ·obtain ⟨a, b, h1, h2, h3, h4, h5⟩ := h.at' j hj
  refine ⟨a, b, ?_, ?_, ?_, h4, h5⟩
  ·rw [List.getElem?_map, List.getElem?_range (by omega)]; simp [h1]
  ·rw [List.getElem?_map, List.getElem?_range (by omega)]; simp [h2]
  ·rw [List.getElem?_map, List.getElem?_range (by omega)]; simp [h3]
 ·obtain ⟨j, hj, rfl⟩ := List.mem_map.1 hu
  obtain ⟨u', h1, h2, h3⟩ := hex j (List.mem_range.1 hj)
  rw [h1]; exact h2
 ·obtain ⟨j, hj, rfl⟩ := List.mem_map.1 hu
  obtain ⟨u', h1, h2, h3⟩ := hex j (List.mem_range.1 hj)
  rw [h1]; exact h3
theorem zwe.app {w : World} {xs ys : List Value} {p q : List Rat} (h : zwe w xs p) (hl : xs.length = p.length * 3) (h2 : zwe w ys q) : zwe w (xs ++ ys) (p ++ q) := by
 intro j hj
 rcases Nat.lt_or_ge j p.length with h3 | h3
 ·obtain ⟨a, b, e1, e2, e3, e4, e5⟩ := h j h3
  rw [List.getElem_append_left h3]
  exact ⟨a, b, by rw [List.getElem?_append_left (by omega)]; exact e1, by rw [List.getElem?_append_left (by omega)]; exact e2, by rw [List.getElem?_append_left (by omega)]; exact e3, e4, e5⟩
 ·have hj2 : j - p.length < q.length := by rw [List.length_append] at hj; omega
  obtain ⟨a, b, e1, e2, e3, e4, e5⟩ := h2 (j - p.length) hj2
  rw [List.getElem_append_right h3]
  refine ⟨a, b, ?_, ?_, ?_, e4, e5⟩
  ·rw [List.getElem?_append_right (by omega), show j * 3 - xs.length = (j - p.length) * 3 by omega]; exact e1
  ·rw [List.getElem?_append_right (by omega), show j * 3 + 1 - xs.length = (j - p.length) * 3 + 1 by omega]; exact e2
  ·rw [List.getElem?_append_right (by omega), show j * 3 + 2 - xs.length = (j - p.length) * 3 + 2 by omega]; exact e3
theorem append_fr {P : Program} (t e : TypeId) (i : TypeInfo) (ht : P.underlying t = some (.slice e)) (hi : P.info? e = some i) (hz : i.zero = some (.agg #[.bool false, .slice none 0 0, .slice none 0 0])) (hsize : i.size = 3) (hby : i.bytes = 56)
 (w : World) {ops : Array Oper} {rest : List Oper} {o : Oper} {a : Act} {Q : Exit → Act → World → Prop} (hgd : o.guard = none) (s x : Operand)
 (ho : o.op = .call { callee := .builtin .append, args := #[s, x], argTypes := #[t, t] }) (B : Nat)
 (v : Value) (q : List Rat) (hs : a.eval s = v) (hown : zya w e B v q) (ad : Addr) (m c : Nat) (p : List Rat) (hxe : a.eval x = .slice (some ad) m c) (hf : zbb w (.slice (some ad) m c) p) (hn : q.length + p.length ≤ 1000) (hbase : B ≤ w.heap.size)
 (h : ∀ v' w', zya w' e B v' (q ++ p) → w.grownBy w' v.ownBlock → zlb w v → (v'.ownBlock = v.ownBlock ∨ v'.ownBlock = some w.heap.size) → zgc v' → wpList P ops Q rest (a.put o.dst v') w') :
 wpList P ops Q (o :: rest) a w := by
 obtain ⟨xs, h1, h2⟩ := hown
 obtain ⟨news, n1, n2, n3, n4, n5⟩ := hf.cells
 have hm : m = p.length := hf.len
 refine wpList_plain hgd fun K hK => ?_
 obtain ⟨v', w', hr, k1, k2, k3, k4⟩ := zwd (P := P) w B t o.type e i _ 3 56 ht hi hz hsize hby rfl (by decide) v q.length xs h1.own ad m c news (by rw [n1, hm])
  (fun j u hu => by have := n2 j u hu; simpa only [ptr, base] using this) n4 (by simp [maxLen]; omega) (by omega) hbase h1.nl n5 (fun c hc z => by
   have hc2 : c ∈ [Value.bool false, .slice none 0 0, .slice none 0 0] := hc
   simp at hc2; rcases hc2 with rfl | rfl <;> simp)
 unfold Oper.wp execOp
 simp only [ho, resolve, invoke, builtin, Sem.run_bind, Sem.run_pure, Result.andThen_ok, List.map_toArray, List.map_cons, List.map_nil, hs, hxe, hr]
 have hR : zlc w' e B 3 v' (q.length + m) (xs ++ news) := ⟨k1, k4⟩
 refine hK _ _ (h v' w' ⟨xs ++ news, by rw [List.length_append, ← hm]; exact hR, ?_⟩ k2 h1.nl k3 hR.sl)
 exact (h2.app h1.clen n3).grown k2 h1.nl
theorem znd.push {w w' : World} {T n m wd rk : Nat} {vR v' r : Value} {rs : List Value} {A : Mx} {d : Rat} (h : znd w T vR rs n m A wd rk d) (hr : zya w 38 (T + 1) r (zib m (A n)))
 (hap : ∀ i (hi : i < rs.length), rs[i].ownBlock ≠ r.ownBlock) (hv : zlc w' 25 (T + 1) 1 v' (rs ++ [r]).length (rs ++ [r])) (hg : w.grownBy w' vR.ownBlock) :
 znd (w'.setCell ⟨T, 0, none⟩ v') T v' (rs ++ [r]) (n + 1) m A wd rk d ∧ Below T w (w'.setCell ⟨T, 0, none⟩ v') := by
 have hT := h.lt
 obtain ⟨⟨a, b, h1, h2, h3⟩, own, rl, mp, row, ap⟩ := h
 have hnT : vR.ownBlock ≠ some T := fun e => by have := (own.block T e).1; omega
 have b1 := h1.grown hg hnT
 have mm := zhb.set (B := T + 1) (p := ⟨T, 0, none⟩) (Nat.lt_succ_self T) (b1.cell 0 rfl) (fun z e => by obtain ⟨a1, a2, a3, e1, _⟩ := own.sl; rw [e1] at e; cases e) v'
 have hbel : Below T w w' := zna hg (by omega) (fun k hk => by have := (own.block k hk).1; omega)
 refine ⟨⟨⟨a, b, b1.set 0 v', (h2.grown hg own.nl).moves mm, (h3.grown hg own.nl).moves mm⟩, hv.moves mm (Nat.le_refl _), by simp [rl], mp, fun i hi => ?_, fun i j hi hj hij => ?_⟩, hbel.setCell (p := ⟨T, 0, none⟩) (Nat.le_refl _) _⟩
 ·rcases Nat.lt_or_ge i rs.length with hk | hk
  ·rw [List.getElem_append_left hk]
   obtain ⟨ys, y1, y2⟩ := id (row i hk)
   exact ((row i hk).grown hg own.nl (y1.kinds own (by decide))).moves mm (Nat.le_refl _)
  ·obtain rfl : i = rs.length := by simp at hi; omega
   have e1 : (rs ++ [r])[rs.length]'hi = r := by simp
   rw [e1, rl]
   obtain ⟨ys, y1, y2⟩ := id hr
   exact (hr.grown hg own.nl (y1.kinds own (by decide))).moves mm (Nat.le_refl _)
 ·rcases Nat.lt_or_ge i rs.length with hk | hk <;> rcases Nat.lt_or_ge j rs.length with hl | hl
  ·rw [List.getElem_append_left hk, List.getElem_append_left hl]; exact ap i j hk hl hij
  ·obtain rfl : j = rs.length := by simp at hj; omega
   have e1 : (rs ++ [r])[rs.length]'hj = r := by simp
   rw [List.getElem_append_left hk, e1]; exact hap i hk
  ·obtain rfl : i = rs.length := by simp at hi; omega
   have e1 : (rs ++ [r])[rs.length]'hi = r := by simp
   rw [List.getElem_append_left hl, e1]; exact fun e => hap j hl e.symm
  ·simp at hi hj; omega
theorem step_app_spr {P : Program} (t e : TypeId) (i : TypeInfo) (ht : P.underlying t = some (.slice e)) (hi : P.info? e = some i) (hz : i.zero = some (.agg #[.bool false, .slice none 0 0, .slice none 0 0])) (hsize : i.size = 3) (hby : i.bytes = 56)
 {ops : Array Oper} {o : Oper} {a : Act} {w : World} {K : Act → World → Prop} {Q : Exit → Act → World → Prop} {E : Prop} (hgd : o.guard = none) (s x : Operand)
 (ho : o.op = .call { callee := .builtin .append, args := #[s, x], argTypes := #[t, t] }) (hs : a.eval s = .slice none 0 0) (ad : Addr) (m c : Nat) (p : List Rat) (hxe : a.eval x = .slice (some ad) m c) (hf : zbb w (.slice (some ad) m c) p)
 (hn : p.length ≤ 1000)
 (h : ∀ v' w', zya w' e w.heap.size v' p → Below w.heap.size w w' → zgc v' → K (a.put o.dst v') w') :
 if Region.wanted o (yielded ops a.tmps) = true then Oper.wp P o a w K Q else E := by
 obtain ⟨news, n1, n2, n3, n4, n5⟩ := hf.cells
 have hm : m = p.length := hf.len
 rw [if_pos (by simp [Region.wanted, hgd])]
 obtain ⟨v', w', hr, k1, k2, k3, k4⟩ := zwd (P := P) w w.heap.size t o.type e i _ 3 56 ht hi hz hsize hby rfl (by decide) (.slice none 0 0) 0 [] (World.ownsRow_nil w _ e 3) ad m c news (by rw [n1, hm])
  (fun j u hu => by have := n2 j u hu; simpa only [ptr, base] using this) n4 (by simp [maxLen]; omega) (by omega) (Nat.le_refl _) (zlb.nil _) n5 (fun c hc z => by
   have hc2 : c ∈ [Value.bool false, .slice none 0 0, .slice none 0 0] := hc
   simp at hc2; rcases hc2 with rfl | rfl <;> simp)
 unfold Oper.wp execOp
 simp only [ho, resolve, invoke, builtin, Sem.run_bind, Sem.run_pure, Result.andThen_ok, List.map_toArray, List.map_cons, List.map_nil, hs, hxe, hr]
 have hR : zlc w' e w.heap.size 3 v' (0 + m) ([] ++ news) := ⟨k1, k4⟩
 rw [Nat.zero_add, List.nil_append, hm] at hR
 have hb : Below w.heap.size w w' := zna k2 (Nat.le_refl _) (fun k hk => by cases hk)
 exact h v' w' ⟨news, hR, n3.grown (u := .slice none 0 0) k2 (zlb.nil _)⟩ hb hR.sl
theorem zjf.newB {b : Nat} (w : World) (cs : Array Value) (ty : TypeId) (hb : w.heap.size = b) : zjf (w.alloc (.cells cs ty)) b cs := by subst hb; exact zjf.new w cs ty
theorem zya.belowS {w w' : World} {e : TypeId} {B : Nat} {v : Value} {q : List Rat} (h : zya w e B v q) (hb : Below w.heap.size w w') : zya w' e B v q := h.moves (zhb.below (B := B) hb) (Nat.le_refl _)
theorem zxb.rlen {l : LQ} (h : zxb l) {i : Nat} (hi : i < l.start.length) : i < l.rates.length := by rw [h.rl]; exact hi
def zxf (l : LQ) (i : Nat) : Rat := zgg (l.rates.getD i [] ++ [l.exit.getD i 0])
theorem zxb.outL {l : LQ} (h : zxb l) {i : Nat} (hi : i < l.start.length) : ∀ q ∈ l.rates.getD i [] ++ [l.exit.getD i 0], zvg q := by
 have h1 := h.rlen hi
 have h2 : i < l.exit.length := by rw [h.el]; exact hi
 intro q hq
 rcases List.mem_append.1 hq with h3 | h3
 ·rw [List.getD_eq_getElem?_getD, List.getElem?_eq_getElem h1] at h3
  exact (h.row i h1).2.1 q h3
 ·rw [List.getD_eq_getElem?_getD, List.getElem?_eq_getElem h2] at h3
  simp at h3
  subst h3
  exact h.ex _ (List.getElem_mem h2)
set_option maxRecDepth 100000 in
set_option maxHeartbeats 6400000 in
theorem zln (va : Value) (l : LQ) (i : Nat) (w : World) (ha : zhm w va l) (hl : zxb l) (hi : i < l.start.length) : Calls Tryz.prog 95 #[va, .int .i64 (i : Nat)] w (RF1 w (zxf l i)) := by
 obtain ⟨i3, hi3, hz3, hs3, hy3⟩ := info_parts Tryz.infoF
 have hAP := fun {ops : Array Oper} {o : Oper} {a : Act} {w : World} {K : Act → World → Prop} {Q : Exit → Act → World → Prop} {E : Prop} => zcg (P := Tryz.prog) 25 38 i3 Tryz.underlying25 hi3 hz3 hs3 hy3 (ops := ops) (o := o) (a := a) (w := w) (K := K) (Q := Q) (E := E)
 have hAV := fun {ops : Array Oper} {o : Oper} {a : Act} {w : World} {K : Act → World → Prop} {Q : Exit → Act → World → Prop} {E : Prop} => step_app_spr (P := Tryz.prog) 25 38 i3 Tryz.underlying25 hi3 hz3 hs3 hy3 (ops := ops) (o := o) (a := a) (w := w) (K := K) (Q := Q) (E := E)
 clear hi3 hz3 hs3 hy3
 obtain ⟨nm, sv, rv, ev, rfl, hs, hr, he⟩ := id ha
 obtain ⟨ra, rn, rk, rfl, _⟩ := id hr.sl
 obtain ⟨sa, sn, sk, rfl, _⟩ := id hs.sl
 obtain ⟨ea, en, ek, rfl, _⟩ := id he.sl
 have hba := zca w (.cells #[nm, .slice sa sn sk, .slice ra rn rk, .slice ea en ek] 52)
 have hbb := zca (w.alloc (.cells #[nm, .slice sa sn sk, .slice ra rn rk, .slice ea en ek] 52)) (.cells #[.bool false, .slice none 0 0, .slice none 0 0] 38)
 have HC := zH ((C4.new w 52 nm (.slice sa sn sk) (.slice ra rn rk) (.slice ea en ek)).belowS hbb)
 have HT := zH (C3.newB (b := w.heap.size + 1) (w.alloc (.cells #[nm, .slice sa sn sk, .slice ra rn rk, .slice ea en ek] 52)) 38 (.bool false) (.slice none 0 0) (.slice none 0 0) (by show (w.heap.push _).size = _; rw [Array.size_push]))
 have HBW := zH (zaa hba hbb)
 have HR := zH (hr.below HBW.out)
 have HE := zH (he.below HBW.out)
 have hi1 := hl.rlen hi
 have hi2 : i < l.exit.length := by rw [hl.el]; exact hi
 have hen : en = l.start.length := he.len.trans hl.el
 have hrn : rn = l.start.length := hr.len.trans hl.rl
 obtain ⟨n, hnn⟩ : ∃ n, l.start.length = n := ⟨_, rfl⟩
 have HN := zH hnn
 rw [hnn] at hen hrn hi
 have n4 : n ≤ 4 := by rw [← hnn]; exact hl.n4
 obtain rfl : en = n := hen
 obtain rfl : rn = en := hrn
 have HL := zH hl
 have HLL := zH (hl.outL (by rw [HN.out]; exact hi))
 have hlr : (l.rates[i]'hi1).length = rn := by rw [(hl.row i hi1).1, HN.out]
 have hgr : l.rates.getD i [] = l.rates[i]'hi1 := by rw [List.getD_eq_getElem?_getD, List.getElem?_eq_getElem hi1]; rfl
 have hge : l.exit.getD i 0 = l.exit[i]'hi2 := by rw [List.getD_eq_getElem?_getD, List.getElem?_eq_getElem hi2]; rfl
 obtain ⟨Q, hQ⟩ : ∃ Q, l.rates[i]'hi1 = Q := ⟨_, rfl⟩
 obtain ⟨x, hx⟩ : ∃ x, l.exit[i]'hi2 = x := ⟨_, rfl⟩
 have hOQ : zxf l i = zgg (Q ++ [x]) := by unfold zxf; rw [hgr, hge, hQ, hx]
 rw [hgr, hge, hQ, hx] at HLL
 rw [hQ] at hlr
 rw [hOQ]
 have srt := hr.sl
 have sxt := he.sl
 clear hs hr he ha hl hba hbb hnn hgr hge hOQ
 go_enter Tryz.func95, Tryz.ntmps95
 go_upto_region 1 with fail
 generalize (w.alloc (.cells #[nm, .slice sa sn sk, .slice ra rn rk, .slice ea rn ek] 52)).alloc (.cells #[.bool false, .slice none 0 0, .slice none 0 0] 38) = W2 at *
 obtain ⟨row, hc0, hrow⟩ := HR.out.at' i hi1
 obtain ⟨a0, b0, g1, g2, g3, g4, g5⟩ := HE.out.at' i hi2
 rw [hx] at g1 g4 g5
 rw [hQ] at hrow
 obtain ⟨a1, a2, a3, rfl, _⟩ := id g4.v.sl
 obtain ⟨b1, b2, b3, rfl, _⟩ := id g5.v.sl
 have HX : Hid (zqa W2 (.agg #[.bool (decide (x < 0)), .slice a1 a2 a3, .slice b1 b2 b3]) x) := zH ⟨_, _, rfl, g4, g5⟩
 obtain ⟨o1, o2, o3, rfl, _, _, ho⟩ := id hrow.sl
 have ho2 : rn = o2 := by have h := hrow.len; rw [hlr] at h; exact h.symm
 subst ho2
 obtain ⟨ad, rfl⟩ : ∃ ad, o1 = some ad := by
  cases o1 with
  | none => have := ho rfl; omega
  | some ad => exact ⟨ad, rfl⟩
 have HROW := zH hrow
 obtain ⟨_, c0, c1, c2, c3, _⟩ := HC.out
 have S0 := zH (And.intro c2 (And.intro hc0 (And.intro c3 (And.intro g1 (And.intro g2 g3)))))
 have j1 : (0 : Int) ≤ (i : Int) := by omega
 have j2 : (i : Int) < (rn : Nat) := by omega
 clear hrow g4 g5 ho c0 c1 c2 c3 g1 g2 g3 hc0 hQ hx
 go_cut [5, 6] (fun u5 u6 wy => ∃ (b5 : Nat) (t' : Bool) (x' y' : Value), u5 = .pointer (some ⟨b5, 0, none⟩) ∧ C3 wy b5 (.bool t') x' y' ∧ zqa wy (.agg #[.bool t', x', y']) (zgg (Q ++ [x])) ∧ Below W2.heap.size W2 wy ∧ W2.heap.size ≤ b5)
 case first =>
  go_region_held3 (fun w' => w'.cell? ⟨w.heap.size, 2, none⟩ = some (.slice ra rn rk) ∧ w'.cell? (ptr (.slice ra rn rk) i) = some (.slice (some ad) rn o3) ∧ w'.cell? ⟨w.heap.size, 3, none⟩ = some (.slice ea rn ek) ∧ w'.cell? (ptr (.slice ea rn ek) (i * 3)) = some (.bool (decide (x < 0))) ∧ w'.cell? (ptr (.slice ea rn ek) (i * 3 + 1)) = some (.slice a1 a2 a3) ∧ w'.cell? (ptr (.slice ea rn ek) (i * 3 + 2)) = some (.slice b1 b2 b3) ∧ Below W2.heap.size W2 w') (first
   | with_reducible exact keep6a S0.out (zja _)
   | with_reducible exact keep6a S0.out hB12
   | with_reducible exact keep6a S0.out (zaa hB13 (zca _ _))
   | with_reducible exact keep6w (by assumption) (zca _ _)
   | with_reducible exact keep6w (by assumption) (by assumption)
   |(with_reducible refine keep6s S0.out hB13 ?_ _ _ _; omega)) (first
   |(refine hAV rfl _ _ rfl rfl ad rn o3 Q rfl (HROW.out.below (zgi (by assumption))) (by omega) ?_; intro v5 w5 hf5 hb5 hs5
     have hk5 := hf5.block
     (try simp only [zfk, zvo] at hk5)
     have hf5 := hf5.mono (zgi (by assumption)).size
     obtain ⟨p1, p2, p3, rfl, _⟩ := id hs5
     have hB5 := zaa (zgi (by assumption)) hb5
     have z5 := hB5.size
     have zq := hb5.size
     (try simp only [zfk, zvo] at zq))
   |(refine hAP rfl _ _ rfl W2.heap.size (.slice p1 p2 p3) Q rfl ?_ (.bool (decide (x < 0))) (.slice a1 a2 a3) (.slice b1 b2 b3) x ?_ _ rfl ?_ (by omega) (zgi (by assumption)).size ?_
     ·first
       | exact hf5
       | exact hf5.belowS (zca _ _)
       | exact (hf5.belowS (zca _ _)).belowS (zca _ _)
     ·exact HX.out.below (zgi (by assumption))
     ·first
       | exact zjf.new _ _ _
       | exact zjf.newB _ _ _ (zfk _ _)
       | exact ((zjf.new _ _ _).below (zja _)).below hb5
       | exact ((zjf.newB _ _ _ (zfk _ _)).below (zja _)).below hb5
       | exact (zjf.new _ _ _).below (zca _ _)
       | exact (((zjf.new _ _ _).below (zja _)).below hb5).below (zca _ _)
       | exact (((zjf.new _ _ _).below (zca _ _)).below (zja _)).below hb5
     intro v12 w12 hf12 hg12 hn12 ho12
     have hB12 := (zgi (by assumption)).trans (zna hg12 (zgi (by assumption)).size (fun k hk => (hf5.block k hk).1))
     have z12 := hB12.size
     have zg := hg12.size
     (try simp only [zfk, zvo] at zg)
     (first
      | have hC17 := (C3.new w5 38 (.bool false) (.slice none 0 0) (.slice none 0 0)).grownB hg12 (fun e => (by have := hk5 _ e; omega))
      | have hC17 := ((C3.new w5 38 (.bool false) (.slice none 0 0) (.slice none 0 0)).belowS (zca _ (.cells #[.bool (decide (x < 0)), .slice a1 a2 a3, .slice b1 b2 b3] 38))).grownB hg12 (fun e => (by have := hk5 _ e; omega))
      | have hC17 := (C3.newB (b := w5.heap.size + 1) (w5.alloc (.cells #[.bool (decide (x < 0)), .slice a1 a2 a3, .slice b1 b2 b3] 38)) 38 (.bool false) (.slice none 0 0) (.slice none 0 0) (zfk _ _)).grownB hg12 (fun e => (by have := hk5 _ e; omega))
      | have hC17 := ((((C3.new W2 38 (.bool false) (.slice none 0 0) (.slice none 0 0)).belowS (zja _)).belowS hb5).belowS (zca _ (.cells #[.bool (decide (x < 0)), .slice a1 a2 a3, .slice b1 b2 b3] 38))).grownB hg12 (fun e => (by have := hk5 _ e; omega))
      | have hC17 := (((C3.new W2 38 (.bool false) (.slice none 0 0) (.slice none 0 0)).belowS (zja _)).belowS hb5).grownB hg12 (fun e => (by have := hk5 _ e; omega))
      | have hC17 := ((((C3.new W2 38 (.bool false) (.slice none 0 0) (.slice none 0 0)).belowS (zca _ (.cells #[.bool (decide (x < 0)), .slice a1 a2 a3, .slice b1 b2 b3] 38))).belowS (zja _)).belowS hb5).grownB hg12 (fun e => (by have := hk5 _ e; omega))
      | have hC17 := (((C3.newB (b := W2.heap.size + 1) (W2.alloc (.cells #[.bool (decide (x < 0)), .slice a1 a2 a3, .slice b1 b2 b3] 38)) 38 (.bool false) (.slice none 0 0) (.slice none 0 0) (zfk _ _)).belowS (zja _)).belowS hb5).grownB hg12 (fun e => (by have := hk5 _ e; omega))
      | skip)
     (try obtain ⟨_, d0, d1, d2, f0, f1, f2⟩ := id hC17)
     obtain ⟨y1, y2, y3, rfl, _⟩ := id hf12.sl)
   |(go_at_call 137; first
      |((with_reducible refine (ztn _ (Q ++ [x]) _ hf12.fracs HLL.out ?_).mono ?_); focus (rw [List.length_append]; simp; omega)
        rintro e13 w13 ⟨v13, rfl, hv13, hb13⟩
        (try have hC13 := hC17.belowS hb13))
      |((with_reducible refine (ztn _ (Q ++ [x]) _ (hf12.fracs.below (zca _ _)) HLL.out ?_).mono ?_); focus (rw [List.length_append]; simp; omega)
        rintro e13 w13 ⟨v13, rfl, hv13, hb13⟩
        have hC13 := (C3.new w12 38 (.bool false) (.slice none 0 0) (.slice none 0 0)).belowS hb13)
     have hB13 := zaa (zgi (by assumption)) hb13
     have z13 := hB13.size
     (try clear d0 d1 d2 f0 f1 f2)
     (try obtain ⟨_, d0, d1, d2, f0, f1, f2⟩ := id hC13)
     obtain ⟨t13, x13, y13, rfl, ⟨a81, l81, k81, rfl, _⟩, ⟨a82, l82, k82, rfl, _⟩⟩ := hv13.isF))
  all_goals
   have hE := zgi (by assumption)
   go_wp2_with fail
   go_meet
   case rel =>
    first
     | exact ⟨_, _, _, _, rfl, C3.new w13 _ _ _ _, hv13.below (zca _ _), hE, hB13.size⟩
     | exact ⟨_, _, _, _, rfl, hC13.set _ _ _, hv13.set3 hC13 (fun z => by simp) (fun z => by simp) _ _ _, hE, by omega⟩
 case rest =>
  obtain ⟨b5, t8, x8, y8, rfl, hC6, hv6, hb6, hbb⟩ := hcut
  obtain ⟨w3, hw3⟩ : ∃ w3, w3 = wc := ⟨_, rfl⟩
  subst hw3
  obtain ⟨_, _, _, hF6, ⟨a81, l81, k81, rfl, _⟩, ⟨a82, l82, k82, rfl, _⟩⟩ := hv6.isF
  injection hF6 with hF6
  injection hF6 with hF6
  simp only [List.cons.injEq, and_true, Value.bool.injEq] at hF6
  obtain ⟨rfl, rfl, rfl⟩ := hF6
  have HT3 := zH (HT.out.below hb6 HT.out.lt)
  have HV6 := zH hv6
  have HB6 := zH (zaa HBW.out hb6)
  obtain ⟨_, d0, d1, d2, _⟩ := hC6
  obtain ⟨_, e0, e1, e2, f0, f1, f2⟩ := HT3.out
  clear hv6 hb6 S0
  go_wp2_with fail
  refine zab rfl rfl Tryz.aggF Tryz.sizeF (HT3.out.set _ _ _) rfl ?_
  exact ⟨_, rfl, HV6.out.set3 HT3.out (fun z => by simp) (fun z => by simp) _ _ _, zga HB6.out (Nat.le_succ _) _ _ _⟩
theorem zqm : ∀ n : Fin 100, fits (fq false n.val 1) := by decide +kernel
theorem make_n1 (n : Nat) (hn : n < 100) (w : World) : Calls Tryz.prog 67 #[.int .i64 (n : Nat), .int .i64 1] w (RF0 w (fq false n 1)) :=
 (zel (n : Nat) 1 w (by omega) (by omega) (by decide) (by decide) (by decide)).mono fun _ _ h => h.ok (by
  rw [decide_eq_false (show ¬ ((n : Nat) : Int) < 0 by omega), decide_eq_false (show ¬ (1 : Int) < 0 by decide)]; rfl) (zqm ⟨n, hn⟩)
set_option maxHeartbeats 800000 in
theorem pnumber_nat (n : Nat) (hn : n < 100) (w : World) : Calls Tryz.prog 88 #[.int .i64 (n : Nat)] w (RF1 w (fq false n 1)) := by
 have HN := zH hn
 clear hn
 go_enter Tryz.func88, Tryz.ntmps88
 go_wp2_with (go_at_call 67; (with_reducible refine (make_n1 n HN.out _).mono ?_); rintro e w1 ⟨v, rfl, hv, hb1⟩
              obtain ⟨t9, x9, y9, rfl, ⟨a1, l91, k1, rfl, _⟩, ⟨a2, l92, k2, rfl, _⟩⟩ := hv.isF
              have hr := ((C3.new w 38 (.bool false) (.slice none 0 0) (.slice none 0 0)).belowS hb1).allocS (.cells #[.bool t9, .slice a1 l91 k1, .slice a2 l92 k2] 38)
              have hv2 := hv.below (zca w1 (.cells #[.bool t9, .slice a1 l91 k1, .slice a2 l92 k2] 38))
              have hb2 := zaa (zaa (zca w (.cells #[.bool false, .slice none 0 0, .slice none 0 0] 38)) hb1) (zca w1 (.cells #[.bool t9, .slice a1 l91 k1, .slice a2 l92 k2] 38))
              have HR := zH hr
              obtain ⟨_, d1, d2, d3, d4, d5, d6⟩ := hr)
 refine zab rfl rfl Tryz.aggF Tryz.sizeF (HR.out.set _ _ _) rfl ?_
 exact ⟨_, rfl, hv2.set3 HR.out (fun z => by simp) (fun z => by simp) _ _ _, zga hb2 (Nat.le_refl _) _ _ _⟩
def zvn (a b : List Rat) (k : Nat) : Rat := 0 + sg k fun t => a.getD t 0 * b.getD t 0
theorem dotL_succ (a b : List Rat) (k : Nat) : zvn a b k + a.getD k 0 * b.getD k 0 = zvn a b (k + 1) := by
 show _ = 0 + (_ + a.getD k 0 * b.getD k 0)
 unfold zvn
 rw [Rat.add_assoc]
structure ScaP (a b : List Rat) (f : Nat) : Prop where
 len : b.length = a.length
 n : a.length ≤ 1000
 f100 : f < 100
 fa : ∀ t, t < a.length → fits (a.getD t 0) ∧ fits (b.getD t 0) ∧ fits (a.getD t 0 * b.getD t 0)
 fs : ∀ k, k ≤ a.length → fits (zvn a b k)
 fr : fits (zvn a b a.length * fq false f 1)
set_option maxRecDepth 100000 in
set_option maxHeartbeats 6400000 in
theorem zkm (va vb : Value) (a b : List Rat) (f : Nat) (w : World) (ha : zbb w va a) (hb : zbb w vb b) (hp : ScaP a b f) :
 Calls Tryz.prog 99 #[va, vb, .int .i64 (f : Nat)] w (RF0 w (zvn a b a.length * fq false f 1)) := by
 obtain ⟨xa, xn, xk, rfl, _⟩ := id ha.sl
 obtain ⟨ya, yn, yk, rfl, _⟩ := id hb.sl
 have sx := ha.sl
 have sy := hb.sl
 have hxn : xn = a.length := ha.len
 have hyn : yn = a.length := hb.len.trans hp.len
 obtain ⟨n, hnn⟩ : ∃ n, a.length = n := ⟨_, rfl⟩
 rw [hnn] at hxn hyn
 obtain rfl : xn = n := hxn
 obtain rfl : yn = xn := hyn
 have HN := zH hnn
 have h1000 : yn ≤ 1000 := by rw [← hnn]; exact hp.n
 have HP := zH hp
 have hba := zca w (.cells #[.bool false, .slice none 0 0, .slice none 0 0] 38)
 have HR := zH (C3.new w 38 (.bool false) (.slice none 0 0) (.slice none 0 0))
 have HA := zH (ha.below hba)
 have HB := zH (hb.below hba)
 have HBW := zH hba
 clear ha hb hp hba hnn
 go_enter Tryz.func99, Tryz.ntmps99
 go_upto_region 1 with fail
 obtain ⟨b6, hb6⟩ : ∃ b, w.heap.size = b := ⟨_, rfl⟩
 have HE6 := zH hb6
 rw [hb6] at HR ⊢
 clear hb6
 generalize w.alloc (.cells #[.bool false, .slice none 0 0, .slice none 0 0] 38) = W1 at *
 go_upto_region 2 with (first
  |(go_at_call 88; (with_reducible refine (zqe _).mono ?_); rintro e8 w8 ⟨v8, rfl, hv8, hb8⟩
    obtain ⟨t8, x8, y8, rfl, ⟨a81, l81, k81, rfl, _⟩, ⟨a82, l82, k82, rfl, _⟩⟩ := hv8.isF
    have hba := zca w8 (.cells #[.bool t8, .slice a81 l81 k81, .slice a82 l82 k82] 38)
    have HC8 := zH (C3.new w8 38 (.bool t8) (.slice a81 l81 k81) (.slice a82 l82 k82))
    have HF8 := zH (hv8.below hba)
    have HBR := zH (zaa hb8 hba)
    have HL8 : Hid (W1.heap.size ≤ w8.heap.size) := zH hb8.size
    clear hv8 hb8 hba))
 obtain ⟨b8, hb8⟩ : ∃ b, w8.heap.size = b := ⟨_, rfl⟩
 rw [hb8] at HC8 HL8 ⊢
 clear hb8
 generalize w8.alloc (.cells #[.bool t8, .slice a81 l81 k81, .slice a82 l82 k82] 38) = W8 at *
 go_wp2_with fail
 go_loopg [15] (yn) (fun g u15 wr => ∃ (k : Nat) (t8 : Bool) (a81 : Option Addr) (l81 k81 : Nat) (a82 : Option Addr) (l82 k82 : Nat), k ≤ yn ∧ g = yn - k ∧ u15 = .int .i64 k ∧ C3 wr b8 (.bool t8) (.slice a81 l81 k81) (.slice a82 l82 k82) ∧ zqa wr (.agg #[.bool t8, .slice a81 l81 k81, .slice a82 l82 k82]) (zvn a b k) ∧ Below W1.heap.size W1 wr)
 case atStart => exact ⟨0, _, _, _, _, _, _, _, Nat.zero_le _, rfl, rfl, HC8.out, by show zqa _ _ (0 + 0); rw [Rat.add_zero]; exact HF8.out, HBR.out⟩
 case round =>
  obtain ⟨k, t8, a81, l81, k81, a82, l82, k82, hkn, hg, rfl, hc8, hf8, hbr⟩ := hrel
  obtain ⟨W9, hw9⟩ : ∃ w6, w6 = wr := ⟨_, rfl⟩
  subst hw9
  have HG := zH hg
  have HC8 := zH hc8
  have HF8 := zH hf8
  have HBR := zH hbr
  clear hg hc8 hf8 hbr
  by_cases hkl : k < yn
  ·have hka : k < a.length := by rw [HN.out]; exact hkl
   have hkb : k < b.length := by rw [HP.out.len, HN.out]; exact hkl
   obtain ⟨ts, as1, ls1, ks1, as2, ls2, ks2, g1, g2, g3, hfs⟩ := (HA.out.below HBR.out).cellsAt (k := k) hka
   obtain ⟨tr, ar1, lr1, kr1, ar2, lr2, kr2, p1, p2, p3, hfr⟩ := (HB.out.below HBR.out).cellsAt (k := k) hkb
   have HFP := zH (HP.out.fa k hka)
   have HES := zH (dotL_succ a b k)
   have HSS : Hid (fits (zvn a b k) ∧ fits (zvn a b (k + 1))) := zH ⟨HP.out.fs k (by omega), HP.out.fs (k + 1) (by omega)⟩
   obtain ⟨s, hs⟩ : ∃ s, a.getD k 0 = s := ⟨_, rfl⟩
   obtain ⟨r, hr⟩ : ∃ r, b.getD k 0 = r := ⟨_, rfl⟩
   rw [hs, hr] at HFP HES
   rw [hs] at hfs
   rw [hr] at hfr
   have HFS := zH hfs
   have HFR := zH hfr
   have S0 := zH (And.intro g1 (And.intro g2 (And.intro g3 (And.intro p1 (And.intro p2 (And.intro p3 (And.intro p3 p3)))))))
   have i1 : (0 : Int) ≤ (k : Int) := by omega
   have i2 : (k : Int) < (yn : Nat) := by omega
   clear g1 g2 g3 p1 p2 p3 hfs hfr hs hr hka hkb
   go_upto_region 5 with fail
   go_cut [10, 11] (fun u10 u11 wy => ∃ (b10 : Nat) (t' : Bool) (a1 : Option Addr) (l1 k1 : Nat) (a2 : Option Addr) (l2 k2 : Nat), u10 = .pointer (some ⟨b10, 0, none⟩) ∧ u11 = .int .i64 0 ∧ C3 wy b10 (.bool t') (.slice a1 l1 k1) (.slice a2 l2 k2) ∧ zqa wy (.agg #[.bool t', .slice a1 l1 k1, .slice a2 l2 k2]) (s * r) ∧ Below W9.heap.size W9 wy ∧ W9.heap.size ≤ b10)
   case first =>
    go_region_held3 (fun w' => w'.cell? (ptr (.slice xa yn xk) (k * 3)) = some (.bool ts) ∧ w'.cell? (ptr (.slice xa yn xk) (k * 3 + 1)) = some (.slice as1 ls1 ks1) ∧ w'.cell? (ptr (.slice xa yn xk) (k * 3 + 2)) = some (.slice as2 ls2 ks2) ∧ w'.cell? (ptr (.slice ya yn yk) (k * 3)) = some (.bool tr) ∧ w'.cell? (ptr (.slice ya yn yk) (k * 3 + 1)) = some (.slice ar1 lr1 kr1) ∧ w'.cell? (ptr (.slice ya yn yk) (k * 3 + 2)) = some (.slice ar2 lr2 kr2) ∧ w'.cell? (ptr (.slice ya yn yk) (k * 3 + 2)) = some (.slice ar2 lr2 kr2) ∧ w'.cell? (ptr (.slice ya yn yk) (k * 3 + 2)) = some (.slice ar2 lr2 kr2) ∧ Below W9.heap.size W9 w') (first
     | with_reducible exact kp8a S0.out (zja _)
     | with_reducible exact kp8w (by assumption) (zca _ _)
     | with_reducible exact kp8w (by assumption) (by assumption)
     | with_reducible exact kp8a S0.out (zaa hB32 (zca _ _))
     | with_reducible exact kp8s S0.out hB32 (Nat.le_refl _) _ _ _
     | with_reducible exact kp8s S0.out hB32 hB31.size _ _ _
     | with_reducible exact kp8s S0.out (zaa hB32 (zca _ _)) hB32.size _ _ _) (first
     |(go_at_call 131; (with_reducible refine (zbl _ _ s r _ (HFS.out.below (kp8c (by assumption))) (HFR.out.below (kp8c (by assumption))) HFP.out.1 HFP.out.2.1 HFP.out.2.2).mono ?_); rintro e32 w32 ⟨v32, rfl, hv32, hb32⟩
       obtain ⟨t32, x32, y32, rfl, ⟨a321, l321, k321, rfl, _⟩, ⟨a322, l322, k322, rfl, _⟩⟩ := hv32.isF
       have hB32 := zaa (kp8c (by assumption)) hb32
       have hc6 := (fun (p : Addr) hp => hb32.cell (p := p) hp)
       have hf6 := (fun (p : Addr) hp => hb32.frozen (p := p) hp)
       have zq2 := hb32.size
       (try simp only [zfk, zvo] at zq2)
       (try have z2 : W9.heap.size < w32.heap.size := (by omega))))
    all_goals
     have hE := kp8c (by assumption)
     go_wp2_with fail
     go_meet
     case rel =>
      first
       | exact ⟨_, _, _, _, _, _, _, _, rfl, rfl, C3.new w32 _ _ _ _, hv32.below (zca _ _), hE, hB32.size⟩
       | exact ⟨_, _, _, _, _, _, _, _, rfl, rfl, ((C3.newB (b := W9.heap.size) W9.drew 38 (.bool false) (.slice none 0 0) (.slice none 0 0) rfl).belowS hb32).set _ _ _, hv32.set3 ((C3.newB (b := W9.heap.size) W9.drew 38 (.bool false) (.slice none 0 0) (.slice none 0 0) rfl).belowS hb32) (fun z => by simp) (fun z => by simp) _ _ _, hE, Nat.le_refl _⟩
   case rest =>
    obtain ⟨b10, t10, a101, l101, k101, a102, l102, k102, rfl, rfl, hc, hf, hb6', hle⟩ := hcut
    obtain ⟨W10, hw3⟩ : ∃ w3, w3 = wc := ⟨_, rfl⟩
    subst hw3
    have HC10 := zH hc
    have HF10 := zH hf
    have HL10 : Hid (W1.heap.size ≤ b10 ∧ b8 < b10) := zH ⟨Nat.le_trans HBR.out.size hle, Nat.lt_of_lt_of_le HC8.out.lt hle⟩
    replace HC8 := zH (HC8.out.belowS hb6')
    replace HF8 := zH (HF8.out.below hb6')
    replace HBR := zH (zaa HBR.out hb6')
    clear hc hf hb6' hle S0 HFS HFR
    obtain ⟨_, d0, d1, d2, _, _, _⟩ := HC8.out
    obtain ⟨_, p0, p1, p2, f0, f1, f2⟩ := HC10.out
    go_upto_region 8 with (first
     |(go_at_call 80; (with_reducible refine (add_can _ _ (zvn a b k) (s * r) _ HF8.out HF10.out HSS.out.1 HFP.out.2.2 (by rw [HES.out]; exact HSS.out.2)).mono ?_); rw [HES.out]; rintro e12 w12 ⟨v12, rfl, hv12, hb12⟩
       obtain ⟨t12, x12, y12, rfl, ⟨a121, l121, k121, rfl, _⟩, ⟨a122, l122, k122, rfl, _⟩⟩ := hv12.isF
       have HV12 := zH hv12
       clear d0 d1 d2 p0 p1 p2 f0 f1 f2
       replace HC8 := zH (HC8.out.belowS hb12)
       replace HF8 := zH (HF8.out.below hb12)
       replace HC10 := zH (HC10.out.belowS hb12)
       replace HBR := zH (zaa HBR.out hb12)
       obtain ⟨_, p0, p1, p2, f0, f1, f2⟩ := HC10.out
       clear hv12 hb12))
    have HF12 := zH (HV12.out.set3 HC10.out (fun z => by simp) (fun z => by simp) (.bool t12) (.slice a121 l121 k121) (.slice a122 l122 k122))
    have HC8 := zH (HC8.out.set_other (show b8 ≠ b10 by have := HL10.out.2; omega) (.bool t12) (.slice a121 l121 k121) (.slice a122 l122 k122))
    have HBR := zH (zga HBR.out HL10.out.1 (.bool t12) (.slice a121 l121 k121) (.slice a122 l122 k122))
    have HC10 := zH (HC10.out.set (.bool t12) (.slice a121 l121 k121) (.slice a122 l122 k122))
    clear p0 p1 p2 f0 f1 f2
    generalize (((w12.setCell ⟨b10, 0, none⟩ (.bool t12)).setCell ⟨b10, 1, none⟩ (.slice a121 l121 k121)).setCell ⟨b10, 2, none⟩ (.slice a122 l122 k122)) = X12 at *
    obtain ⟨_, d0, d1, d2, f0, f1, f2⟩ := HC8.out
    obtain ⟨_, p0, p1, p2, _, _, _⟩ := HC10.out
    go_wp2_with fail
    go_roundg (yn - (k + 1))
    case measure => (have := HG.out; omega)
    case rel => exact ⟨k + 1, _, _, _, _, _, _, _, by omega, rfl, by go_num, HC8.out.set _ _ _, HF12.out.set3 HC8.out (fun z => by simp) (fun z => by simp) _ _ _, zga HBR.out HL8.out _ _ _⟩
  ·have HKE : Hid (a.length = k) := zH (by rw [HN.out]; omega)
   have HFE : Hid (fits (zvn a b k) ∧ fits (fq false f 1) ∧ fits (zvn a b k * fq false f 1)) := zH ⟨HP.out.fs k (by rw [HKE.out]; exact Nat.le_refl _), zqm ⟨f, HP.out.f100⟩, by have h := HP.out.fr; rw [HKE.out] at h; exact h⟩
   obtain rfl : k = yn := by omega
   have HR9 := zH (HR.out.belowS HBR.out)
   have HBT := zH (zaa HBW.out HBR.out)
   have hD := zja (B := W9.heap.size) W9
   have HF8D := zH (HF8.out.below hD)
   have HRD := zH (HR9.out.belowS hD)
   have HBD := zH (zaa HBT.out hD)
   have kA : b6 ≠ b8 := by have h1 := HR.out.lt; have h2 := HL8.out; omega
   have HF100 := zH HP.out.f100
   obtain ⟨_, q1, q2, q3, _, _, _⟩ := HC8.out.belowS hD
   go_upto_region 12 with fail
   go_region_held3 (fun w' => w'.cell? ⟨b8, 0, none⟩ = some (.bool t8) ∧ w'.cell? ⟨b8, 1, none⟩ = some (.slice a81 l81 k81) ∧ w'.cell? ⟨b8, 2, none⟩ = some (.slice a82 l82 k82) ∧ w'.cell? ⟨b8, 0, none⟩ = some (.bool t8) ∧ w'.cell? ⟨b8, 1, none⟩ = some (.slice a81 l81 k81) ∧ w'.cell? ⟨b8, 2, none⟩ = some (.slice a82 l82 k82)) (first
    | with_reducible exact ⟨q1, q2, q3, q1, q2, q3⟩
    | with_reducible exact keep6b (by assumption) (by assumption)
    | with_reducible exact zvp (zvp (zvp (by assumption) kA kA kA kA kA kA _) kA kA kA kA kA kA _) kA kA kA kA kA kA _) (first
    |(go_at_call 88; (with_reducible refine (pnumber_nat f HF100.out _).mono ?_); rintro e3 w3 ⟨v3, rfl, hv3, hb3⟩
      obtain ⟨t3, x3, y3, rfl, ⟨a31, l31, k31, rfl, _⟩, ⟨a32, l32, k32, rfl, _⟩⟩ := hv3.isF)
    |(go_at_call 131; (with_reducible refine (zbl _ _ (zvn a b k) (fq false f 1) _ (HF8D.out.below hb3) hv3 HFE.out.1 HFE.out.2.1 HFE.out.2.2).mono ?_); rintro e4 w4 ⟨v4, rfl, hv4, hb4⟩
      obtain ⟨t4, x4, y4, rfl, ⟨a41, l41, k41, rfl, _⟩, ⟨a42, l42, k42, rfl, _⟩⟩ := hv4.isF
      have HR4 := zH ((HRD.out.belowS hb3).belowS hb4)
      obtain ⟨_, g0, g1, g2, g3, g4, g5⟩ := HR4.out))
   all_goals
    have hbE := zaa (zaa HBD.out hb3) hb4
    go_wp2_with fail
    refine zoa rfl rfl Tryz.aggF Tryz.sizeF (HR4.out.set _ _ _) rfl ?_
    rw [HKE.out]
    exact ⟨_, rfl, hv4.set3 HR4.out (fun z => by simp) (fun z => by simp) _ _ _, zga hbE (by rw [HE6.out]; exact Nat.le_refl _) _ _ _⟩
end Go.Proofs.YtlpdkbmmbdfoiaaGreat
namespace Go.Proofs.YtlpdkbmmbdfoiaaGreat
def alt (i : Nat) : Rat := if i % 2 = 0 then 1 else -1
theorem alt_succ (i : Nat) : alt (i + 1) = -alt i := by
 unfold alt
 by_cases h : i % 2 = 0
 ·rw [if_pos h, if_neg (by omega)]
 ·rw [if_neg h, if_pos (by omega)]; decide +kernel
def mnr (A : Mx) (i : Nat) : Mx := fun a b => A (if a < i then a else a + 1) (b + 1)
def dt : Nat → Mx → Rat
 | 0, _ => 1
 | n + 1, A => sg (n + 1) fun i => alt i * A i 0 * dt n (mnr A i)
theorem zcd {n : Nat} {A B : Mx} (h : ∀ a b, a < n → b < n → A a b = B a b) : dt n A = dt n B := by
 induction n generalizing A B with
 | zero => rfl
 | succ n ih =>
   refine zma fun i hi => ?_
   rw [h i 0 hi (by omega), ih (A := mnr A i) (B := mnr B i) (fun a b ha hb => by unfold mnr; exact h _ _ (by split <;> omega) (by omega))]
def zoc (A : Mx) (r : Nat) (x : Nat → Rat) : Mx := fun a => if a = r then x else A a
theorem zdg (A : Mx) (r : Nat) : zoc A r (A r) = A := by
 funext a; unfold zoc; split
 ·next h => rw [h]
 ·rfl
theorem zed (A : Mx) (r : Nat) (x : Nat → Rat) : zoc A r x r = x := by unfold zoc; rw [if_pos rfl]
theorem zvc {A : Mx} {r a : Nat} {x : Nat → Rat} (h : a ≠ r) : zoc A r x a = A a := by unfold zoc; rw [if_neg h]
theorem zkk {A : Mx} {r s : Nat} {x y : Nat → Rat} (h : r ≠ s) : zoc (zoc A r x) s y = zoc (zoc A s y) r x := by
 funext a; unfold zoc
 by_cases h1 : a = s
 ·subst h1; rw [if_pos rfl, if_neg (fun e => h e.symm), if_pos rfl]
 ·rw [if_neg h1]; split
  ·rfl
  ·rfl
theorem zsf (A : Mx) (r : Nat) (x : Nat → Rat) : mnr (zoc A r x) r = mnr A r := by
 funext a b; unfold mnr zoc
 rw [if_neg (by split <;> omega)]
theorem zmn {A : Mx} {r i : Nat} {x : Nat → Rat} (h : i ≠ r) : mnr (zoc A r x) i = zoc (mnr A i) (if r < i then r else r - 1) (fun b => x (b + 1)) := by
 funext a b; unfold mnr zoc
 by_cases h1 : a = if r < i then r else r - 1
 ·rw [if_pos h1, if_pos (by split at h1 <;> split <;> omega)]
 ·rw [if_neg h1, if_neg (by split at h1 <;> split <;> omega)]
theorem zum {n : Nat} (A : Mx) {r : Nat} (hr : r < n) (x y : Nat → Rat) (c : Rat) : dt n (zoc A r fun b => x b + c * y b) = dt n (zoc A r x) + c * dt n (zoc A r y) := by
 induction n generalizing A r x y with
 | zero => omega
 | succ n ih =>
   rw [dt, dt, dt, ← zcb, ← zvd]
   refine zma fun i hi => ?_
   by_cases h : i = r
   ·subst h
    rw [zed, zed, zed, zsf, zsf, zsf]
    grind
   ·rw [zvc h, zvc h, zvc h, zmn h, zmn h, zmn h]
    have h1 : (if r < i then r else r - 1) < n := by split <;> omega
    have := ih (mnr A i) h1 (fun b => x (b + 1)) (fun b => y (b + 1))
    rw [this]
    grind
theorem sg_pair {n r : Nat} {f : Nat → Rat} (hr : r + 1 < n) (h : ∀ i, i < n → i ≠ r → i ≠ r + 1 → f i = 0) : sg n f = f r + f (r + 1) := by
 have e : sg n f = sg n (fun i => (if r = i then f i else 0) + (if r + 1 = i then f i else 0)) := zma fun i hi => by
  by_cases h1 : r = i
  ·subst h1; rw [if_pos rfl, if_neg (by omega)]; grind
  ·by_cases h2 : r + 1 = i
   ·subst h2; rw [if_neg h1, if_pos rfl]; grind
   ·rw [if_neg h1, if_neg h2, h i hi (fun e => h1 e.symm) (fun e => h2 e.symm)]; grind
 rw [e, zvd, zfd (by omega), zfd hr]
theorem dt_adj {n : Nat} {A : Mx} {r : Nat} (hr : r + 1 < n) (h : A r = A (r + 1)) : dt n A = 0 := by
 induction n generalizing A r with
 | zero => omega
 | succ n ih =>
   rw [dt, sg_pair hr]
   ·have hm : mnr A r = mnr A (r + 1) := by
     funext a b; unfold mnr
     by_cases h1 : a < r
     ·rw [if_pos h1, if_pos (by omega)]
     ·by_cases h2 : a = r
      ·subst h2; rw [if_neg h1, if_pos (by omega), h]
      ·rw [if_neg h1, if_neg (by omega)]
    rw [alt_succ, ← h, ← hm]
    grind
   ·intro i hi h1 h2
    have hz : dt n (mnr A i) = 0 := by
     by_cases h3 : i < r
     ·refine ih (r := r - 1) (by omega) ?_
      funext b; unfold mnr
      rw [if_neg (by omega), if_neg (by omega), show r - 1 + 1 = r by omega, h]
     ·refine ih (r := r) (by omega) ?_
      funext b; unfold mnr
      rw [if_pos (by omega), if_pos (by omega), h]
    rw [hz, Rat.mul_zero]
theorem dt_zero {n : Nat} {A : Mx} {r : Nat} (hr : r < n) : dt n (zoc A r fun _ => 0) = 0 := by
 have h := zum A hr (fun _ => 0) (fun _ => 0) 1
 have e : (fun b : Nat => (0 : Rat) + 1 * 0) = fun _ => 0 := by funext b; grind
 rw [e] at h
 grind
theorem dt_scale {n : Nat} (A : Mx) {r : Nat} (hr : r < n) (x : Nat → Rat) (c : Rat) : dt n (zoc A r fun b => c * x b) = c * dt n (zoc A r x) := by
 have h := zum A hr (fun _ => 0) x c
 have e : (fun b : Nat => (0 : Rat) + c * x b) = fun b => c * x b := by funext b; grind
 rw [e, dt_zero hr] at h
 grind
theorem dt_exch {n a b : Nat} (ha : a < n) (hb : b < n) (hab : a ≠ b) (h0 : ∀ (A : Mx), A a = A b → dt n A = 0) (A : Mx) : dt n (swp A a b) = -dt n A := by
 have D : ∀ x y, ∃ z, dt n (zoc (zoc A a x) b y) = z := fun x y => ⟨_, rfl⟩
 have e1 : swp A a b = zoc (zoc A a (A b)) b (A a) := by
  funext i; unfold swp zoc
  by_cases h1 : i = a
  ·subst h1; rw [if_pos rfl, if_neg hab, if_pos rfl]
  ·rw [if_neg h1]; split
   ·rfl
   ·rfl
 have e2 : A = zoc (zoc A a (A a)) b (A b) := by rw [zdg, zdg]
 have key : ∀ x, dt n (zoc (zoc A a x) b x) = 0 := fun x => h0 _ (by rw [zed, zvc hab, zed])
 have s1 : ∀ x y z, dt n (zoc (zoc A a (fun j => x j + 1 * y j)) b z) = dt n (zoc (zoc A a x) b z) + 1 * dt n (zoc (zoc A a y) b z) := fun x y z => by
  rw [zkk hab, zkk hab, zkk hab]; exact zum _ ha x y 1
 have s2 : ∀ x y z, dt n (zoc (zoc A a z) b (fun j => x j + 1 * y j)) = dt n (zoc (zoc A a z) b x) + 1 * dt n (zoc (zoc A a z) b y) := fun x y z => zum _ hb x y 1
 have h := key (fun j => A a j + 1 * A b j)
 rw [s1, s2, s2, key, key] at h
 rw [e1]
 have e3 : dt n A = dt n (zoc (zoc A a (A a)) b (A b)) := congrArg (dt n) e2
 rw [e3]
 grind
theorem dt_same {n : Nat} : ∀ (k i : Nat) (A : Mx), i + 1 + k < n → A i = A (i + 1 + k) → dt n A = 0
 | 0, i, A, hk, h => dt_adj hk h
 | k + 1, i, A, hk, h => by
   have hs := dt_exch (n := n) (a := i + 1 + k) (b := i + 1 + k + 1) (by omega) (by omega) (by omega) (fun B hB => dt_adj (by omega) hB) A
   have hz : dt n (swp A (i + 1 + k) (i + 1 + k + 1)) = 0 := dt_same k i _ (by omega) (by
    unfold swp
    rw [if_neg (by omega), if_neg (by omega), if_pos rfl]
    exact h)
   grind
theorem zej {n : Nat} {A : Mx} {i j : Nat} (hi : i < n) (hj : j < n) (hij : i ≠ j) (h : A i = A j) : dt n A = 0 := by
 rcases Nat.lt_or_gt_of_ne hij with h1 | h1
 ·exact dt_same (j - i - 1) i A (by omega) (by rw [show i + 1 + (j - i - 1) = j by omega]; exact h)
 ·exact dt_same (i - j - 1) j A (by omega) (by rw [show j + 1 + (i - j - 1) = i by omega]; exact h.symm)
theorem dt_swp {n a b : Nat} (ha : a < n) (hb : b < n) (hab : a ≠ b) (A : Mx) : dt n (swp A a b) = -dt n A := dt_exch ha hb hab (fun B h => zej ha hb hab h) A
theorem dt_add {n i r : Nat} (hi : i < n) (hr : r < n) (hir : i ≠ r) (A : Mx) (c : Rat) : dt n (zoc A i fun b => A i b + c * A r b) = dt n A := by
 have h := zum A hi (A i) (A r) c
 have hz : dt n (zoc A i (A r)) = 0 := zej hi hr hir (by rw [zed, zvc (fun e => hir e.symm)])
 rw [zdg, hz] at h
 rw [h]; grind
theorem dt_sum {n : Nat} (A : Mx) {r : Nat} (hr : r < n) (f : Nat → Nat → Rat) (c : Nat → Rat) : ∀ m, dt n (zoc A r fun b => sg m fun l => c l * f l b) = sg m fun l => c l * dt n (zoc A r (f l))
 | 0 => by
   have e : (fun b => sg 0 fun l => c l * f l b) = fun _ => 0 := by funext b; rfl
   rw [e, dt_zero hr]; rfl
 | m + 1 => by
   have e : (fun b => sg (m + 1) fun l => c l * f l b) = fun b => (sg m fun l => c l * f l b) + c m * f m b := by funext b; rfl
   rw [e, zum A hr, dt_sum A hr f c m]; rfl
def pr : Nat → (Nat → Rat) → Rat
 | 0, _ => 1
 | n + 1, f => pr n f * f n
theorem pr_congr {n : Nat} {f g : Nat → Rat} (h : ∀ i, i < n → f i = g i) : pr n f = pr n g := by
 induction n with
 | zero => rfl
 | succ n ih => rw [pr, pr, ih (fun i hi => h i (by omega)), h n (by omega)]
theorem pr_first (n : Nat) (f : Nat → Rat) : pr (n + 1) f = f 0 * pr n fun i => f (i + 1) := by
 induction n with
 | zero => simp [pr]
 | succ n ih => rw [pr, ih, pr]; grind
theorem zql {n : Nat} {A : Mx} (h : ∀ i j, i < n → j < n → i ≠ j → A i j = 0) : dt n A = pr n fun i => A i i := by
 induction n generalizing A with
 | zero => rfl
 | succ n ih =>
   have e : dt (n + 1) A = sg (n + 1) fun i => if 0 = i then alt i * A i 0 * dt n (mnr A i) else 0 := zma fun i hi => by
    by_cases h0 : 0 = i
    ·rw [if_pos h0]
    ·rw [if_neg h0, h i 0 hi (by omega) (fun e => h0 e.symm)]; grind
   rw [e, zfd (show 0 < n + 1 by omega), pr_first, ih (A := mnr A 0) (fun i j hi hj hij => by
    unfold mnr; rw [if_neg (by omega)]; exact h _ _ (by omega) (by omega) (by omega))]
   have e2 : (pr n fun i => mnr A 0 i i) = pr n fun i => A (i + 1) (i + 1) := pr_congr fun i hi => by unfold mnr; rw [if_neg (by omega)]
   rw [e2]
   have : alt 0 = 1 := by decide +kernel
   rw [this]; grind
def dtB : Nat → Nat → Nat
 | 0, _ => 1
 | n + 1, m => (n + 1) * (m * dtB n m)
theorem over_alt {D B : Nat} {q : Rat} (i : Nat) (h : over D B q) : over D B (alt i * q) := by
 unfold alt; split
 ·rw [Rat.one_mul]; exact h
 ·have e : (-1 : Rat) * q = -q := by grind
  rw [e]; exact over.neg h
theorem dt_over {n D m : Nat} {A : Mx} (hD : D ≠ 0) (h : ∀ i j, i < n → j < n → over D m (A i j)) : over (D ^ n) (dtB n m) (dt n A) := by
 induction n generalizing A with
 | zero => exact ⟨1, by simp [dt]; decide +kernel, Nat.le_refl _⟩
 | succ n ih =>
   rw [dt, dtB]
   refine over.sg (Nat.ne_of_gt (Nat.pow_pos (Nat.pos_of_ne_zero hD))) fun i hi => ?_
   have h1 := ih (A := mnr A i) (fun a b ha hb => by unfold mnr; exact h _ _ (by split <;> omega) (by omega))
   have h2 := over.mul (over_alt i (h i 0 hi (by omega))) h1
   rw [Nat.pow_succ, Nat.mul_comm (D ^ n) D]
   exact h2
end Go.Proofs.YtlpdkbmmbdfoiaaGreat
