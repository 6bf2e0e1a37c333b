/-
  package drydockref01: times, Add, Sub, Mul.
-/
import Derived.Test.YtlpdkbmmbdfoiaaGreatFOwR
import Derived.Test.YtlpdkbmmbdfoiaaGreatFNa7
import Derived.Test.YtlpdkbmmbdfoiaaGreatFStep
import Derived.IntWalk
set_option linter.unusedVariables false
set_option linter.unusedSimpArgs false
namespace Go.Proofs.YtlpdkbmmbdfoiaaGreat
open Go.RowKit
structure zhb (B : Nat) (w w' : World) : Prop where
 size : w.heap.size ≤ w'.heap.size
 row : ∀ g, B ≤ g → g < w.heap.size → w'.heap[g]? = w.heap[g]?
 limb : ∀ p z, w.cell? p = some (.int .u32 z) → w'.cell? p = some (.int .u32 z)
theorem zhb.refl (B : Nat) (w : World) : zhb B w w := ⟨Nat.le_refl _, fun _ _ _ => rfl, fun _ _ h => h⟩
theorem zhb.trans {B : Nat} {a b c : World} (h : zhb B a b) (k : zhb B b c) : zhb B a c :=
 ⟨Nat.le_trans h.size k.size, fun g h1 h2 => (k.row g h1 (Nat.lt_of_lt_of_le h2 h.size)).trans (h.row g h1 h2), fun p z hp => k.limb p z (h.limb p z hp)⟩
theorem zhb.below {B : Nat} {w w' : World} (h : Below w.heap.size w w') : zhb B w w' := ⟨h.size, fun g _ h2 => h.block g h2, fun p z hp => zba h hp⟩
theorem zhb.set {B : Nat} {w : World} {p : Addr} {x : Value} (hp : p.block < B) (hc : w.cell? p = some x) (hx : ∀ z, x ≠ .int .u32 z) (u : Value) : zhb B w (w.setCell p u) := by
 refine ⟨by simp [World.setCell], fun g h1 h2 => Below.heap_setCell _ _ _ _ (by omega), fun q z hq => ?_⟩
 rw [World.cell?_setCell_other]
 ·exact hq
 ·intro e
  rw [← e, hc] at hq
  injection hq with hq
  exact hx _ hq
theorem zfc.moves {B : Nat} {w w' : World} {v : Value} {l : List Nat} (h : zfc w v l) (hm : zhb B w w') : zfc w' v l := ⟨h.sl, h.len, fun j hj => hm.limb _ _ (h.cell j hj), h.lm⟩
theorem zjb.moves {B : Nat} {w w' : World} {v : Value} {n : Nat} (h : zjb w v n) (hm : zhb B w w') : zjb w' v n := ⟨h.v.moves hm, h.2⟩
theorem zqa.moves {B : Nat} {w w' : World} {v : Value} {q : Rat} (h : zqa w v q) (hm : zhb B w w') : zqa w' v q := by
 obtain ⟨a, b, rfl, h1, h2⟩ := h; exact ⟨a, b, rfl, h1.moves hm, h2.moves hm⟩
theorem zlc.moves {B B' : Nat} {w w' : World} {e : TypeId} {size n : Nat} {v : Value} {xs : List Value} (h : zlc w e B' size v n xs) (hm : zhb B w w') (hB : B ≤ B') : zlc w' e B' size v n xs := by
 have hlt := h.block
 refine ⟨⟨h.own.1, ?_⟩, fun g hg cur e' fz hc => ?_⟩
 ·rcases h.own.2 with ⟨rfl, h0⟩ | ⟨g, cap, cur, rfl, hb, hg, rest⟩
  ·exact .inl ⟨rfl, h0⟩
  ·refine .inr ⟨g, cap, cur, rfl, hb, ?_, rest⟩
   rw [hm.row g (Nat.le_trans hB hb) (hlt g rfl).2]; exact hg
 ·obtain ⟨h1, h2⟩ := hlt g hg
  rw [hm.row g (Nat.le_trans hB h1) h2] at hc
  exact h.nl g hg cur e' fz hc
theorem zlc.kinds {w : World} {e e' : TypeId} {B B' size size' n n' : Nat} {v v' : Value} {xs xs' : List Value} (h : zlc w e B size v n xs) (h' : zlc w e' B' size' v' n' xs') (hne : e ≠ e') : v.ownBlock = none ∨ v.ownBlock ≠ v'.ownBlock := by
 cases hv : v.ownBlock with
 | none => exact Or.inl rfl
 | some g =>
   refine Or.inr (fun he => ?_)
   obtain ⟨c, fz, h1⟩ := Lib.ownsRow_kind h.own g hv
   obtain ⟨c', fz', h2⟩ := Lib.ownsRow_kind h'.own g he.symm
   rw [h1] at h2
   injection h2 with h2
   injection h2 with _ h2
   exact hne h2
def zwe (w : World) (xs : List Value) (q : List Rat) : Prop :=
 ∀ (j : Nat) (h : j < q.length), ∃ a b, xs[j * 3]? = some (.bool (decide (q[j] < 0))) ∧ xs[j * 3 + 1]? = some a ∧ xs[j * 3 + 2]? = some b ∧ zjb w a q[j].num.natAbs ∧ zjb w b q[j].den
def zya (w : World) (e : TypeId) (B : Nat) (v : Value) (q : List Rat) : Prop := ∃ xs, zlc w e B 3 v q.length xs ∧ zwe w xs q
section
variable {w : World} {e : TypeId} {B : Nat} {v : Value} {q : List Rat}
theorem zya.nil (w : World) (e : TypeId) (B : Nat) : zya w e B (.slice none 0 0) [] := ⟨[], zlc.nil _ _ _ _, fun j h => by simp at h⟩
theorem zya.fracs (h : zya w e B v q) : zbb w v q := by
 obtain ⟨xs, h1, h2⟩ := h
 refine ⟨h1.sl, h1.len, fun j hj => ?_⟩
 obtain ⟨a, b, e1, e2, e3, e4, e5⟩ := h2 j hj
 have hc : ∀ i u, xs[i]? = some u → w.cell? (ptr v i) = some u := fun i u hi => by
  obtain ⟨h6, h7⟩ := List.getElem?_eq_some_iff.1 hi
  rw [h1.cell i h6, h7]
 exact ⟨a, b, hc _ _ e1, hc _ _ e2, hc _ _ e3, e4, e5⟩
theorem zya.sl (h : zya w e B v q) : zgc v := h.fracs.sl
theorem zya.block (h : zya w e B v q) : ∀ k, v.ownBlock = some k → B ≤ k ∧ k < w.heap.size := by obtain ⟨xs, h1, _⟩ := h; exact h1.block
theorem zya.moves {B' : Nat} {w' : World} (h : zya w e B v q) (hm : zhb B' w w') (hB : B' ≤ B) : zya w' e B v q := by
 obtain ⟨xs, h1, h2⟩ := h
 refine ⟨xs, h1.moves hm hB, fun j hj => ?_⟩
 obtain ⟨a, b, e1, e2, e3, e4, e5⟩ := h2 j hj
 exact ⟨a, b, e1, e2, e3, e4.moves hm, e5.moves hm⟩
theorem zwe.grown {w' : World} {u : Value} {xs : List Value} (h2 : zwe w xs q) (hg : w.grownBy w' u.ownBlock) (hn : zlb w u) : zwe w' xs q := fun j hj => by
 obtain ⟨a, b, e1, e2, e3, e4, e5⟩ := h2 j hj
 exact ⟨a, b, e1, e2, e3, e4.grown hg hn, e5.grown hg hn⟩
theorem zya.grown {w' : World} {u : Value} (h : zya w e B v q) (hg : w.grownBy w' u.ownBlock) (hn : zlb w u) (hne : v.ownBlock = none ∨ v.ownBlock ≠ u.ownBlock) : zya w' e B v q := by
 obtain ⟨xs, h1, h2⟩ := h
 exact ⟨xs, h1.grown hg hne, h2.grown hg hn⟩
theorem zya.mono {B' : Nat} (h : zya w e B v q) (hB : B' ≤ B) : zya w e B' v q := by
 obtain ⟨xs, h1, h2⟩ := h
 refine ⟨xs, ⟨⟨h1.own.1, ?_⟩, h1.nl⟩, h2⟩
 rcases h1.own.2 with h | ⟨g, cap, cur, rfl, hb, rest⟩
 ·exact .inl h
 ·exact .inr ⟨g, cap, cur, rfl, by omega, rest⟩
theorem zwe.snoc {xs : List Value} (h2 : zwe w xs q) (hl : xs.length = q.length * 3) {x y z : Value} {r : Rat} (hf : zqa w (.agg #[x, y, z]) r) : zwe w (xs ++ [x, y, z]) (q ++ [r]) := by
 intro j hj
 obtain ⟨a, b, ha, h4, h5⟩ := hf
 injection ha with ha
 injection ha with ha
 simp only [List.cons.injEq, and_true] at ha
 obtain ⟨rfl, rfl, rfl⟩ := ha
 rcases Nat.lt_or_ge j q.length with h | h
 ·obtain ⟨a, b, e1, e2, e3, e4, e5⟩ := h2 j h
  rw [List.getElem_append_left h]
  exact ⟨a, b, by rw [List.getElem?_append_left (by omega)]; exact e1, by rw [List.getElem?_append_left (by omega)]; exact e2, by rw [List.getElem?_append_left (by omega)]; exact e3, e4, e5⟩
 ·obtain rfl : j = q.length := by simp at hj; omega
  have e0 : (q ++ [r])[q.length]'hj = r := by simp
  rw [e0, ← hl]
  refine ⟨y, z, ?_, ?_, ?_, h4, h5⟩
  ·rw [List.getElem?_append_right (Nat.le_refl _)]; simp
  ·rw [List.getElem?_append_right (by omega)]; simp
  ·rw [List.getElem?_append_right (by omega)]; simp
end
theorem zpp {P : Program} (t e : TypeId) (i : TypeInfo) (ht : P.underlying t = some (.slice e)) (hi : P.info? e = some i) (hz : i.zero = some (.agg #[.bool false, .slice none 0 0, .slice none 0 0])) (hsize : i.size = 3) (hby : i.bytes = 56)
 (w0 : World) {ops : Array Oper} {rest : List Oper} {o : Oper} {a : Act} {Q : Exit → Act → World → Prop} (hgd : o.guard = none) (s x : Operand)
 (ho : o.op = .call { callee := .builtin .append, args := #[s, x], argTypes := #[t, t] }) (B : Nat) (e' : TypeId)
 (v : Value) (q : List Rat) (hs : a.eval s = v) (hown : zya w0 e B v q) (c0 c1 c2 : Value) (r : Rat) (hf : zqa w0 (.agg #[c0, c1, c2]) r) (hxe : a.eval x = .slice (some ⟨w0.heap.size, 0, none⟩) 1 1) (hn : q.length ≤ 1000) (hbase : B ≤ w0.heap.size)
 (h : ∀ v' w', zya w' e B v' (q ++ [r]) → w0.grownBy w' v.ownBlock → zlb w0 v → (v'.ownBlock = v.ownBlock ∨ v'.ownBlock = some (w0.heap.size + 1)) → zgc v' → wpList P ops Q rest (a.put o.dst v') w') :
 wpList P ops Q (o :: rest) a (w0.alloc (.cells #[c0, c1, c2] e')) := by
 obtain ⟨xs, h1, h2⟩ := hown
 have hl : xs.length = q.length * 3 := h1.clen
 have hf2 := hf
 obtain ⟨a1, b1, ha, h4, h5⟩ := hf2
 injection ha with ha
 injection ha with ha
 simp only [List.cons.injEq, and_true] at ha
 obtain ⟨rfl, rfl, rfl⟩ := ha
 obtain ⟨p1, p2, p3, rfl, _⟩ := h4.v.sl
 obtain ⟨s1, s2, s3, rfl, _⟩ := h5.v.sl
 refine zwf w0 hgd s x t ho B e e' i _ 3 56 ht hi hz hsize hby rfl (by decide) (fun c hc z => by
  have hc2 : c ∈ [Value.bool false, .slice none 0 0, .slice none 0 0] := hc
  simp at hc2; rcases hc2 with rfl | rfl <;> simp) v q.length xs hs h1 #[.bool (decide (r < 0)), .slice p1 p2 p3, .slice s1 s2 s3] rfl hxe
  (fun u hu => by simp at hu; rcases hu with rfl | rfl | rfl <;> rfl) (fun u hu z => by simp at hu; rcases hu with rfl | rfl | rfl <;> simp) (by simp [maxLen]; omega) (by omega) hbase ?_
 intro v' w' k1 k2 k3
 refine h v' w' ⟨_, ?_, (zwe.snoc (r := r) h2 hl hf).grown k2 h1.nl⟩ k2 h1.nl k3 k1.sl
 rw [List.length_append]
 exact k1
theorem zxl {P : Program} (t e : TypeId) (i : TypeInfo) (z : Value) (bytes : Nat) (ht : P.underlying t = some (.slice e)) (hi : P.info? e = some i) (hz : i.zero = some z) (hsize : i.size = 1) (hby : i.bytes = bytes) (hby2 : bytes ≤ 64) (hzc : z.cells = #[z]) (hzn : ∀ k, z ≠ .int .u32 k)
 (w0 : World) {ops : Array Oper} {rest : List Oper} {o : Oper} {a : Act} {Q : Exit → Act → World → Prop} (hgd : o.guard = none) (s x : Operand)
 (ho : o.op = .call { callee := .builtin .append, args := #[s, x], argTypes := #[t, t] }) (B : Nat) (e' : TypeId)
 (v : Value) (xs : List Value) (hs : a.eval s = v) (hown : zlc w0 e B 1 v xs.length xs) (c : Value) (hc1 : c.oneCell' = true) (hcn : ∀ k, c ≠ .int .u32 k) (hxe : a.eval x = .slice (some ⟨w0.heap.size, 0, none⟩) 1 1) (hn : xs.length ≤ 1000) (hbase : B ≤ w0.heap.size)
 (h : ∀ v' w', zlc w' e B 1 v' (xs ++ [c]).length (xs ++ [c]) → w0.grownBy w' v.ownBlock → zlb w0 v → (v'.ownBlock = v.ownBlock ∨ v'.ownBlock = some (w0.heap.size + 1)) → zgc v' → wpList P ops Q rest (a.put o.dst v') w') :
 wpList P ops Q (o :: rest) a (w0.alloc (.cells #[c] e')) := by
 refine zwf w0 hgd s x t ho B e e' i _ 1 bytes ht hi hz hsize hby (by rw [hzc]; rfl) (by decide) (fun d hd => by rw [hzc] at hd; simp at hd; subst hd; exact hzn) v xs.length xs hs hown #[c] rfl hxe
  (fun u hu => by simp at hu; subst hu; exact hc1) (fun u hu z => by simp at hu; subst hu; exact hcn z) (by simp [maxLen]; omega) (by have : (xs.length + 1) * bytes ≤ 1001 * 64 := Nat.mul_le_mul (by omega) hby2; omega) hbase ?_
 intro v' w' k1 k2 k3
 refine h v' w' ?_ k2 hown.nl k3 k1.sl
 rw [List.length_append]
 exact k1
theorem zqb.frRow {w : World} {e : TypeId} {B n : Nat} {v : Value} {q : List Rat} (h : zqb w e B v n) (hl : q.length = n) (he : ∀ j (hj : j < q.length), zlg w v j q[j]) : zya w e B v q := by
 obtain ⟨g, cs, rfl, h1, h2⟩ := id h
 have hcl : cs.length = n * 3 := h1.1
 refine ⟨cs, ⟨by rw [hl]; exact h1, ?_⟩, fun j hj => ?_⟩
 ·intro g' hg' cur e' fz hc c hcc z
  rcases h1.2 with ⟨h', _⟩ | ⟨g2, cap, cur2, h', hb, hg, _, _, hs, ht⟩
  ·cases h'
  ·injection h' with h4 h5 h6
   injection h4 with h4
   injection h4 with h4
   subst h4
   simp only [Value.ownBlock, Option.some.injEq] at hg'
   subst hg'
   rw [hc] at hg
   injection hg with hg
   injection hg with hg _ _
   subst hg
   have e9 : cur.toList = cs := by
    rw [← ht]
    exact (List.take_of_length_le (by rw [Array.length_toList, hs, ← h6]; exact Nat.le_refl _)).symm
   exact h2 c (by rw [← e9]; exact hcc) z
 ·obtain ⟨a, b, e1, e2, e3, e4, e5⟩ := he j hj
  have hc : ∀ i u, i < cs.length → w.cell? (Go.Proofs.YtlpdkbmmbdfoiaaGreat.ptr (.slice (some ⟨g, 0, none⟩) n n) i) = some u → cs[i]? = some u := fun i u hi hu => by
   have := World.ownsRow.cellAt h1 i (by omega)
   simp only [Go.Proofs.YtlpdkbmmbdfoiaaGreat.ptr, base, Addr.add_lit, Nat.zero_add] at hu
   rw [hu] at this
   exact this.symm
  exact ⟨a, b, hc _ _ (by omega) e1, hc _ _ (by omega) e2, hc _ _ (by omega) e3, e4, e5⟩
def RNatO (w0 : World) (n : Nat) (e : Ending) (w : World) : Prop := ∃ r, e = .returned r ∧ zcc w 142 w0.heap.size r (zla n) ∧ zda n ≤ 4294967296 ∧ Below w0.heap.size w0 w
theorem RNatO.nat {w0 : World} {n : Nat} {e : Ending} {w : World} (h : RNatO w0 n e w) : RNat w0 n e w := by
 obtain ⟨r, h1, h2, h3, h4⟩ := h; exact ⟨r, h1, ⟨h2.nat, h3⟩, h4⟩
theorem zaf (l : List Nat) (j : Nat) (hj : j < l.length) : l.getD j 0 = l[j] := by simp [List.getD, hj]
set_option maxHeartbeats 400000 in
theorem zjk (v : Value) (n : Nat) (w : World) (h : zob w v n) :
 Calls Tryz.prog 106 #[v] w (RNatO w n) := by
 obtain ⟨l, hl, HE, hll⟩ := h
 have hs := hl.sl
 have hlen := hl.len
 have hle := hs.le
 have hcan := hl.can hll
 rw [HE] at hcan
 have hce : clen l = zda n := by rw [zhj hl.lm, HE]
 have hcl := zsb hl.lm
 rw [HE] at hcl
 have HCE := zH hce
 clear HE hce
 have HLL := zH hll
 clear hll
 have hcs : zda n ≤ scap v := by omega
 obtain ⟨i0, hi, hz0, hz1, hz2⟩ := info_parts Tryz.info102
 have hroom : ([] : List Nat).length + (zla n).length ≤ 35184372088832 := by have := hcan.2; unfold zda at this; simp; omega
 have hA := zkj (P := Tryz.prog) 36 142 i0 Tryz.underlying36 hi hz0 hz1 hz2
 have HR := zH hroom
 have HN := zH hcan
 clear hroom hcan hi hz0 hz1 hz2
 go_enter Tryz.func106, Tryz.ntmps106
 go_wp2
 go_loop [3] (fun i => ∃ k : Nat, k ≤ l.length ∧ i = .int .i64 k ∧ clen (l.take k) = clen l) (fun i => (intOf i).toNat)
 case atStart => exact ⟨l.length, Nat.le_refl _, by simp [hlen], by rw [List.take_length]⟩
 case round =>
  obtain ⟨k, hk, rfl, hce⟩ := hrel
  have HC := zH hce; clear hce
  by_cases h1 : 0 < k ∧ l.getD (k - 1) 0 = 0
  ·obtain ⟨h0, hx⟩ := h1
   obtain ⟨j, rfl⟩ : ∃ j, k = j + 1 := ⟨k - 1, by omega⟩
   have hj : j < l.length := by omega
   rw [Nat.add_sub_cancel, zaf _ _ hj] at hx
   have hc := hl.cell j hj
   have HZ := zH (zbf l j hj hx)
   rw [hx] at hc
   clear hx
   go_wp2_with fail
   go_round
   case rel => exact ⟨j, by omega, rfl, by rw [← HC.out, HZ.out]⟩
   case measure => simp [intOf]
  ·have e : zda n = k := by
    rw [← HCE.out, ← HC.out]
    by_cases h0 : 0 < k
    ·obtain ⟨j, rfl⟩ : ∃ j, k = j + 1 := ⟨k - 1, by omega⟩
     have hj : j < l.length := by omega
     exact zki l j hj (fun hx => h1 ⟨h0, by rw [Nat.add_sub_cancel, zaf _ _ hj, hx]⟩)
    ·obtain rfl : k = 0 := by omega
     rfl
   rw [e] at HN hcs hcl
   have hc : 0 < k → ∃ x : Nat, w.cell? (ptr v (k - 1)) = some (.int .u32 x) ∧ (((x : Nat) : Int) == 0) = false := fun h0 => by
    have hj : k - 1 < l.length := by omega
    refine ⟨_, hl.cell (k - 1) hj, ?_⟩
    have : l[k - 1] ≠ 0 := fun hx => h1 ⟨h0, by rw [zaf _ _ hj, hx]⟩
    have : ((l[k - 1] : Nat) : Int) ≠ 0 := by omega
    simpa using this
   clear h1 e
   rcases Nat.eq_zero_or_pos k with h0 | h0
   ·clear hc
    subst h0
    go_wp2_with (at_builtin; refine hA w rfl _ _ rfl w.heap.size _ [] rfl (zcc.nil _ _ _) _ rfl (zla n) HN.out.1 HR.out (Nat.le_refl _) ?_; intro v' w1 hown _ hbel)
    go_ret
    exact ⟨v', rfl, by simpa using hown, HN.out.2, hbel⟩
   ·obtain ⟨x, hx, hx3⟩ := hc h0
    clear hc
    go_wp2_with (at_builtin; refine hA w rfl _ _ rfl w.heap.size _ [] rfl (zcc.nil _ _ _) _ rfl (zla n) HN.out.1 HR.out (Nat.le_refl _) ?_; intro v' w1 hown _ hbel)
    go_ret
    exact ⟨v', rfl, by simpa using hown, HN.out.2, hbel⟩
theorem zra (v : Value) (n : Nat) (w : World) (h : zob w v n) :
 Calls Tryz.prog 106 #[v] w (RNat w n) := (zjk v n w h).mono fun _ _ h => h.nat
set_option maxHeartbeats 400000 in
theorem zkd (n : Nat) (hn : n < 18446744073709551616) (w : World) :
 Calls Tryz.prog 72 #[.int .u64 n] w (RNat w n) := by
 have HN := zal w 142 (n % 4294967296) (n / 4294967296) (by omega) (by omega)
 rw [show ((n % 4294967296 : Nat) : Int) = (n : Int) % 4294967296 from by omega, show ((n / 4294967296 : Nat) : Int) = (n : Int) / 4294967296 from by omega] at HN
 have hv : val [n % 4294967296, n / 4294967296] = n := by simp [val]; omega
 have HL := HN.natN (by simp)
 rw [hv] at HL
 have HT := zH (zra _ _ _ HL)
 have HB := zH ((Below.refl w.heap.size w).alloc (Nat.le_refl _) (.cells #[.int .u32 ((n : Int) % 4294967296), .int .u32 ((n : Int) / 4294967296)] 142))
 clear HN hv HL
 go_enter Tryz.func72, Tryz.ntmps72
 go_wp2_with (go_at_call 106; refine HT.out.mono ?_; rintro e w1 ⟨r, rfl, hr, hb⟩)
 go_ret
 exact ⟨_, rfl, hr, HB.out.trans (hb.mono HB.out.size)⟩
theorem zti (v : Value) (n : Nat) (w : World) (h : zob w v n) :
 Calls Tryz.prog 152 #[v] w fun e w' => e = .returned (.bool (decide (512 < zda n))) ∧ Below w.heap.size w w' := by
 go_enter Tryz.func152, Tryz.ntmps152
 go_wp2_with (go_at_call 106; refine (zra v n _ h).mono ?_; rintro e w1 ⟨r, rfl, hr, hb⟩; have h1 := hr.1.sl; have h2 : slen r = zda n := hr.1.len)
 go_ret
 exact ⟨by congr 2; simp; omega, hb⟩
theorem zyc (v : Value) (n : Nat) (w : World) (h : zob w v n) (hn : zda n ≤ 512) :
 Calls Tryz.prog 152 #[v] w fun e w' => e = .returned (.bool false) ∧ Below w.heap.size w w' :=
 (zti v n w h).mono fun e w' ⟨h1, h2⟩ => ⟨by rw [h1, decide_eq_false (by omega)], h2⟩
set_option maxHeartbeats 800000 in
theorem zee (va vb : Value) (m n : Nat) (w : World) (ha : zob w va m) (hb : zob w vb n) :
 Calls Tryz.prog 77 #[va, vb] w fun e w' => e = .returned (.int .i64 (zfj m n)) ∧ Below w.heap.size w w' := by
 go_enter Tryz.func77, Tryz.ntmps77
 go_wp2_with (go_at_call 106; first
  |((with_reducible refine (zra va m _ ha).mono ?_); rintro e w1 ⟨ra, rfl, hra, hb1⟩)
  |((with_reducible refine (zra vb n _ (hb.below hb1)).mono ?_); rintro e w2 ⟨rb, rfl, hrb, hb2⟩
    have h1 := (hra.below hb2).1.sl
    have h2 : slen ra = zda m := (hra.below hb2).1.len
    have h3 := hrb.1.sl
    have h4 : slen rb = zda n := hrb.1.len
    have h5 : zda m ≤ 4294967296 := hra.2))
 ·go_ret
  exact ⟨by rw [zkg (zug (by assumption))]; rfl, hb1.trans (hb2.mono hb1.size)⟩
 ·have hne : ((zda m : Nat) : Int) ≠ zda n := by simpa using ‹((zda m : Int) != (zda n : Int)) = true›
  have hlt : ¬ zda m < zda n := by assumption
  go_ret
  exact ⟨by rw [zul (zug (by omega))]; rfl, hb1.trans (hb2.mono hb1.size)⟩
 ·have he : zda m = zda n := by
   have : ((zda m : Nat) : Int) = zda n := by simpa using ‹((zda m : Int) != (zda n : Int)) = false›
   omega
  have HB := zH (hb1.trans (hb2.mono hb1.size))
  have ca := (hra.below hb2).1.cell
  have cb := hrb.1.cell
  have hln := hrb.2
  clear ha hb hb1 hb2 hra hrb
  have HE := zH he
  rw [← he] at hln
  clear he
  go_loopw [5] (fun i wr => ∃ k q : Nat, k ≤ zda m ∧ i = .int .i64 ((k : Int) - 1) ∧ (zla m).drop k = (zla n).drop k ∧ wr = w2.drewN q) (fun i _ => (intOf i + 1).toNat)
  case atStart => exact ⟨zda m, 0, Nat.le_refl _, by simp, by rw [List.drop_of_length_le (show zda m ≤ zda m from Nat.le_refl _), List.drop_of_length_le (show zda n ≤ zda m by have := HE.out; omega)], rfl⟩
  case round =>
   obtain ⟨k, q, hk, rfl, hd, rfl⟩ := hrel
   have HD := zH hd
   clear hd
   by_cases hk0 : 0 < k
   ·obtain ⟨j, rfl⟩ : ∃ j, k = j + 1 := ⟨k - 1, by omega⟩
    have hj1 : j < zda m := by omega
    have hj2 : j < zda n := by have := HE.out; omega
    have h7 := ca j hj1
    have h8 := cb j hj2
    have hlt := zde (zrb m) j hj1 hj2 HD.out
    have hgt := zde (zrb n) j hj2 hj1 HD.out.symm
    have heq := zvm j hj1 hj2 HD.out
    rw [zha, zha] at hlt hgt
    clear ca cb HD
    generalize (zla m)[j]'hj1 = x at *
    generalize (zla n)[j]'hj2 = y at *
    have HL := zH hlt
    have HG := zH hgt
    have HQ := zH heq
    clear hlt hgt heq
    by_cases hxy : x < y
    ·go_wp2
     go_quiet (fail)
     go_wp2
     go_ret
     exact ⟨by rw [zkg (HL.out hxy)]; rfl, by first | exact HB.out.trans ((zka _ _).mono HB.out.size) | (simp only [World.drewN_drewN]; exact HB.out.trans ((zka _ _).mono HB.out.size))⟩
    ·by_cases hyx : y < x
     ·go_wp2
      go_quiet (fail)
      go_wp2
      go_quiet (fail)
      go_wp2
      go_ret
      exact ⟨by rw [zul (HG.out hyx)]; rfl, by first | exact HB.out.trans ((zka _ _).mono HB.out.size) | (simp only [World.drewN_drewN]; exact HB.out.trans ((zka _ _).mono HB.out.size))⟩
     ·go_wp2
      go_quiet (fail)
      go_wp2
      go_quiet (fail)
      go_wp2
      go_roundw
      case rel => exact ⟨j, _, by omega, by go_num, HQ.out (by omega), by first | rfl | (simp only [World.drewN_drewN]; rfl)⟩
      case measure => simp [intOf]
   ·obtain rfl : k = 0 := by omega
    have hmn : m = n := zhg (by simpa using HD.out)
    have HM := zH hmn
    clear hmn
    go_wp2
    go_ret
    exact ⟨by rw [cmpN_eq HM.out]; rfl, HB.out.trans ((zka _ _).mono HB.out.size)⟩
theorem zmf (l : List Nat) (k : Nat) : val (l.take (k + 1)) = val (l.take k) + pw k * l.getD k 0 := by
 by_cases h : k < l.length
 ·rw [zia l k h, zaf l k h]
 ·rw [zza l (k + 1) (by omega), zza l k (by omega)]
  have : l.getD k 0 = 0 := by simp [List.getD, List.getElem?_eq_none (Nat.le_of_not_lt h)]
  rw [this, Nat.mul_zero, Nat.add_zero]
theorem zmh (o : List Nat) (z : Nat) : val (o ++ [z]) = val o + pw o.length * z := by rw [zac]; simp [val]
theorem zwh {o a b : List Nat} {k c x y : Nat} (ho : o.length = k) (ha : val (a.take (k + 1)) = val (a.take k) + pw k * x) (hb : val (b.take (k + 1)) = val (b.take k) + pw k * y)
 (hv : val o + pw k * c = val (a.take k) + val (b.take k)) :
 val (o ++ [(c + x + y) % 4294967296]) + pw (k + 1) * ((c + x + y) / 4294967296) = val (a.take (k + 1)) + val (b.take (k + 1)) := by
 rw [zmh, ha, hb, zmb, ho]
 have h : (c + x + y) % 4294967296 + 4294967296 * ((c + x + y) / 4294967296) = c + x + y := by omega
 generalize (c + x + y) % 4294967296 = z at *
 generalize (c + x + y) / 4294967296 = d at *
 grind
set_option maxHeartbeats 1000000 in
theorem plus_any (va vb : Value) (a b : List Nat) (w : World) (ha : zfc w va a) (hb : zfc w vb b) (hla : a.length ≤ 65536) (hlb : b.length ≤ 65536) :
 Calls Tryz.prog 153 #[va, vb] w (RNat w (val a + val b)) := by
 obtain ⟨i0, hi, hz0, hz1, hz2⟩ := info_parts Tryz.info102
 have hA1 := zuf (P := Tryz.prog) 36 142 i0 Tryz.underlying36 hi hz0 hz1 hz2
 clear hi hz0 hz1 hz2
 have sa := ha.sl
 have sb := hb.sl
 have la := ha.len
 have lb := hb.len
 go_enter Tryz.func153, Tryz.ntmps153
 go_wp2_with fail
 go_loopw [5, 6, 7] (fun u5 u6 u7 wr => ∃ (k c : Nat) (o : List Nat), k ≤ 65537 ∧ (c = 0 ∨ k ≤ a.length ∨ k ≤ b.length) ∧ u7 = .int .i64 k ∧ u6 = .int .u64 c ∧ c ≤ 1 ∧ zcc wr 142 w.heap.size u5 o ∧ o.length = k ∧
  val o + pw k * c = val (a.take k) + val (b.take k) ∧ Below w.heap.size w wr) (fun _ u6 u7 _ => 2 * (a.length + b.length + 1 - (intOf u7).toNat) + (intOf u6).toNat)
 case atStart => exact ⟨0, 0, [], by omega, Or.inl rfl, rfl, rfl, by omega, zcc.nil _ _ _, rfl, by simp [val], Below.refl _ _⟩
 case round =>
  obtain ⟨k, c, o, hkb, hk, rfl, rfl, hc, hownr, hol, hval, hbr⟩ := hrel
  have HOL := zH hol
  have HV := zH hval
  have HK := zH hk
  have HO : Hid (o.length + 1 ≤ 4294967296) := zH (by omega)
  clear hol hval hk
  by_cases h1 : k < a.length
  ·have hx := (ha.below hbr).cell k h1
   have hx1 := ha.lt k h1
   have HX := zH (zia a k h1)
   generalize a[k] = x at *
   have HK1 : Hid ((c + x + 0) / 4294967296 = 0 ∨ k + 1 ≤ a.length ∨ k + 1 ≤ b.length) := zH (by omega)
   by_cases h2 : k < b.length
   ·have hy := (hb.below hbr).cell k h2
    have hy1 := hb.lt k h2
    have HY := zH (zia b k h2)
    generalize b[k] = y at *
    have HS := zH (zwh HOL.out HX.out HY.out HV.out)
    have HK1 : Hid ((c + x + y) / 4294967296 = 0 ∨ k + 1 ≤ a.length ∨ k + 1 ≤ b.length) := zH (by omega)
    go_wp2_with (at_builtin; refine hA1 wr rfl _ _ rfl w.heap.size _ u5 o rfl (by exact hownr) _ ((c + x + y) % 4294967296) (by omega) (by omega) rfl (Nat.le_trans HO.out (by decide)) hbr.size ?_; intro v' w1 hown1 hbel1)
    go_roundw
    case rel => exact ⟨k + 1, (c + x + y) / 4294967296, _, by have := HK.out; omega, HK1.out, by go_num, by go_num, by omega, hown1, by simp [HOL.out], HS.out, hbr.trans (hbel1.mono (Nat.le_refl _))⟩
    case measure => simp [intOf]; omega
   ·have HS := zH (zwh (y := 0) HOL.out HX.out (by rw [zza b (k + 1) (by omega), zza b k (by omega)]; simp) HV.out)
    go_wp2_with (at_builtin; refine hA1 wr rfl _ _ rfl w.heap.size _ u5 o rfl (by exact hownr) _ ((c + x + 0) % 4294967296) (by omega) (by omega) rfl (Nat.le_trans HO.out (by decide)) hbr.size ?_; intro v' w1 hown1 hbel1)
    go_roundw
    case rel => exact ⟨k + 1, (c + x + 0) / 4294967296, _, by have := HK.out; omega, HK1.out, by go_num, by go_num, by omega, hown1, by simp [HOL.out], HS.out, hbr.trans (hbel1.mono (Nat.le_refl _))⟩
    case measure => simp [intOf]; omega
  ·by_cases h2 : k < b.length
   ·have hy := (hb.below hbr).cell k h2
    have hy1 := hb.lt k h2
    have HY := zH (zia b k h2)
    generalize b[k] = y at *
    have HS := zH (zwh (x := 0) HOL.out (by rw [zza a (k + 1) (by omega), zza a k (by omega)]; simp) HY.out HV.out)
    have HK1 : Hid ((c + 0 + y) / 4294967296 = 0 ∨ k + 1 ≤ a.length ∨ k + 1 ≤ b.length) := zH (by omega)
    go_wp2_with (at_builtin; refine hA1 wr rfl _ _ rfl w.heap.size _ u5 o rfl (by exact hownr) _ ((c + 0 + y) % 4294967296) (by omega) (by omega) rfl (Nat.le_trans HO.out (by decide)) hbr.size ?_; intro v' w1 hown1 hbel1)
    go_roundw
    case rel => exact ⟨k + 1, (c + 0 + y) / 4294967296, _, by have := HK.out; omega, HK1.out, by go_num, by go_num, by omega, hown1, by simp [HOL.out], HS.out, hbr.trans (hbel1.mono (Nat.le_refl _))⟩
    case measure => simp [intOf]; omega
   ·have e1 := zza a k (by omega)
    have e2 := zza b k (by omega)
    have f1 := zza a (k + 1) (by omega)
    have f2 := zza b (k + 1) (by omega)
    by_cases hc0 : 0 < c
    ·obtain rfl : c = 1 := by omega
     have HS := zH (zwh (x := 0) (y := 0) HOL.out (by rw [e1, f1]; simp) (by rw [e2, f2]; simp) HV.out)
     have HK1 : Hid ((1 + 0 + 0) / 4294967296 = 0 ∨ k + 1 ≤ a.length ∨ k + 1 ≤ b.length) := zH (Or.inl rfl)
     clear e1 e2 f1 f2
     go_wp2_with (at_builtin; refine hA1 wr rfl _ _ rfl w.heap.size _ u5 o rfl (by exact hownr) _ ((1 + 0 + 0) % 4294967296) (by omega) (by omega) rfl (Nat.le_trans HO.out (by decide)) hbr.size ?_; intro v' w1 hown1 hbel1)
     go_roundw
     case rel => exact ⟨k + 1, (1 + 0 + 0) / 4294967296, _, by have := HK.out; omega, HK1.out, by go_num, by go_num, by omega, hown1, by simp [HOL.out], HS.out, hbr.trans (hbel1.mono (Nat.le_refl _))⟩
     case measure => simp [intOf]; omega
    ·obtain rfl : c = 0 := by omega
     have hv : val o = val a + val b := by have := HV.out; rw [e1, e2] at this; omega
     have HT := zra _ _ wr (hownr.nat.natN (by have := HO.out; omega))
     rw [hv] at HT
     have HT2 := zH HT
     clear HT hv e1 e2 f1 f2
     go_wp2_with (go_at_call 106; refine HT2.out.mono ?_; rintro e w1 ⟨r, rfl, hr, hb⟩)
     go_ret
     exact ⟨r, rfl, hr, hbr.trans (hb.mono hbr.size)⟩
theorem ztg {o a b : List Nat} {k bo x y z bo' : Nat} (ho : o.length = k) (ha : val (a.take (k + 1)) = val (a.take k) + pw k * x) (hb : val (b.take (k + 1)) = val (b.take k) + pw k * y)
 (hz : z + bo + y = x + 4294967296 * bo') (hv : val o + val (b.take k) = val (a.take k) + pw k * bo) :
 val (o ++ [z]) + val (b.take (k + 1)) = val (a.take (k + 1)) + pw (k + 1) * bo' := by
 rw [zmh, ha, hb, zmb, ho]
 grind
theorem minus_end {o a b : List Nat} {bo : Nat} (hb : val b ≤ val a) (ho : Lm o) (hol : o.length = a.length) (hbo : bo ≤ 1) (hv : val o + val b = val a + pw a.length * bo) : val o = val a - val b := by
 have h1 := zoe ho
 rw [hol] at h1
 rcases Nat.eq_zero_or_pos bo with h | h
 ·subst h; omega
 ·obtain rfl : bo = 1 := by omega
  omega
set_option maxHeartbeats 1000000 in
theorem zdl (va vb : Value) (a b : List Nat) (w : World) (ha : zfc w va a) (hb : zfc w vb b) (hla : a.length ≤ 65536) (hlb : b.length ≤ a.length) (hba : val b ≤ val a) :
 Calls Tryz.prog 155 #[va, vb] w (RNatO w (val a - val b)) := by
 obtain ⟨i0, hi, hz0, hz1, hz2⟩ := info_parts Tryz.info102
 have hA1 := zuf (P := Tryz.prog) 36 142 i0 Tryz.underlying36 hi hz0 hz1 hz2
 clear hi hz0 hz1 hz2
 have HBA := zH hba
 clear hba
 have sa := ha.sl
 have sb := hb.sl
 have la := ha.len
 have lb := hb.len
 go_enter Tryz.func155, Tryz.ntmps155
 go_wp2_with fail
 go_loopw [5, 6, 7] (fun u5 u6 u7 wr => ∃ (k bo : Nat) (o : List Nat), k ≤ a.length ∧ u7 = .int .i64 k ∧ u6 = .int .u64 bo ∧ bo ≤ 1 ∧ zcc wr 142 w.heap.size u5 o ∧ o.length = k ∧
  val o + val (b.take k) = val (a.take k) + pw k * bo ∧ Below w.heap.size w wr) (fun _ _ u7 _ => a.length - (intOf u7).toNat)
 case atStart => exact ⟨0, 0, [], by omega, rfl, rfl, by omega, zcc.nil _ _ _, rfl, by simp [val], Below.refl _ _⟩
 case round =>
  obtain ⟨k, bo, o, hk, rfl, rfl, hc, hownr, hol, hval, hbr⟩ := hrel
  have HOL := zH hol
  have HV := zH hval
  have HO : Hid (o.length + 1 ≤ 4294967296) := zH (by omega)
  clear hol hval
  by_cases h1 : k < a.length
  ·have hx := (ha.below hbr).cell k h1
   have hx1 := ha.lt k h1
   have HX := zH (zia a k h1)
   generalize a[k] = x at *
   by_cases h2 : k < b.length
   ·have hy := (hb.below hbr).cell k h2
    have hy1 := hb.lt k h2
    have HY := zH (zia b k h2)
    generalize b[k] = y at *
    by_cases h3 : x < bo + y
    ·have HS := zH (ztg (z := x + 4294967296 - (bo + y)) (bo' := 1) HOL.out HX.out HY.out (by omega) HV.out)
     go_wp2_with (at_builtin; refine hA1 wr rfl _ _ rfl w.heap.size _ u5 o rfl (by exact hownr) _ (x + 4294967296 - (bo + y)) (by omega) (by omega) rfl (Nat.le_trans HO.out (by decide)) hbr.size ?_; intro v' w1 hown1 hbel1)
     go_roundw
     case rel => exact ⟨k + 1, 1, _, by omega, by go_num, by go_num, by omega, hown1, by simp [HOL.out], HS.out, hbr.trans (hbel1.mono (Nat.le_refl _))⟩
     case measure => simp [intOf]; omega
    ·have HS := zH (ztg (z := x - (bo + y)) (bo' := 0) HOL.out HX.out HY.out (by omega) HV.out)
     go_wp2_with (at_builtin; refine hA1 wr rfl _ _ rfl w.heap.size _ u5 o rfl (by exact hownr) _ (x - (bo + y)) (by omega) (by omega) rfl (Nat.le_trans HO.out (by decide)) hbr.size ?_; intro v' w1 hown1 hbel1)
     go_roundw
     case rel => exact ⟨k + 1, 0, _, by omega, by go_num, by go_num, by omega, hown1, by simp [HOL.out], HS.out, hbr.trans (hbel1.mono (Nat.le_refl _))⟩
     case measure => simp [intOf]; omega
   ·have HY : Hid (val (b.take (k + 1)) = val (b.take k) + pw k * 0) := zH (by rw [zza b (k + 1) (by omega), zza b k (by omega)]; simp)
    by_cases h3 : x < bo + 0
    ·have HS := zH (ztg (z := x + 4294967296 - (bo + 0)) (bo' := 1) HOL.out HX.out HY.out (by omega) HV.out)
     go_wp2_with (at_builtin; refine hA1 wr rfl _ _ rfl w.heap.size _ u5 o rfl (by exact hownr) _ (x + 4294967296 - (bo + 0)) (by omega) (by omega) rfl (Nat.le_trans HO.out (by decide)) hbr.size ?_; intro v' w1 hown1 hbel1)
     go_roundw
     case rel => exact ⟨k + 1, 1, _, by omega, by go_num, by go_num, by omega, hown1, by simp [HOL.out], HS.out, hbr.trans (hbel1.mono (Nat.le_refl _))⟩
     case measure => simp [intOf]; omega
    ·have HS := zH (ztg (z := x - (bo + 0)) (bo' := 0) HOL.out HX.out HY.out (by omega) HV.out)
     go_wp2_with (at_builtin; refine hA1 wr rfl _ _ rfl w.heap.size _ u5 o rfl (by exact hownr) _ (x - (bo + 0)) (by omega) (by omega) rfl (Nat.le_trans HO.out (by decide)) hbr.size ?_; intro v' w1 hown1 hbel1)
     go_roundw
     case rel => exact ⟨k + 1, 0, _, by omega, by go_num, by go_num, by omega, hown1, by simp [HOL.out], HS.out, hbr.trans (hbel1.mono (Nat.le_refl _))⟩
     case measure => simp [intOf]; omega
  ·obtain rfl : k = a.length := by omega
   have hv : val o = val a - val b := minus_end HBA.out hownr.lm HOL.out hc (by have := HV.out; rw [zza a a.length (Nat.le_refl _), zza b a.length (by omega)] at this; exact this)
   have HT := zjk _ _ wr (hownr.nat.natN (by have := HO.out; omega))
   rw [hv] at HT
   have HT2 := zH HT
   clear HT hv
   go_wp2_with (go_at_call 106; refine HT2.out.mono ?_; rintro e w1 ⟨r, rfl, hr, hr2, hb⟩)
   go_ret
   exact ⟨r, rfl, ⟨hr.own.mono hbr.size, hr.lm⟩, hr2, hbr.trans (hb.mono hbr.size)⟩
theorem minus_any (va vb : Value) (a b : List Nat) (w : World) (ha : zfc w va a) (hb : zfc w vb b) (hla : a.length ≤ 65536) (hlb : b.length ≤ a.length) (hba : val b ≤ val a) :
 Calls Tryz.prog 155 #[va, vb] w (RNat w (val a - val b)) := (zdl va vb a b w ha hb hla hlb hba).mono fun _ _ h => h.nat
theorem zcc.drawn {w : World} {e : TypeId} {B : Nat} {v : Value} {o : List Nat} (h : zcc w e B v o) (k : Nat) : zcc (w.drewN k) e B v o := h.below (zka w k)
theorem zim (c x y q : Nat) : (x : Int) * y + q + c = ((x * y + q + c : Nat) : Int) := by
 rw [Int.natCast_add, Int.natCast_add, Int.natCast_mul]
set_option maxHeartbeats 1600000 in
theorem zod (va vb : Value) (a b : List Nat) (w : World) (ha : zfc w va a) (hb : zfc w vb b) (hla : a.length ≤ 65536) (hlb : b.length ≤ 65536) :
 Calls Tryz.prog 197 #[va, vb] w (RNat w (val a * val b)) := by
 obtain ⟨i0, hi, hz0, hz1, hz2⟩ := info_parts Tryz.info102
 have hM := zmd (P := Tryz.prog) 36 142 i0 Tryz.underlying36 hi hz0 hz1 hz2
 clear hi hz0 hz1 hz2
 have s1 := ha.sl
 have s2 := hb.sl
 have l1 := ha.len
 have l2 := hb.len
 have hroom : a.length + b.length ≤ 35184372088832 := by omega
 go_enter Tryz.func197, Tryz.ntmps197
 go_wp2_with (refine hM _ rfl _ _ rfl w.heap.size _ (a.length + b.length) rfl rfl rfl hroom (Nat.le_refl _) ?_; intro v w1 hown hb1 hvb)
 clear hM hroom
 go_loopw [6] (fun u6 wr => ∃ (k : Nat) (o : List Nat), k ≤ a.length ∧ u6 = .int .i64 k ∧ zcc wr 142 w.heap.size v o ∧ o.length = a.length + b.length ∧
  val (o.take (k + b.length)) = val (a.take k) * val b ∧ Below w.heap.size w wr) (fun u6 _ => a.length - (intOf u6).toNat)
 case atStart => exact ⟨0, _, Nat.zero_le _, rfl, hown, by simp, by simp [val, znf], hb1⟩
 case round =>
  obtain ⟨k, o, hk, rfl, hownr, hol, hval, hbr⟩ := hrel
  obtain ⟨wo, rfl⟩ : ∃ wo : World, wo = wr := ⟨_, rfl⟩
  have HV := zH hval
  have HOL := zH hol
  clear hval hol
  by_cases hkp : k < a.length
  ·have HX := zH (zia a k hkp)
   have hx1 := ha.lt k hkp
   have hca := fun (wi : World) (h : Below w.heap.size w wi) => zH ((ha.below h).cell k hkp)
   generalize a[k] = x at *
   go_wp2
   go_loopw [7, 8] (fun u7 u8 wi => ∃ (j c : Nat) (o : List Nat), j ≤ b.length ∧ u8 = .int .i64 j ∧ u7 = .int .u64 c ∧ c < 4294967296 ∧ zcc wi 142 w.heap.size v o ∧ o.length = a.length + b.length ∧
    val (o.take (k + b.length)) + pw (k + j) * c = val (a.take k) * val b + pw k * x * val (b.take j) ∧ Below w.heap.size w wi) (fun _ u8 _ => b.length - (intOf u8).toNat)
   case atStart => exact ⟨0, 0, o, Nat.zero_le _, rfl, rfl, by omega, hownr, HOL.out, by rw [HV.out]; simp [val], hbr⟩
   case round =>
    obtain ⟨j, c, p, hj, rfl, rfl, hc, hownp, hpl, hvp, hbi⟩ := hrel
    have HP := zH hvp
    have HPL := zH hpl
    clear hvp
    have sv := hownp.nat.sl
    have lv : slen v = a.length + b.length := by rw [hownp.nat.len, hpl]
    clear hpl
    by_cases hjn : j < b.length
    ·have hkj : k + j < p.length := by rw [HPL.out]; omega
     have hx := (hca _ hbi).out
     have hy := (hb.below hbi).cell j hjn
     have hy1 := hb.lt j hjn
     have HY := zH (zia b j hjn)
     have hfz := hownp.frozen (k + j) hkj
     have hco := hownp.nat.cell (k + j) hkj
     have hq1 : p[k + j] < 4294967296 := hownp.lm _ (List.getElem_mem _)
     have HST := fun (z c' : Nat) => zH (mul_step (o := p) (b := b) (k := k) (j := j) (N := k + b.length) (R := val (a.take k) * val b) (c := c) (x := x) (z := z) (c' := c') (by omega) (by have := HPL.out; omega) HY.out HP.out)
     generalize b[j] = y at *
     generalize hqe : p[k + j] = q at *
     obtain ⟨h0', hxy'⟩ := zsg hx1 hy1
     have hT := (zcl hx1 hy1 hq1 hc).1
     have hset := hownp.set (k + j) hkj
     have HT := zH hT
     have HKJ := zH hkj
     clear hqe hT hkj
     have e1 : IntKind.i64.wrap ((k : Int) + j) = (k : Int) + j := IntWalk.i64_in _ (by omega)
     have e2 : ((k : Int) + j).toNat = k + j := by omega
     have e2b : (0 : Int) ≤ (k : Int) + j := by omega
     have e3 : IntKind.u64.wrap ((x : Int) * y) = (x : Int) * y := by rw [zyb]; omega
     have e4 : IntKind.u64.wrap ((x : Int) * y + q) = (x : Int) * y + q := by rw [zyb]; omega
     have e5 : IntKind.u64.wrap ((x : Int) * y + q + c) = (x : Int) * y + q + c := by rw [zyb, zim]; have := HT.out; omega
     go_wp2
     go_quiet (fail)
     clear e1 e2 e2b e3 e4 e5 hset hfz hco hx hy h0' hxy'
     have hownd := hownp.drawn nq
     have hbd := hbi.trans ((zka wr nq).mono hbi.size)
     have hco : (wr.drewN nq).cell? (ptr v (k + j)) = some (.int .u32 (p[k + j]'HKJ.out : Nat)) := hownd.nat.cell (k + j) HKJ.out
     have hfz := hownd.frozen (k + j) HKJ.out
     have hset := hownd.set (k + j) HKJ.out
     generalize wr.drewN nq = W at *
     rw [zim]
     have HT2 := HT.out
     generalize x * y + q + c = t at *
     generalize (p[k + j]'HKJ.out) = q0 at *
     have hset2 := hset (t % 4294967296) (by omega)
     clear hset
     go_wp2
     go_roundw
     case rel =>
      have e2 : ((t : Nat) : Int) / 4294967296 = ((t / 4294967296 : Nat) : Int) := rfl
      rw [e2]
      exact ⟨j + 1, t / 4294967296, _, by omega, by go_num, rfl, div_lt_32 HT2, hset2.1, by simp [HPL.out], (HST (t % 4294967296) (t / 4294967296)).out (by omega), hbd.trans hset2.2⟩
     case measure => simp [intOf]; omega
    ·obtain rfl : j = b.length := by omega
     have hkj : k + b.length < p.length := by rw [HPL.out]; omega
     have hfz := hownp.frozen (k + b.length) hkj
     have hco := hownp.nat.cell (k + b.length) hkj
     have hset := hownp.set (k + b.length) hkj c hc
     have hv2 := mul_end (o := p) (a := a) (b := b) (k := k) (n := val b) (N := k + b.length) (c := c) (x := x) hkj HX.out rfl rfl HP.out
     have HV2 := zH hv2
     clear hv2
     generalize p[k + b.length] = q0 at *
     clear hkj
     go_wp2
     go_roundw
     case rel => exact ⟨k + 1, _, by omega, by go_num, hset.1, by simp [HPL.out], by rw [show k + 1 + b.length = k + b.length + 1 from by omega]; exact HV2.out, hbi.trans hset.2⟩
     case measure => simp [intOf]; omega
  ·obtain rfl : k = a.length := by omega
   have hv2 : val o = val a * val b := by
    have e := HV.out
    rw [List.take_of_length_le (by have := HOL.out; omega), List.take_of_length_le (show a.length ≤ a.length from Nat.le_refl _)] at e
    exact e
   have HT := zra _ _ wo (hownr.nat.natN (by have := HOL.out; omega))
   rw [hv2] at HT
   have HT2 := zH HT
   clear HT hv2
   go_wp2_with (go_at_call 106; refine HT2.out.mono ?_; rintro e w1 ⟨r, rfl, hr, hb⟩)
   go_ret
   exact ⟨r, rfl, hr, hbr.trans (hb.mono hbr.size)⟩
theorem zob.of_eq {w : World} {v : Value} {m n : Nat} (h : zob w v m) (e : m = n) : zob w v n := e ▸ h
set_option maxHeartbeats 800000 in
theorem radd_any (va vb : Value) (m n : Nat) (w : World) (ha : zob w va m) (hb : zob w vb n) (hm : zda m ≤ 512) (hn : zda n ≤ 512) :
 Calls Tryz.prog 75 #[va, vb] w (zxm w (m + n)) := by
 have HM := zH hm
 have HN := zH hn
 have HM2 : Hid ((zla m).length ≤ 65536) := zH (Nat.le_trans hm (by decide))
 have HN2 : Hid ((zla n).length ≤ 65536) := zH (Nat.le_trans hn (by decide))
 clear hm hn
 go_enter Tryz.func75, Tryz.ntmps75
 go_wp2_with (first
  |(go_at_call 152; first
    |((with_reducible refine (zyc va m _ ha HM.out).mono ?_); rintro e wa ⟨rfl, hba⟩)
    |((with_reducible refine (zyc vb n _ (hb.below hba) HN.out).mono ?_); rintro e wb ⟨rfl, hbb⟩; have hbw := zaa hba hbb; have ha2 := ha.below hbw; have hb2 := hb.below hbw))
  |(go_at_call 106; first
     |((with_reducible refine (zra va m _ ha2).mono ?_); rintro e w1 ⟨ra, rfl, hra, hb1⟩; have hbw1 := zaa hbw hb1)
     |((with_reducible refine (zra vb n _ (hb2.below hb1)).mono ?_); rintro e w2 ⟨rb, rfl, hrb, hb2⟩; have hbw2 := zaa hbw1 hb2; have hra2 := hra.below hb2))
  |(go_at_call 153; (with_reducible refine (plus_any ra rb (zla m) (zla n) _ hra2.v hrb.v HM2.out HN2.out).mono ?_); rw [zha, zha]; rintro e w3 ⟨r, rfl, hr, hb3⟩; have hbw3 := zaa hbw2 hb3)
  |(go_at_call 152; (with_reducible refine (zti r (m + n) _ hr.nat).mono ?_); rintro e w4 ⟨rfl, hb4⟩; have hbw4 := zaa hbw3 hb4; have hr4 := hr.below hb4))
 ·go_ret2
  have hbig : ¬ zda (m + n) ≤ 512 := by have h5 : 512 < zda (m + n) := ‹_›; omega
  exact ⟨_, 2, rfl, ⟨fun h => absurd h hbig, fun _ => ⟨rfl, zjb.nil _⟩⟩, hbw4⟩
 ·go_ret2
  have hbig : ¬ 512 < zda (m + n) := by assumption
  exact ⟨_, 0, rfl, ⟨fun _ => ⟨rfl, hr4⟩, fun h => absurd h hbig⟩, hbw4⟩
set_option maxHeartbeats 800000 in
theorem rmul_any (va vb : Value) (m n : Nat) (w : World) (ha : zob w va m) (hb : zob w vb n) (hm : zda m ≤ 512) (hn : zda n ≤ 512) :
 Calls Tryz.prog 151 #[va, vb] w (zxm w (m * n)) := by
 have HM := zH hm
 have HN := zH hn
 have HM2 : Hid ((zla m).length ≤ 65536) := zH (Nat.le_trans hm (by decide))
 have HN2 : Hid ((zla n).length ≤ 65536) := zH (Nat.le_trans hn (by decide))
 clear hm hn
 go_enter Tryz.func151, Tryz.ntmps151
 go_wp2_with (first
  |(go_at_call 152; first
    |((with_reducible refine (zyc va m _ ha HM.out).mono ?_); rintro e wa ⟨rfl, hba⟩)
    |((with_reducible refine (zyc vb n _ (hb.below hba) HN.out).mono ?_); rintro e wb ⟨rfl, hbb⟩; have hbw := zaa hba hbb; have ha2 := ha.below hbw; have hb2 := hb.below hbw))
  |(go_at_call 106; first
     |((with_reducible refine (zra va m _ ha2).mono ?_); rintro e w1 ⟨ra, rfl, hra, hb1⟩; have hbw1 := zaa hbw hb1)
     |((with_reducible refine (zra vb n _ (hb2.below hb1)).mono ?_); rintro e w2 ⟨rb, rfl, hrb, hb2⟩; have hbw2 := zaa hbw1 hb2; have hra2 := hra.below hb2))
  |(go_at_call 197; (with_reducible refine (zod ra rb (zla m) (zla n) _ hra2.v hrb.v HM2.out HN2.out).mono ?_); rw [zha, zha]; rintro e w3 ⟨r, rfl, hr, hb3⟩; have hbw3 := zaa hbw2 hb3)
  |(go_at_call 152; (with_reducible refine (zti r (m * n) _ hr.nat).mono ?_); rintro e w4 ⟨rfl, hb4⟩; have hbw4 := zaa hbw3 hb4; have hr4 := hr.below hb4))
 ·go_ret2
  have hbig : ¬ zda (m * n) ≤ 512 := by have h5 : 512 < zda (m * n) := ‹_›; omega
  exact ⟨_, 2, rfl, ⟨fun h => absurd h hbig, fun _ => ⟨rfl, zjb.nil _⟩⟩, hbw4⟩
 ·go_ret2
  have hbig : ¬ 512 < zda (m * n) := by assumption
  exact ⟨_, 0, rfl, ⟨fun _ => ⟨rfl, hr4⟩, fun h => absurd h hbig⟩, hbw4⟩
set_option maxHeartbeats 800000 in
/-- b is at most a. -/
theorem rsub_le (va vb : Value) (m n : Nat) (w : World) (ha : zob w va m) (hb : zob w vb n) (hm : zda m ≤ 512) (hn : n ≤ m) :
 Calls Tryz.prog 78 #[va, vb] w (RNat0 w (m - n)) := by
 have HM := zH hm
 have HN := zH (Nat.le_trans (zfb hn) hm)
 have HL := zH hn
 have HM2 : Hid ((zla m).length ≤ 65536) := zH (Nat.le_trans hm (by decide))
 have HN2 : Hid ((zla n).length ≤ (zla m).length) := zH (zfb hn)
 have HL2 : Hid (val (zla n) ≤ val (zla m)) := zH (by rw [zha, zha]; exact hn)
 have hc : (zfj m n < 0) = False := by unfold zfj; rw [if_neg (by omega)]; split <;> simp
 have hc2 : ¬ zfj m n < 0 := by rw [hc]; simp
 clear hm hn hc
 generalize hg : zfj m n = g at *
 have HG := zH hg
 clear hg
 go_enter Tryz.func78, Tryz.ntmps78
 go_wp2_with (first
  |(go_at_call 152; first
    |((with_reducible refine (zyc va m _ ha HM.out).mono ?_); rintro e wa ⟨rfl, hba⟩)
    |((with_reducible refine (zyc vb n _ (hb.below hba) HN.out).mono ?_); rintro e wb ⟨rfl, hbb⟩; have hbw0 := zaa hba hbb; have ha0 := ha.below hbw0; have hb0 := hb.below hbw0))
  |(go_at_call 77; (with_reducible refine (zee va vb m n _ ha0 hb0).mono ?_); rintro e wc ⟨rfl, hbc⟩; rw [HG.out]; have hbw := zaa hbw0 hbc; have ha2 := ha.below hbw; have hb2 := hb.below hbw)
  |(go_at_call 106; first
     |((with_reducible refine (zra va m _ ha2).mono ?_); rintro e w1 ⟨ra, rfl, hra, hb1⟩; have hbw1 := zaa hbw hb1)
     |((with_reducible refine (zra vb n _ (hb2.below hb1)).mono ?_); rintro e w2 ⟨rb, rfl, hrb, hb2⟩; have hbw2 := zaa hbw1 hb2; have hra2 := hra.below hb2))
  |(go_at_call 155; (with_reducible refine (minus_any ra rb (zla m) (zla n) _ hra2.v hrb.v HM2.out HN2.out HL2.out).mono ?_); rw [zha, zha]; rintro e w3 ⟨r, rfl, hr, hb3⟩; have hbw3 := zaa hbw2 hb3))
 go_ret2
 exact ⟨_, rfl, hr, hbw3⟩
end Go.Proofs.YtlpdkbmmbdfoiaaGreat
