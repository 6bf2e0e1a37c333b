/-
  Elimination on matrices of rational numbers, as functions of two indices, and the sizes of what it meets. No program is named here.
-/
import Derived.Test.YtlpdkbmmbdfoiaaGreatSFr6
import Derived.Test.YtlpdkbmmbdfoiaaGreatSRa2
import Derived.Test.YtlpdkbmmbdfoiaaGreatSTk
import Derived.Test.YtlpdkbmmbdfoiaaGreatSFr3a
import Derived.Lib.OwnKind
set_option linter.unusedVariables false
set_option linter.unusedSimpArgs false
namespace Go.Proofs.YtlpdkbmmbdfoiaaGreat
open Go.RowKit
theorem RF.fits {x : RF} (h : x.ok) : fits x.q := fits_ok _ h
theorem wt_le {q : Rat} (h : fits q) : wt q ≤ 8192 := by
 obtain ⟨h1, h2⟩ := h
 unfold wt
 split <;> (try split) <;> omega
theorem wts_le (l : List RF) (h : ∀ x ∈ l, x.ok) : wts (qs l) ≤ 8192 * l.length := by
 induction l with
 | nil => simp [qs, wts]
 | cons x l ih =>
   have h1 := ih (fun y hy => h y (by simp [hy]))
   have h2 := wt_le (RF.fits (h x (by simp)))
   have e : wts (qs (x :: l)) = wt x.q + wts (qs l) := by unfold qs; rw [List.map_cons, zcg]
   rw [e, List.length_cons]; omega
theorem wts_qs (l : List RF) (k : Nat) (h : k < l.length) : wts (qs (l.take (k + 1))) = wts (qs (l.take k)) + wt l[k].q := by
 rw [zvc l k h]; unfold qs; rw [List.map_append]; exact wts_snoc _ _
def wtsM (m : List (List RF)) : Nat := (m.map fun l => wts (qs l)).sum
theorem wtsM_take (m : List (List RF)) (k : Nat) (h : k < m.length) : wtsM (m.take (k + 1)) = wtsM (m.take k) + wts (qs m[k]) := by
 unfold wtsM; rw [zvc m k h, List.map_append, List.sum_append]; simp only [List.map_cons, List.map_nil, List.sum_cons, List.sum_nil, Nat.add_zero]
theorem wtsM_le (m : List (List RF)) (h : ∀ l ∈ m, ∀ x ∈ l, x.ok) (hl : ∀ l ∈ m, l.length ≤ 65536) : wtsM m ≤ 536870912 * m.length := by
 induction m with
 | nil => simp [wtsM]
 | cons x m ih =>
   have h1 := ih (fun y hy => h y (by simp [hy])) (fun y hy => hl y (by simp [hy]))
   have h2 := wts_le x (h x (by simp))
   have h3 := hl x (by simp)
   have e : wtsM (x :: m) = wts (qs x) + wtsM m := by simp [wtsM]
   rw [e, List.length_cons]; omega
theorem wt_zero {q : Rat} (h : q.num = 0) : wt q = 0 := by unfold wt; rw [if_pos h]
theorem wt_int {q : Rat} (h : q.num ≠ 0) (hd : q.den = 1) : wt q = zta q.num.natAbs := by unfold wt; rw [if_neg h, if_pos hd]; rfl
theorem wt_frac {q : Rat} (h : q.num ≠ 0) (hd : q.den ≠ 1) : wt q = zta q.num.natAbs + zta q.den := by unfold wt; rw [if_neg h, if_neg hd]
theorem zdk (va : Value) (x : RF) (w : World) (ha : zlb w va x.neg x.n x.d) (hx : x.ok) : Calls Tryz.prog 89 #[va] w (RF0 w x.q) :=
 (zxe va x.neg x.n x.d w ha).mono fun e w' h => by
  obtain ⟨v, er, rfl, h1, h2, _⟩ := h
  obtain ⟨rfl, h3⟩ := h2 hx
  exact ⟨v, rfl, h3, h1⟩
theorem wtsM_one (l : List RF) : wtsM [l] = wts (qs l) := by simp [wtsM]
def plainP (x : RF) : Prop := x.ok ∧ ¬ x.q < 0 ∧ zea x.q.num.natAbs ≤ 4 ∧ zea x.q.den ≤ 4
instance (x : RF) : Decidable (plainP x) := inferInstanceAs (Decidable (_ ∧ _ ∧ _ ∧ _))
def rowP (l : List RF) (n : Nat) : Prop := (∀ x ∈ l, plainP x) ∧ l.length = n ∧ wts (qs l) ≤ 3800
instance (l : List RF) (n : Nat) : Decidable (rowP l n) := inferInstanceAs (Decidable (_ ∧ _ ∧ _))
theorem cmp_can (va vb : Value) (p q : Rat) (w : World) (ha : zya w va p) (hb : zya w vb q) (hp : fits p) (hq : fits q) :
 Calls Tryz.prog 130 #[va, vb] w fun en w' => en = .returned (.tuple #[.int .i64 (cmpR p q), .int .i64 0]) ∧ Below w.heap.size w w' := by
 have h := cmp_frac va vb _ _ _ _ _ _ w ha.raw hb.raw (zzc hp) (zzc hq)
 rw [zdc, zdc] at h
 exact h
@[go_sem] theorem slen_slice (a : Option Addr) (n c : Nat) : slen (.slice a n c) = n := rfl
def zqb (w : World) (v : Value) : Prop := ∀ g, v.ownBlock = some g → ∀ cur e fz, w.heap[g]? = some (.cells cur e fz) → ∀ c ∈ cur.toList, ∀ z, c ≠ .int .u32 z
theorem zqb.nil (w : World) : zqb w (.slice none 0 0) := fun g h => by cases h
theorem zsh {z : Array Value} {n : Nat} {c : Value} (h : c ∈ (Builtin.zeroCells z n).toList) : c ∈ z.toList := by
 unfold Builtin.zeroCells at h
 simp at h
 obtain ⟨a, h1, h2⟩ := h
 have hz : 0 < z.size := Nat.pos_of_ne_zero (fun h => by rw [h] at h1; omega)
 rw [getElem!_pos z (a % z.size) (Nat.mod_lt _ hz)] at h2
 rw [← h2]
 simp
theorem ztd {P : Program} (w : World) (B : Nat) (t ty e : TypeId) (i : TypeInfo) (z : Value) (size bytes : Nat) (ht : P.underlying t = some (.slice e)) (hi : P.info? e = some i) (hz : i.zero = some z)
 (hsize : i.size = size) (hby : i.bytes = bytes) (hzs : z.cells.size = size) (hsz : 0 < size)
 (v : Value) (n : Nat) (xs : List Value) (hown : w.ownsRow B e size v n xs) (a : Addr) (m c : Nat) (news : List Value) (hl : news.length = m * size)
 (hnews : ∀ j u, news[j]? = some u → w.cell? (a.add j) = some u) (h1 : ∀ u ∈ news, u.oneCell' = true)
 (h63 : n + m ≤ maxLen) (hbytes : (n + m) * bytes ≤ 140737488355328) (hbase : B ≤ w.heap.size)
 (hnl : zqb w v) (hnn : ∀ c ∈ news, ∀ z, c ≠ .int .u32 z) (hnz : ∀ c ∈ z.cells.toList, ∀ z, c ≠ .int .u32 z) :
 ∃ v' w', (Builtin.append_ #[t, t] ty #[v, .slice (some a) m c]).run P w = .ok v' w' ∧ w'.ownsRow B e size v' (n + m) (xs ++ news) ∧ w.grownBy w' v.ownBlock ∧
  (v'.ownBlock = v.ownBlock ∨ v'.ownBlock = some w.heap.size) ∧ zqb w' v' := by
 obtain ⟨v', w', h2, h3, h4, _⟩ := run_append_own (P := P) w B t ty e i z size bytes ht hi hz hsize hby hzs hsz v n xs hown a m c news hl hnews h1 h63 hbytes hbase
 refine ⟨v', w', h2, h3, h4, ?_⟩
 have fresh : ∀ (cs : Array Value) (k kc : Nat), (∀ c ∈ cs.toList, ∀ z, c ≠ .int .u32 z) → zqb (w.drew.alloc (.cells cs e)) (.slice (some ⟨w.heap.size, 0, none⟩) k kc) := by
  intro cs k kc h g' hg' cur' e' fz' hc' c hc
  simp only [Value.ownBlock, Option.some.injEq] at hg'
  subst hg'
  rw [show (w.drew.alloc (.cells cs e)).heap[w.heap.size]? = some (.cells cs e (0, 0)) from heap_alloc_new w.drew _] at hc'
  injection hc' with hc'
  injection hc' with hc' _
  subst hc'
  exact h c hc
 have hsmall : n + m ≤ 9223372036854775807 := by simp only [maxLen] at h63; omega
 rcases hown.2 with ⟨rfl, rfl⟩ | ⟨g, cap, cur, rfl, hbg, hg, hnc, hcm, hcs, htake⟩
 ·have hx : xs = [] := List.eq_nil_of_length_eq_zero (by simpa using hown.1)
  subst hx
  by_cases hm : m = 0
  ·subst hm
   refine (fun h => ⟨Or.inl (by rw [h]), by rw [h]; exact zqb.nil _⟩ : v' = .slice none 0 0 → _) ?_
   rcases h3.2 with ⟨rfl, _⟩ | ⟨g, cap, cur, rfl, _, _, h5, _⟩
   ·rfl
   ·exfalso
    have hn : news = [] := List.eq_nil_of_length_eq_zero (by simpa using hl)
    subst hn
    have hr : (Builtin.append_ #[t, t] ty #[.slice none 0 0, .slice (some a) 0 c]).run P w = .ok (.slice none 0 0) w := by
     simp [Builtin.append_, run_underlying ht, sizeOf, typeInfo, hi, Builtin.lenOf, Builtin.firstCells, loadCells, loadCellsFrom]
    rw [hr] at h2
    injection h2 with h2 _
    cases h2
  ·have hr := run_append_nil (P := P) w t ty e i z ht hi hz a m c news (by rw [hl, hsize]) hnews (by omega) (by omega) (by rw [hby]; have hb := hbytes; simp only [Nat.zero_add] at hb; omega)
   rw [hr] at h2
   injection h2 with h2 h2w
   refine ⟨Or.inr (by rw [← h2]; rfl), ?_⟩
   rw [← h2, ← h2w]
   exact fresh _ _ _ (fun c hc => by
    simp only [Array.toList_append, List.mem_append] at hc
    rcases hc with h | h
    ·exact hnn c h
    ·exact hnz c (zsh h))
 ·by_cases hroom : n + m ≤ cap
  ·have hfit : n * i.size + news.length ≤ cur.size := by rw [hl, hcs, hsize, ← Nat.add_mul]; exact Nat.mul_le_mul_right _ hroom
   have hr := run_append_room (P := P) w t ty e i ht hi g n cap cur hg a m c news (by rw [hl, hsize]) hnews h1 hroom hfit
   rw [hr] at h2
   injection h2 with h2 h2w
   refine ⟨Or.inl (by rw [← h2]; rfl), ?_⟩
   rw [← h2, ← h2w]
   intro g' hg' cur' e' fz' hc' c hc
   simp only [Value.ownBlock, Option.some.injEq] at hg'
   subst hg'
   rw [setRow_heap w g cur _ e _ hg] at hc'
   injection hc' with hc'
   injection hc' with hc' _
   subst hc'
   have hcc := hnl g rfl cur e _ hg
   simp only [List.mem_append] at hc
   rcases hc with (h | h) | h
   ·exact hcc c (List.mem_of_mem_take h)
   ·exact hnn c h
   ·exact hcc c (List.mem_of_mem_drop h)
  ·have holds : ∀ j u, xs[j]? = some u → w.cell? ((⟨g, 0, none⟩ : Addr).add j) = some u := hown.cells (g := g) rfl
   have hr := run_append_grow (P := P) w t ty e i z ht hi hz ⟨g, 0, none⟩ n cap xs (by rw [hown.1, hsize]) holds a m c news (by rw [hl, hsize]) hnews (by omega) (by omega) (growslice_fits (by omega) (by rw [hby]; exact hbytes))
   rw [hr] at h2
   injection h2 with h2 h2w
   refine ⟨Or.inr (by rw [← h2]; rfl), ?_⟩
   rw [← h2, ← h2w]
   have hcc := hnl g rfl cur e _ hg
   rw [← htake]
   exact fresh _ _ _ (fun c hc => by
    simp only [Array.toList_append, List.mem_append] at hc
    rcases hc with (h | h) | h
    ·exact hcc c (List.mem_of_mem_take h)
    ·exact hnn c h
    ·exact hnz c (zsh h))
structure zuc (w : World) (e : TypeId) (B size : Nat) (v : Value) (n : Nat) (xs : List Value) : Prop where
 own : w.ownsRow B e size v n xs
 nl : zqb w v
section
variable {w : World} {e : TypeId} {B size n : Nat} {v : Value} {xs : List Value}
theorem zuc.nil (w : World) (e : TypeId) (B size : Nat) : zuc w e B size (.slice none 0 0) 0 [] := ⟨World.ownsRow_nil w B e size, zqb.nil _⟩
theorem zuc.sl (h : zuc w e B size v n xs) : zlc v := by
 rcases h.own.2 with ⟨rfl, h0⟩ | ⟨g, cap, cur, rfl, hb, hg, hn, hm, hs, ht⟩
 ·exact zlc.nil
 ·exact ⟨_, _, _, rfl, hn, hm, fun e => by cases e⟩
theorem zuc.len (h : zuc w e B size v n xs) : slen v = n := by
 rcases h.own.2 with ⟨rfl, h0⟩ | ⟨g, cap, cur, rfl, hb, hg, hn, hm, hs, ht⟩
 ·rw [h0]; rfl
 ·rfl
theorem zuc.clen (h : zuc w e B size v n xs) : xs.length = n * size := h.own.1
theorem zuc.cell (h : zuc w e B size v n xs) (j : Nat) (hj : j < xs.length) : w.cell? (ptr v j) = some xs[j] := by
 have hl := h.own.1
 obtain ⟨ho, _⟩ := h
 rcases ho.2 with ⟨rfl, h0⟩ | ⟨g, cap, cur, rfl, hb, hg, hn, hm, hs, ht⟩
 ·rw [h0] at hl; omega
 ·have := World.ownsRow.cellAt ho j (by omega)
  simp only [ptr, base, Addr.add_lit, Nat.zero_add]
  rw [this, List.getElem?_eq_getElem hj]
theorem zuc.grown {w' : World} {row : Option Nat} (h : zuc w e B size v n xs) (hg : w.grownBy w' row) (hne : v.ownBlock = none ∨ v.ownBlock ≠ row) : zuc w' e B size v n xs := by
 refine ⟨World.ownsRow.kept h.own hg hne, fun g hgv cur e' fz hc c hcc => ?_⟩
 have hlt := (World.ownsRow.lt h.own g hgv).2
 rw [hg.block g hlt (by rw [← hgv]; rcases hne with h1 | h1; · rw [h1] at hgv; cases hgv
                        ·exact h1)] at hc
 exact h.nl g hgv cur e' fz hc c hcc
theorem zuc.below {w' : World} (h : zuc w e B size v n xs) (hb : Below w.heap.size w w') : zuc w' e B size v n xs :=
 h.grown (zqe hb) (by cases hv : v.ownBlock <;> simp)
theorem zuc.block (h : zuc w e B size v n xs) : ∀ k, v.ownBlock = some k → B ≤ k ∧ k < w.heap.size := World.ownsRow.lt h.own
theorem zxb.grownR {w' : World} {row : Option Nat} {x : Value} {l : List Nat} (h : zxb w x l) (hg : w.grownBy w' row) (hn : ∀ v, v.ownBlock = row → zqb w v) : zxb w' x l := by
 refine ⟨h.sl, h.len, fun j hj => ?_, h.lm⟩
 have hc := h.cell j hj
 refine hg.cell hc (fun e => ?_)
 have h2 := hn (.slice (some ⟨(ptr x j).block, 0, none⟩) 0 0) (by rw [← e]; rfl) (ptr x j).block rfl
 unfold World.cell? at hc
 split at hc
 ·rename_i cur e' fz hh
  split at hc
  ·cases hc
  ·exact h2 cur e' fz hh _ (by have := Array.mem_of_getElem? hc; simpa using this) _ rfl
 ·cases hc
theorem zqb.any {v u : Value} (h : zqb w v) (he : u.ownBlock = v.ownBlock) : zqb w u := fun g hg => h g (by rw [← he]; exact hg)
theorem zgb.grown {w' : World} {x : Value} {m : Nat} (h : zgb w x m) (hg : w.grownBy w' v.ownBlock) (hn : zqb w v) : zgb w' x m := ⟨h.1.grownR hg (fun u hu => hn.any hu), h.2⟩
theorem zya.grown {w' : World} {x : Value} {q : Rat} (h : zya w x q) (hg : w.grownBy w' v.ownBlock) (hn : zqb w v) : zya w' x q := by
 obtain ⟨a, b, rfl, h1, h2⟩ := h; exact ⟨a, b, rfl, h1.grown hg hn, h2.grown hg hn⟩
end
theorem znf {P : Program} (w0 : World) {ops : Array Oper} {rest : List Oper} {o : Oper} {a : Act} {Q : Exit → Act → World → Prop} (hgd : o.guard = none) (s x : Operand) (t : TypeId)
 (ho : o.op = .call { callee := .builtin .append, args := #[s, x], argTypes := #[t, t] })
 (B : Nat) (e e' : TypeId) (i : TypeInfo) (z : Value) (size bytes : Nat) (ht : P.underlying t = some (.slice e)) (hi : P.info? e = some i) (hz : i.zero = some z)
 (hsize : i.size = size) (hby : i.bytes = bytes) (hzs : z.cells.size = size) (hsz : 0 < size) (hnz : ∀ c ∈ z.cells.toList, ∀ z, c ≠ .int .u32 z)
 (v : Value) (n : Nat) (xs : List Value) (hs : a.eval s = v) (hown : zuc w0 e B size v n xs) (news : Array Value) (hns : news.size = size) (hxe : a.eval x = .slice (some ⟨w0.heap.size, 0, none⟩) 1 1)
 (h1 : ∀ u ∈ news.toList, u.oneCell' = true) (hnn : ∀ c ∈ news.toList, ∀ z, c ≠ .int .u32 z)
 (h63 : n + 1 ≤ maxLen) (hbytes : (n + 1) * bytes ≤ 140737488355328) (hbase : B ≤ w0.heap.size)
 (h : ∀ v' w', zuc w' e B size v' (n + 1) (xs ++ news.toList) → w0.grownBy w' v.ownBlock → (v'.ownBlock = v.ownBlock ∨ v'.ownBlock = some (w0.heap.size + 1)) → wpList P ops Q rest (a.put o.dst v') w') :
 wpList P ops Q (o :: rest) a (w0.alloc (.cells news e')) := by
 refine wpList_plain hgd fun K hK => ?_
 have hg0 := World.grownBy_alloc w0 (.cells news e') (v.ownBlock)
 have hown1 := hown.below (zca w0 (.cells news e'))
 obtain ⟨v', w', hr, h2, h3, h4, h5⟩ := ztd (P := P) (w0.alloc (.cells news e')) B t o.type e i z size bytes ht hi hz hsize hby hzs hsz v n xs hown1.own ⟨w0.heap.size, 0, none⟩ 1 1 news.toList (by simp [hns])
  (fun j u hu => by
   have hc := cell_of_row (w0.alloc (.cells news e')) w0.heap.size j news e' (0, 0) (heap_alloc_new w0 _)
   rw [Addr.add_lit, Nat.zero_add, hc]; simpa using hu) h1 h63 hbytes (by simp; omega) hown1.nl hnn hnz
 unfold Oper.wp execOp
 simp only [ho, resolve, invoke, builtin, Sem.run_bind, Sem.run_pure, Result.andThen_ok, List.map_toArray, List.map_cons, List.map_nil, hs, hxe, hr]
 exact hK _ _ (h v' w' ⟨h2, h5⟩ (zqc hg0 h3) (by simpa using h4))
structure zec (B : Nat) (w w' : World) : Prop where
 size : w.heap.size ≤ w'.heap.size
 row : ∀ g, B ≤ g → g < w.heap.size → w'.heap[g]? = w.heap[g]?
 limb : ∀ p z, w.cell? p = some (.int .u32 z) → w'.cell? p = some (.int .u32 z)
theorem zec.trans {B : Nat} {a b c : World} (h : zec B a b) (k : zec B b c) : zec B a c :=
 ⟨Nat.le_trans h.size k.size, fun g h1 h2 => (k.row g h1 (Nat.lt_of_lt_of_le h2 h.size)).trans (h.row g h1 h2), fun p z hp => k.limb p z (h.limb p z hp)⟩
theorem zec.below {B : Nat} {w w' : World} (h : Below w.heap.size w w') : zec B w w' := ⟨h.size, fun g _ h2 => h.block g h2, fun p z hp => zba h hp⟩
theorem zec.set {B : Nat} {w : World} {p : Addr} {x : Value} (hp : p.block < B) (hc : w.cell? p = some x) (hx : ∀ z, x ≠ .int .u32 z) (u : Value) : zec B w (w.setCell p u) := by
 refine ⟨by simp [World.setCell], fun g h1 h2 => Below.heap_setCell _ _ _ _ (by omega), fun q z hq => ?_⟩
 rw [World.cell?_setCell_other]
 ·exact hq
 ·intro e
  rw [← e, hc] at hq
  injection hq with hq
  exact hx _ hq
theorem zxb.moves {B : Nat} {w w' : World} {v : Value} {l : List Nat} (h : zxb w v l) (hm : zec B w w') : zxb w' v l := ⟨h.sl, h.len, fun j hj => hm.limb _ _ (h.cell j hj), h.lm⟩
theorem zgb.moves {B : Nat} {w w' : World} {v : Value} {n : Nat} (h : zgb w v n) (hm : zec B w w') : zgb w' v n := ⟨h.v.moves hm, h.2⟩
theorem zuc.moves {B B' : Nat} {w w' : World} {e : TypeId} {size n : Nat} {v : Value} {xs : List Value} (h : zuc w e B' size v n xs) (hm : zec B w w') (hB : B ≤ B') : zuc w' e B' size v n xs := by
 have hlt := h.block
 refine ⟨⟨h.own.1, ?_⟩, fun g hg cur e' fz hc => ?_⟩
 ·rcases h.own.2 with ⟨rfl, h0⟩ | ⟨g, cap, cur, rfl, hb, hg, rest⟩
  ·exact .inl ⟨rfl, h0⟩
  ·refine .inr ⟨g, cap, cur, rfl, hb, ?_, rest⟩
   rw [hm.row g (Nat.le_trans hB hb) (hlt g rfl).2]; exact hg
 ·obtain ⟨h1, h2⟩ := hlt g hg
  rw [hm.row g (Nat.le_trans hB h1) h2] at hc
  exact h.nl g hg cur e' fz hc
theorem zuc.kinds {w : World} {e e' : TypeId} {B B' size size' n n' : Nat} {v v' : Value} {xs xs' : List Value} (h : zuc w e B size v n xs) (h' : zuc w e' B' size' v' n' xs') (hne : e ≠ e') : v.ownBlock = none ∨ v.ownBlock ≠ v'.ownBlock := by
 cases hv : v.ownBlock with
 | none => exact Or.inl rfl
 | some g =>
   refine Or.inr (fun he => ?_)
   obtain ⟨c, fz, h1⟩ := Lib.ownsRow_kind h.own g hv
   obtain ⟨c', fz', h2⟩ := Lib.ownsRow_kind h'.own g he.symm
   rw [h1] at h2
   injection h2 with h2
   injection h2 with _ h2
   exact hne h2
def zne (w : World) (xs : List Value) (q : List Rat) : Prop :=
 ∀ (j : Nat) (h : j < q.length), ∃ a b, xs[j * 3]? = some (.bool (decide (q[j] < 0))) ∧ xs[j * 3 + 1]? = some a ∧ xs[j * 3 + 2]? = some b ∧ zgb w a q[j].num.natAbs ∧ zgb w b q[j].den
def zbb (w : World) (e : TypeId) (B : Nat) (v : Value) (q : List Rat) : Prop := ∃ xs, zuc w e B 3 v q.length xs ∧ zne w xs q
section
variable {w : World} {e : TypeId} {B : Nat} {v : Value} {q : List Rat}
theorem zbb.nil (w : World) (e : TypeId) (B : Nat) : zbb w e B (.slice none 0 0) [] := ⟨[], zuc.nil _ _ _ _, fun j h => by simp at h⟩
theorem zbb.fracs (h : zbb w e B v q) : zza w v q := by
 obtain ⟨xs, h1, h2⟩ := h
 refine ⟨h1.sl, h1.len, fun j hj => ?_⟩
 obtain ⟨a, b, e1, e2, e3, e4, e5⟩ := h2 j hj
 have hc : ∀ i u, xs[i]? = some u → w.cell? (ptr v i) = some u := fun i u hi => by
  obtain ⟨h6, h7⟩ := List.getElem?_eq_some_iff.1 hi
  rw [h1.cell i h6, h7]
 exact ⟨a, b, hc _ _ e1, hc _ _ e2, hc _ _ e3, e4, e5⟩
theorem zbb.sl (h : zbb w e B v q) : zlc v := h.fracs.sl
theorem zbb.block (h : zbb w e B v q) : ∀ k, v.ownBlock = some k → B ≤ k ∧ k < w.heap.size := by obtain ⟨xs, h1, _⟩ := h; exact h1.block
theorem zbb.moves {B' : Nat} {w' : World} (h : zbb w e B v q) (hm : zec B' w w') (hB : B' ≤ B) : zbb w' e B v q := by
 obtain ⟨xs, h1, h2⟩ := h
 refine ⟨xs, h1.moves hm hB, fun j hj => ?_⟩
 obtain ⟨a, b, e1, e2, e3, e4, e5⟩ := h2 j hj
 exact ⟨a, b, e1, e2, e3, e4.moves hm, e5.moves hm⟩
theorem zne.grown {w' : World} {u : Value} {xs : List Value} (h2 : zne w xs q) (hg : w.grownBy w' u.ownBlock) (hn : zqb w u) : zne w' xs q := fun j hj => by
 obtain ⟨a, b, e1, e2, e3, e4, e5⟩ := h2 j hj
 exact ⟨a, b, e1, e2, e3, e4.grown hg hn, e5.grown hg hn⟩
theorem zbb.grown {w' : World} {u : Value} (h : zbb w e B v q) (hg : w.grownBy w' u.ownBlock) (hn : zqb w u) (hne : v.ownBlock = none ∨ v.ownBlock ≠ u.ownBlock) : zbb w' e B v q := by
 obtain ⟨xs, h1, h2⟩ := h
 exact ⟨xs, h1.grown hg hne, h2.grown hg hn⟩
theorem zbb.mono {B' : Nat} (h : zbb w e B v q) (hB : B' ≤ B) : zbb w e B' v q := by
 obtain ⟨xs, h1, h2⟩ := h
 refine ⟨xs, ⟨⟨h1.own.1, ?_⟩, h1.nl⟩, h2⟩
 rcases h1.own.2 with h | ⟨g, cap, cur, rfl, hb, rest⟩
 ·exact .inl h
 ·exact .inr ⟨g, cap, cur, rfl, by omega, rest⟩
theorem zne.snoc {xs : List Value} (h2 : zne w xs q) (hl : xs.length = q.length * 3) {x y z : Value} {r : Rat} (hf : zya w (.agg #[x, y, z]) r) : zne w (xs ++ [x, y, z]) (q ++ [r]) := by
 intro j hj
 obtain ⟨a, b, ha, h4, h5⟩ := hf
 injection ha with ha
 injection ha with ha
 simp only [List.cons.injEq, and_true] at ha
 obtain ⟨rfl, rfl, rfl⟩ := ha
 rcases Nat.lt_or_ge j q.length with h | h
 ·obtain ⟨a, b, e1, e2, e3, e4, e5⟩ := h2 j h
  rw [List.getElem_append_left h]
  exact ⟨a, b, by rw [List.getElem?_append_left (by omega)]; exact e1, by rw [List.getElem?_append_left (by omega)]; exact e2, by rw [List.getElem?_append_left (by omega)]; exact e3, e4, e5⟩
 ·obtain rfl : j = q.length := by simp at hj; omega
  have e0 : (q ++ [r])[q.length]'hj = r := by simp
  rw [e0, ← hl]
  refine ⟨y, z, ?_, ?_, ?_, h4, h5⟩
  ·rw [List.getElem?_append_right (Nat.le_refl _)]; simp
  ·rw [List.getElem?_append_right (by omega)]; simp
  ·rw [List.getElem?_append_right (by omega)]; simp
end
theorem append1_fr {P : Program} (t e : TypeId) (i : TypeInfo) (ht : P.underlying t = some (.slice e)) (hi : P.info? e = some i) (hz : i.zero = some (.agg #[.bool false, .slice none 0 0, .slice none 0 0])) (hsize : i.size = 3) (hby : i.bytes = 56)
 (w0 : World) {ops : Array Oper} {rest : List Oper} {o : Oper} {a : Act} {Q : Exit → Act → World → Prop} (hgd : o.guard = none) (s x : Operand)
 (ho : o.op = .call { callee := .builtin .append, args := #[s, x], argTypes := #[t, t] }) (B : Nat) (e' : TypeId)
 (v : Value) (q : List Rat) (hs : a.eval s = v) (hown : zbb w0 e B v q) (c0 c1 c2 : Value) (r : Rat) (hf : zya w0 (.agg #[c0, c1, c2]) r) (hxe : a.eval x = .slice (some ⟨w0.heap.size, 0, none⟩) 1 1) (hn : q.length ≤ 1000) (hbase : B ≤ w0.heap.size)
 (h : ∀ v' w', zbb w' e B v' (q ++ [r]) → w0.grownBy w' v.ownBlock → zqb w0 v → (v'.ownBlock = v.ownBlock ∨ v'.ownBlock = some (w0.heap.size + 1)) → zlc v' → wpList P ops Q rest (a.put o.dst v') w') :
 wpList P ops Q (o :: rest) a (w0.alloc (.cells #[c0, c1, c2] e')) := by
 obtain ⟨xs, h1, h2⟩ := hown
 have hl : xs.length = q.length * 3 := h1.clen
 have hf2 := hf
 obtain ⟨a1, b1, ha, h4, h5⟩ := hf2
 injection ha with ha
 injection ha with ha
 simp only [List.cons.injEq, and_true] at ha
 obtain ⟨rfl, rfl, rfl⟩ := ha
 obtain ⟨p1, p2, p3, rfl, _⟩ := h4.v.sl
 obtain ⟨s1, s2, s3, rfl, _⟩ := h5.v.sl
 refine znf w0 hgd s x t ho B e e' i _ 3 56 ht hi hz hsize hby rfl (by decide) (fun c hc z => by
  have hc2 : c ∈ [Value.bool false, .slice none 0 0, .slice none 0 0] := hc
  simp at hc2; rcases hc2 with rfl | rfl <;> simp) v q.length xs hs h1 #[.bool (decide (r < 0)), .slice p1 p2 p3, .slice s1 s2 s3] rfl hxe
  (fun u hu => by simp at hu; rcases hu with rfl | rfl | rfl <;> rfl) (fun u hu z => by simp at hu; rcases hu with rfl | rfl | rfl <;> simp) (by simp [maxLen]; omega) (by omega) hbase ?_
 intro v' w' k1 k2 k3
 refine h v' w' ⟨_, ?_, (zne.snoc (r := r) h2 hl hf).grown k2 h1.nl⟩ k2 h1.nl k3 k1.sl
 rw [List.length_append]
 exact k1
theorem append1_one {P : Program} (t e : TypeId) (i : TypeInfo) (z : Value) (bytes : Nat) (ht : P.underlying t = some (.slice e)) (hi : P.info? e = some i) (hz : i.zero = some z) (hsize : i.size = 1) (hby : i.bytes = bytes) (hby2 : bytes ≤ 64) (hzc : z.cells = #[z]) (hzn : ∀ k, z ≠ .int .u32 k)
 (w0 : World) {ops : Array Oper} {rest : List Oper} {o : Oper} {a : Act} {Q : Exit → Act → World → Prop} (hgd : o.guard = none) (s x : Operand)
 (ho : o.op = .call { callee := .builtin .append, args := #[s, x], argTypes := #[t, t] }) (B : Nat) (e' : TypeId)
 (v : Value) (xs : List Value) (hs : a.eval s = v) (hown : zuc w0 e B 1 v xs.length xs) (c : Value) (hc1 : c.oneCell' = true) (hcn : ∀ k, c ≠ .int .u32 k) (hxe : a.eval x = .slice (some ⟨w0.heap.size, 0, none⟩) 1 1) (hn : xs.length ≤ 1000) (hbase : B ≤ w0.heap.size)
 (h : ∀ v' w', zuc w' e B 1 v' (xs ++ [c]).length (xs ++ [c]) → w0.grownBy w' v.ownBlock → zqb w0 v → (v'.ownBlock = v.ownBlock ∨ v'.ownBlock = some (w0.heap.size + 1)) → zlc v' → wpList P ops Q rest (a.put o.dst v') w') :
 wpList P ops Q (o :: rest) a (w0.alloc (.cells #[c] e')) := by
 refine znf w0 hgd s x t ho B e e' i _ 1 bytes ht hi hz hsize hby (by rw [hzc]; rfl) (by decide) (fun d hd => by rw [hzc] at hd; simp at hd; subst hd; exact hzn) v xs.length xs hs hown #[c] rfl hxe
  (fun u hu => by simp at hu; subst hu; exact hc1) (fun u hu z => by simp at hu; subst hu; exact hcn z) (by simp [maxLen]; omega) (by have : (xs.length + 1) * bytes ≤ 1001 * 64 := Nat.mul_le_mul (by omega) hby2; omega) hbase ?_
 intro v' w' k1 k2 k3
 refine h v' w' ?_ k2 hown.nl k3 k1.sl
 rw [List.length_append]
 exact k1
theorem zkb.frRow {w : World} {e : TypeId} {B n : Nat} {v : Value} {q : List Rat} (h : zkb w e B v n) (hl : q.length = n) (he : ∀ j (hj : j < q.length), zbg w v j q[j]) : zbb w e B v q := by
 obtain ⟨g, cs, rfl, h1, h2⟩ := id h
 have hcl : cs.length = n * 3 := h1.1
 refine ⟨cs, ⟨by rw [hl]; exact h1, ?_⟩, fun j hj => ?_⟩
 ·intro g' hg' cur e' fz hc c hcc z
  rcases h1.2 with ⟨h', _⟩ | ⟨g2, cap, cur2, h', hb, hg, _, _, hs, ht⟩
  ·cases h'
  ·injection h' with h4 h5 h6
   injection h4 with h4
   injection h4 with h4
   subst h4
   simp only [Value.ownBlock, Option.some.injEq] at hg'
   subst hg'
   rw [hc] at hg
   injection hg with hg
   injection hg with hg _ _
   subst hg
   have e9 : cur.toList = cs := by
    rw [← ht]
    exact (List.take_of_length_le (by rw [Array.length_toList, hs, ← h6]; exact Nat.le_refl _)).symm
   exact h2 c (by rw [← e9]; exact hcc) z
 ·obtain ⟨a, b, e1, e2, e3, e4, e5⟩ := he j hj
  have hc : ∀ i u, i < cs.length → w.cell? (Go.Proofs.YtlpdkbmmbdfoiaaGreat.ptr (.slice (some ⟨g, 0, none⟩) n n) i) = some u → cs[i]? = some u := fun i u hi hu => by
   have := World.ownsRow.cellAt h1 i (by omega)
   simp only [Go.Proofs.YtlpdkbmmbdfoiaaGreat.ptr, base, Addr.add_lit, Nat.zero_add] at hu
   rw [hu] at this
   exact this.symm
  exact ⟨a, b, hc _ _ (by omega) e1, hc _ _ (by omega) e2, hc _ _ (by omega) e3, e4, e5⟩
end Go.Proofs.YtlpdkbmmbdfoiaaGreat
namespace Go.Proofs.YtlpdkbmmbdfoiaaGreat
def sg : Nat → (Nat → Rat) → Rat
 | 0, _ => 0
 | n + 1, f => sg n f + f n
theorem zma {n : Nat} {f g : Nat → Rat} (h : ∀ i, i < n → f i = g i) : sg n f = sg n g := by
 induction n with
 | zero => rfl
 | succ n ih => rw [sg, sg, ih (fun i hi => h i (by omega)), h n (by omega)]
theorem zgi (n : Nat) : sg n (fun _ => 0) = 0 := by
 induction n with
 | zero => rfl
 | succ n ih => rw [sg, ih]; grind
theorem zue (n : Nat) (f g : Nat → Rat) : sg n (fun i => f i + g i) = sg n f + sg n g := by
 induction n with
 | zero => simp [sg]; grind
 | succ n ih => simp only [sg, ih]; grind
theorem zeb (n : Nat) (c : Rat) (f : Nat → Rat) : sg n (fun i => c * f i) = c * sg n f := by
 induction n with
 | zero => simp [sg]
 | succ n ih => simp only [sg, ih]; grind
theorem zsd (n : Nat) (c : Rat) (f : Nat → Rat) : sg n (fun i => f i * c) = sg n f * c := by
 induction n with
 | zero => simp [sg]
 | succ n ih => simp only [sg, ih]; grind
theorem sg_comm (n m : Nat) (f : Nat → Nat → Rat) : sg n (fun i => sg m (fun j => f i j)) = sg m (fun j => sg n (fun i => f i j)) := by
 induction n with
 | zero => simp only [sg]; rw [zgi]
 | succ n ih => simp only [sg]; rw [ih, ← zue]
theorem zed {m k : Nat} (h : k < m) (f : Nat → Rat) : sg m (fun a => if k = a then f a else 0) = f k := by
 induction m with
 | zero => omega
 | succ m ih =>
   rw [sg]
   by_cases hk : k = m
   ·subst hk
    rw [zma (g := fun _ => 0) (fun i hi => if_neg (by omega)), zgi, if_pos rfl]
    grind
   ·rw [ih (by omega), if_neg hk]
    grind
def slimS (q : Rat) (k : Nat) : Prop := ∃ (z : Int) (D : Nat), D ≠ 0 ∧ q = mkRat z D ∧ z.natAbs + D ≤ 2 ^ k
theorem slimS_mul {p q : Rat} {j k : Nat} (hp : slimS p j) (hq : slimS q k) : slimS (p * q) (j + k) := by
 obtain ⟨z, D, h1, rfl, h2⟩ := hp
 obtain ⟨n, d, h3, rfl, h4⟩ := hq
 refine ⟨z * n, D * d, Nat.mul_ne_zero h1 h3, Rat.mkRat_mul_mkRat _ _ _ _, ?_⟩
 rw [Nat.pow_add]
 have h5 := Nat.mul_le_mul h2 h4
 rw [Int.natAbs_mul]
 rw [Nat.add_mul, Nat.mul_add, Nat.mul_add] at h5
 have := Nat.zero_le (z.natAbs * d)
 have := Nat.zero_le (D * n.natAbs)
 omega
theorem slimS_wt (q : Rat) : slimS q (wt q) := by
 refine ⟨q.num, q.den, q.den_nz, (Rat.mkRat_self q).symm, ?_⟩
 unfold wt
 have h0 : zta q.num.natAbs ≤ zta q.num.natAbs := Nat.le_refl _
 have h1 : zta q.den ≤ zta q.den := Nat.le_refl _
 rw [zub] at h0 h1
 split
 ·next hz =>
  have e : q = 0 := Rat.num_eq_zero.1 hz
  subst e
  decide
 ·split
  ·next hz hd => simp only [hd, Nat.add_zero]; omega
  ·next hz hd =>
   have hn : q.num.natAbs ≠ 0 := by omega
   have hd0 := q.den_nz
   have h2 : 1 < zta q.den := zke.2 (by omega)
   have h3 : 0 < zta q.num.natAbs := zid.2 hn
   rw [Nat.pow_add]
   have e1 : 2 ^ 1 ≤ 2 ^ zta q.num.natAbs := Nat.pow_le_pow_right (by decide) h3
   have e2 : 2 ^ 1 ≤ 2 ^ zta q.den := Nat.pow_le_pow_right (by decide) (by omega)
   generalize 2 ^ zta q.num.natAbs = A at *
   generalize 2 ^ zta q.den = B at *
   obtain ⟨a, rfl⟩ : ∃ a, A = a + 2 := ⟨A - 2, by omega⟩
   obtain ⟨b, rfl⟩ : ∃ b, B = b + 2 := ⟨B - 2, by omega⟩
   have e3 : (a + 2) * (b + 2) = a * b + 2 * a + 2 * b + 4 := by grind
   rw [e3]
   have := Nat.zero_le (a * b)
   omega
theorem slimS_fits {q : Rat} {k : Nat} (h : slimS q k) (hk : k ≤ 4095) : fits q := by
 obtain ⟨z, D, h1, rfl, h3⟩ := h
 have e : mkRat z D = fq (decide (z < 0)) z.natAbs D := by
  unfold fq sgn
  by_cases hz : z < 0
  ·rw [decide_eq_true hz, if_pos rfl]; congr 1; omega
  ·rw [decide_eq_false hz, if_neg (by decide)]; congr 1; omega
 rw [e]
 have h5 : 2 ^ k < 2 ^ (k + 1) := Nat.pow_lt_pow_right (by decide) (Nat.lt_succ_self k)
 have h6 : k + 1 ≤ 4096 := by omega
 refine ⟨?_, ?_⟩
 ·rw [zaf _ _ _ h1]
  exact Nat.le_trans (zje (Nat.lt_of_le_of_lt (Nat.div_le_self _ _) (Nat.lt_of_le_of_lt (Nat.le_trans (Nat.le_add_right z.natAbs D) h3) h5))) h6
 ·rw [zkm _ _ _ h1]
  exact Nat.le_trans (zje (Nat.lt_of_le_of_lt (Nat.div_le_self _ _) (Nat.lt_of_le_of_lt (Nat.le_trans (Nat.le_add_left D z.natAbs) h3) h5))) h6
theorem mul_fits26 {x y : Rat} (hw : wt x + wt y ≤ 3800) : fits (x * y) := slimS_fits (slimS_mul (slimS_wt _) (slimS_wt _)) (by omega)
def over (D B : Nat) (q : Rat) : Prop := ∃ z : Int, q = mkRat z D ∧ z.natAbs ≤ B
theorem over.zero (D B : Nat) : over D B 0 := ⟨0, by simp, by simp⟩
theorem over.mono {D A B : Nat} {q : Rat} (h : over D A q) (hB : A ≤ B) : over D B q := by
 obtain ⟨z, h1, h2⟩ := h
 exact ⟨z, h1, by omega⟩
theorem over.add {D A B : Nat} {p q : Rat} (hD : D ≠ 0) (hp : over D A p) (hq : over D B q) : over D (A + B) (p + q) := by
 obtain ⟨y, rfl, h1⟩ := hp
 obtain ⟨z, rfl, h2⟩ := hq
 refine ⟨y + z, ?_, ?_⟩
 ·rw [Rat.mkRat_add_mkRat _ _ hD hD, ← Int.add_mul]
  exact Rat.mkRat_mul_right hD
 ·have := Int.natAbs_add_le y z
  omega
theorem over.neg {D A : Nat} {p : Rat} (hp : over D A p) : over D A (-p) := by
 obtain ⟨y, rfl, h1⟩ := hp
 exact ⟨-y, by rw [Rat.neg_mkRat], by omega⟩
theorem over.mul {D E A B : Nat} {p q : Rat} (hp : over D A p) (hq : over E B q) : over (D * E) (A * B) (p * q) := by
 obtain ⟨y, rfl, h1⟩ := hp
 obtain ⟨z, rfl, h2⟩ := hq
 exact ⟨y * z, Rat.mkRat_mul_mkRat _ _ _ _, by rw [Int.natAbs_mul]; exact Nat.mul_le_mul h1 h2⟩
theorem over.scale {D A m : Nat} {p : Rat} (hm : m ≠ 0) (hp : over D A p) : over (D * m) (A * m) p := by
 obtain ⟨y, rfl, h1⟩ := hp
 exact ⟨y * m, (Rat.mkRat_mul_right hm).symm, by rw [Int.natAbs_mul, Int.natAbs_natCast]; exact Nat.mul_le_mul_right _ h1⟩
theorem over.sg {D B n : Nat} {f : Nat → Rat} (hD : D ≠ 0) (h : ∀ i, i < n → over D B (f i)) : over D (n * B) (sg n f) := by
 induction n with
 | zero => exact over.zero _ _
 | succ n ih => rw [Nat.succ_mul]; exact over.add hD (ih fun i hi => h i (by omega)) (h n (by omega))
theorem over.fq {D B : Nat} {q : Rat} (h : over D B q) : ∃ (s : Bool) (n : Nat), q = fq s n D ∧ n ≤ B := by
 obtain ⟨z, rfl, h2⟩ := h
 refine ⟨decide (z < 0), z.natAbs, ?_, h2⟩
 unfold Go.Proofs.YtlpdkbmmbdfoiaaGreat.fq sgn
 by_cases hz : z < 0
 ·rw [decide_eq_true hz, if_pos rfl]; congr 1; omega
 ·rw [decide_eq_false hz, if_neg (by decide)]; congr 1; omega
theorem over.wt {D B a b : Nat} {q : Rat} (hD : D ≠ 0) (h : over D B q) (ha : B < 2 ^ a) (hb : D < 2 ^ b) : wt q ≤ a + b := by
 obtain ⟨s, n, rfl, h1⟩ := h.fq
 have h2 : zta (Go.Proofs.YtlpdkbmmbdfoiaaGreat.fq s n D).num.natAbs ≤ a := by
  rw [zaf _ _ _ hD]
  exact zje (Nat.lt_of_le_of_lt (Nat.div_le_self _ _) (Nat.lt_of_le_of_lt h1 ha))
 have h3 : zta (Go.Proofs.YtlpdkbmmbdfoiaaGreat.fq s n D).den ≤ b := by
  rw [zkm _ _ _ hD]
  exact zje (Nat.lt_of_le_of_lt (Nat.div_le_self _ _) hb)
 unfold Go.Proofs.YtlpdkbmmbdfoiaaGreat.wt
 split
 ·omega
 ·split <;> omega
theorem over.fits {D B : Nat} {q : Rat} (hD : D ≠ 0) (h : over D B q) (ha : B < 2 ^ 4096) (hb : D < 2 ^ 4096) : fits q := by
 obtain ⟨s, n, rfl, h1⟩ := h.fq
 refine ⟨?_, ?_⟩
 ·rw [zaf _ _ _ hD]
  exact zje (Nat.lt_of_le_of_lt (Nat.div_le_self _ _) (Nat.lt_of_le_of_lt h1 ha))
 ·rw [zkm _ _ _ hD]
  exact zje (Nat.lt_of_le_of_lt (Nat.div_le_self _ _) hb)
theorem over.one {D : Nat} (hD : D ≠ 0) : over D D 1 := ⟨D, by
 have := Rat.mkRat_self 1
 have h := Rat.mkRat_mul_right (n := 1) (d := 1) hD
 rw [Int.one_mul, Nat.one_mul] at h
 rw [h]; exact this.symm, by simp⟩
theorem lsum_sg (l : List Rat) : zwg l = sg l.length (fun j => l.getD j 0) := by
 have key : ∀ k, k ≤ l.length → zwg (l.take k) = sg k (fun j => l.getD j 0) := by
  intro k
  induction k with
  | zero => intro _; simp [sg, zwg]
  | succ k ih =>
    intro h
    rw [lsum_take l k (by omega), sg, ih (by omega)]
    simp [List.getD, List.getElem?_eq_getElem (show k < l.length by omega)]
 have := key l.length (Nat.le_refl _)
 rwa [List.take_length] at this
def fp (z : Nat → Bool) : Nat → Nat → Nat
 | 0, r => r
 | f + 1, r => if z r = true then r else fp z f (r + 1)
theorem fp_ge (z : Nat → Bool) (f r : Nat) : r ≤ fp z f r ∧ fp z f r ≤ r + f := by
 induction f generalizing r with
 | zero => exact ⟨Nat.le_refl _, Nat.le_refl _⟩
 | succ f ih => rw [fp]; have := ih (r + 1); split <;> omega
theorem fp_before (z : Nat → Bool) (f r : Nat) : ∀ i, r ≤ i → i < fp z f r → z i = false := by
 induction f generalizing r with
 | zero => intro i h1 h2; rw [fp] at h2; omega
 | succ f ih =>
   intro i h1 h2
   rw [fp] at h2
   split at h2
   ·omega
   ·next h =>
    rcases Nat.eq_or_lt_of_le h1 with h3 | h3
    ·subst h3; simpa using h
    ·exact ih (r + 1) i h3 h2
theorem fp_at (z : Nat → Bool) (f r : Nat) (h : fp z f r < r + f) : z (fp z f r) = true := by
 induction f generalizing r with
 | zero => rw [fp] at h; omega
 | succ f ih =>
   rw [fp] at h ⊢
   split
   ·next h1 => exact h1
   ·next h1 => rw [if_neg h1] at h; exact ih (r + 1) (by omega)
theorem fp_eq {z : Nat → Bool} {f r k : Nat} (h1 : r ≤ k) (h2 : k ≤ r + f) (h3 : ∀ i, r ≤ i → i < k → z i = false) (h4 : k < r + f → z k = true) : fp z f r = k := by
 have g1 := fp_ge z f r
 rcases Nat.lt_trichotomy (fp z f r) k with h | h | h
 ·have := fp_at z f r (by omega)
  rw [h3 _ g1.1 h] at this; cases this
 ·exact h
 ·have := fp_before z f r k h1 h
  rw [h4 (by omega)] at this; cases this
abbrev Mx := Nat → Nat → Rat
def swp (A : Mx) (a b : Nat) : Mx := fun i => if i = a then A b else if i = b then A a else A i
structure St where
 A : Mx
 r : Nat
 d : Rat
def act (below : Bool) (A : Mx) (r k i : Nat) : Prop := i ≠ r ∧ ¬ (below = true ∧ i < r) ∧ A i k ≠ 0
instance (below : Bool) (A : Mx) (r k i : Nat) : Decidable (act below A r k i) := inferInstanceAs (Decidable (_ ∧ _ ∧ _))
def zyi (below : Bool) (A : Mx) (r k : Nat) : Mx := fun i j => if act below A r k i ∧ k ≤ j then A i j - A i k / A r k * A r j else A i j
def pvt (n k : Nat) (S : St) : Nat := fp (fun i => decide (S.A i k ≠ 0)) (n - S.r) S.r
def zof (below : Bool) (n k : Nat) (S : St) : St :=
 if pvt n k S < n then ⟨zyi below (swp S.A S.r (pvt n k S)) S.r k, S.r + 1, (if pvt n k S = S.r then S.d else -S.d) * swp S.A S.r (pvt n k S) S.r k⟩ else S
def elim (below : Bool) (n : Nat) (A : Mx) : Nat → St
 | 0 => ⟨A, 0, 1⟩
 | k + 1 => zof below n k (elim below n A k)
theorem zme (below : Bool) (n : Nat) (A : Mx) (k : Nat) : (elim below n A k).r ≤ n ∧ (elim below n A k).r ≤ k := by
 induction k with
 | zero => exact ⟨Nat.zero_le _, Nat.le_refl _⟩
 | succ k ih =>
   rw [elim, zof]
   have := fp_ge (fun i => decide ((elim below n A k).A i k ≠ 0)) (n - (elim below n A k).r) (elim below n A k).r
   split
   ·next h => unfold pvt at h; show (elim below n A k).r + 1 ≤ n ∧ (elim below n A k).r + 1 ≤ k + 1; omega
   ·omega
theorem estep_stop {below : Bool} {n k : Nat} {S : St} (h : n ≤ S.r) : zof below n k S = S := by
 have := fp_ge (fun i => decide (S.A i k ≠ 0)) (n - S.r) S.r
 rw [zof, if_neg (by unfold pvt; omega)]
theorem elim_stop {below : Bool} {n : Nat} {A : Mx} {k : Nat} (h : (elim below n A k).r = n) : ∀ j, k ≤ j → elim below n A j = elim below n A k
 | 0, hj => by obtain rfl : k = 0 := by omega
               rfl
 | j + 1, hj => by
   rcases Nat.eq_or_lt_of_le hj with h1 | h1
   ·rw [h1]
   ·have ih := elim_stop h j (by omega)
    rw [elim, ih, estep_stop (by omega)]
def fitE (below : Bool) (n m k : Nat) (S : St) : Prop :=
 pvt n k S < n → fits (-S.d) ∧ fits ((if pvt n k S = S.r then S.d else -S.d) * swp S.A S.r (pvt n k S) S.r k) ∧
  ∀ i, i < n → act below (swp S.A S.r (pvt n k S)) S.r k i → fits (swp S.A S.r (pvt n k S) i k / swp S.A S.r (pvt n k S) S.r k) ∧
   ∀ j, j < m → k ≤ j → fits (swp S.A S.r (pvt n k S) i k / swp S.A S.r (pvt n k S) S.r k * swp S.A S.r (pvt n k S) S.r j) ∧
    fits (swp S.A S.r (pvt n k S) i j - swp S.A S.r (pvt n k S) i k / swp S.A S.r (pvt n k S) S.r k * swp S.A S.r (pvt n k S) S.r j)
theorem over.zero' {D B : Nat} {z : Int} (hD : D ≠ 0) (h : mkRat z D ≠ 0) : z ≠ 0 := fun e => h (by rw [e]; simp)
theorem div_mk {y z : Int} {D : Nat} (hD : D ≠ 0) (hz : z ≠ 0) : mkRat y D / mkRat z D = mkRat (y * z.sign) z.natAbs := by
 have hn : z.natAbs ≠ 0 := by omega
 have hq : mkRat z D ≠ 0 := fun e => hz ((Rat.mkRat_eq_zero hD).1 e)
 have e : mkRat y D = mkRat (y * z.sign) z.natAbs * mkRat z D := by
  rw [Rat.mkRat_mul_mkRat, Int.mul_assoc, Int.sign_mul_self, Int.mul_comm y]
  exact (Rat.mkRat_mul_left hn).symm
 rw [e, Rat.mul_div_cancel hq]
theorem over.quo {D B : Nat} {p : Rat} {z : Int} (hD : D ≠ 0) (hp : over D B p) (hz : z ≠ 0) : over z.natAbs B (p / mkRat z D) := by
 obtain ⟨y, rfl, h1⟩ := hp
 refine ⟨y * z.sign, div_mk hD hz, ?_⟩
 rw [Int.natAbs_mul, Int.natAbs_sign_of_ne_zero hz, Nat.mul_one]
 exact h1
theorem over.sub {D A B : Nat} {p q : Rat} (hD : D ≠ 0) (hp : over D A p) (hq : over D B q) : over D (A + B) (p - q) := by
 rw [Rat.sub_eq_add_neg]; exact over.add hD hp (over.neg hq)
def overT (n m D B : Nat) (A : Mx) : Prop := ∀ i j, i < n → j < m → over D B (A i j)
def grow : Nat → Nat × Nat × Nat × Nat → Nat × Nat × Nat × Nat
 | 0, x => x
 | k + 1, x => let (b, d, e, f) := grow k x; (2 * (b * b), d * b, e * b, f * d)
def slim4 (x : Nat × Nat × Nat × Nat) : Prop := x.1 < 2 ^ 4096 ∧ x.2.1 < 2 ^ 4096 ∧ x.2.2.1 < 2 ^ 4096 ∧ x.2.2.2 < 2 ^ 4096
instance (x : Nat × Nat × Nat × Nat) : Decidable (slim4 x) := inferInstanceAs (Decidable (_ ∧ _ ∧ _ ∧ _))
theorem zrj {A : Mx} {a b : Nat} : swp A a b a = A b := by unfold swp; rw [if_pos rfl]
theorem pvt_ne {n k : Nat} {S : St} (hn : S.r ≤ n) (h : pvt n k S < n) : S.A (pvt n k S) k ≠ 0 := by
 have := fp_at (fun i => decide (S.A i k ≠ 0)) (n - S.r) S.r (by unfold pvt at h; omega)
 unfold pvt
 simpa using this
theorem zlk (n k : Nat) (S : St) : S.r ≤ pvt n k S := (fp_ge _ _ _).1
end Go.Proofs.YtlpdkbmmbdfoiaaGreat
