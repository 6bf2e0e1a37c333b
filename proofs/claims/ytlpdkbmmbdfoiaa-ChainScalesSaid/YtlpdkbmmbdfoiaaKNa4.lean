/-
  package natural: Sub.
-/
import Derived.Test.YtlpdkbmmbdfoiaaKRep
import Derived.Laws.AppendOwnNone
import Derived.Test.YtlpdkbmmbdfoiaaProg
import Derived.WalkKit
set_option linter.unusedVariables false
set_option linter.unusedSimpArgs false
namespace Go.Proofs.Ytlpdkbmmbdfoiaa
open Go.RowKit
def zub (w : World) (e : TypeId) (B : Nat) (v : Value) (es : List Value) : Prop := w.ownsRow B e 1 v es.length es
section
variable {w : World} {e : TypeId} {B : Nat} {v : Value} {es : List Value}
theorem zub.nil (w : World) (e : TypeId) (B : Nat) : zub w e B (.slice none 0 0) [] := World.ownsRow_nil w B e 1
theorem zub.sl (h : zub w e B v es) : IsSl v := by
 rcases h.2 with ⟨rfl, h0⟩ | ⟨g, cap, cur, rfl, hb, hg, hn, hm, hs, ht⟩
 ·exact IsSl.nil
 ·exact ⟨_, _, _, rfl, hn, hm, fun e => by cases e⟩
theorem zub.len (h : zub w e B v es) : slen v = es.length := by
 rcases h.2 with ⟨rfl, h0⟩ | ⟨g, cap, cur, rfl, hb, hg, hn, hm, hs, ht⟩
 ·rw [h0]; rfl
 ·rfl
theorem zub.cell (h : zub w e B v es) (j : Nat) (hj : j < es.length) : w.cell? (ptr v j) = some es[j] := by
 rcases h.2 with ⟨rfl, h0⟩ | ⟨g, cap, cur, rfl, hb, hg, hn, hm, hs, ht⟩
 ·omega
 ·have := World.ownsRow.cellAt h j (by omega)
  simp only [ptr, base, Addr.add_lit, Nat.zero_add]
  rw [this, List.getElem?_eq_getElem hj]
theorem zub.frozen (h : zub w e B v es) (j : Nat) (hj : j < es.length) : w.frozen? (ptr v j) = false := by
 rcases h.2 with ⟨rfl, h0⟩ | ⟨g, cap, cur, rfl, hb, hg, hn, hm, hs, ht⟩
 ·omega
 ·have := World.ownsRow.frozenAt h j
  simpa only [ptr, base, Addr.add_lit, Nat.zero_add] using this
theorem zub.block (h : zub w e B v es) (hj : 0 < es.length) : B ≤ (base v).block ∧ (base v).block < w.heap.size := by
 rcases h.2 with ⟨rfl, h0⟩ | ⟨g, cap, cur, rfl, hb, hg, hn, hm, hs, ht⟩
 ·omega
 ·exact ⟨hb, (Array.getElem?_eq_some_iff.1 hg).1⟩
theorem below_of_grown {w w' : World} {row : Option Nat} {B : Nat} (hg : w.grownBy w' row) (hB : B ≤ w.heap.size) (hr : ∀ k, row = some k → B ≤ k) : Below B w w' :=
 (Below.refl B w).grown hg hB hr
theorem zzb {w w' : World} (h : Below w.heap.size w w') : w.grownBy w' none :=
 ⟨h.os, h.tape, h.output, h.size, fun k hk _ => h.block k hk⟩
theorem zub.below {w' : World} (h : zub w e B v es) (hb : Below w.heap.size w w') : zub w' e B v es :=
 World.ownsRow.kept h (zzb hb) (by cases hv : v.ownBlock <;> simp)
theorem zub.alloc (h : zub w e B v es) (o : Obj) : zub (w.alloc o) e B v es := World.ownsRow.alloc h o
theorem zub.set (h : zub w e B v es) (j : Nat) (hj : j < es.length) (u : Value) : zub (w.setCell (ptr v j) u) e B v (es.set j u) ∧ Below B w (w.setCell (ptr v j) u) := by
 have hbl := h.block (by omega)
 rcases h.2 with ⟨rfl, h0⟩ | ⟨g, cap, cur, rfl, hb, hg, hn, hm, hs, ht⟩
 ·omega
 ·have hs := World.ownsRow.stored h j u
  simp only [ptr, base, Addr.add_lit, Nat.zero_add]
  refine ⟨?_, below_of_grown hs.2 (by simp only [base] at hbl; omega) (fun k hk => by simp at hk; omega)⟩
  have := hs.1
  unfold zub
  rw [List.length_set]
  exact this
theorem zub.other (h : zub w e B v es) (p : Addr) (u : Value) (hp : p.block ≠ (base v).block) : zub (w.setCell p u) e B v es := by
 refine ⟨h.1, ?_⟩
 rcases h.2 with ⟨rfl, h0⟩ | ⟨g, cap, cur, rfl, hb, hg, hn, hm, hs, ht⟩
 ·exact .inl ⟨rfl, h0⟩
 ·refine .inr ⟨g, cap, cur, rfl, hb, ?_, hn, hm, hs, ht⟩
  simp only [base] at hp
  rw [Below.heap_setCell _ _ _ _ (fun e => hp e.symm)]; exact hg
theorem zub.mono {B' : Nat} (h : zub w e B v es) (hB : B' ≤ B) : zub w e B' v es := by
 refine ⟨h.1, ?_⟩
 rcases h.2 with ⟨rfl, h0⟩ | ⟨g, cap, cur, rfl, hb, rest⟩
 ·exact .inl ⟨rfl, h0⟩
 ·exact .inr ⟨g, cap, cur, rfl, by omega, rest⟩
end
theorem zdg {P : Program} (w : World) {ops : Array Oper} {rest : List Oper} {o : Oper} {a : Act} {Q : Exit → Act → World → Prop}
 (hg : o.guard = none) (l c : Operand) (t : TypeId) (hop : o.op = Op.makeSlice t l c)
 (B : Nat) (e : TypeId) (i : TypeInfo) (z : Value) (h1 : P.underlying t = some (.slice e)) (h2 : P.info? e = some i) (h3 : i.zero = some z) (h4 : i.size = 1) (hz1 : z.cells = #[z])
 (n : Nat) (hl : a.eval l = .int .i64 n) (hc : a.eval c = .int .i64 n) (b2 : i.bytes * n ≤ 281474976710656) (b3 : n ≤ maxLen) (b4 : B ≤ w.heap.size)
 (hK : ∀ v w', zub w' e B v (List.replicate n z) → Below w.heap.size w w' → w.heap.size ≤ (base v).block → wpList P ops Q rest (a.put o.dst v) w') :
 wpList P ops Q (o :: rest) a w := by
 refine wpList_make_full w hg l c t hop B e i z 1 h1 h2 h3 h4 .i64 .i64 n n n hl hc rfl rfl b2 b3 b4 ?_
 intro w' hown hgr
 refine hK _ w' ?_ (below_of_grown hgr (Nat.le_refl _) (fun k hk => by cases hk)) (by simp [base])
 have : (madeCells z.cells (n * 1)).toList = List.replicate n z := by rw [hz1, Nat.mul_one, toList_madeCells_one]
 rw [this] at hown
 unfold zub
 rw [List.length_replicate]
 exact hown
theorem zxh {P : Program} (w : World) (B : Nat) (t ty e : TypeId) (i : TypeInfo) (z : Value) (bytes : Nat) (ht : P.underlying t = some (.slice e)) (hi : P.info? e = some i) (hz : i.zero = some z)
 (hsize : i.size = 1) (hby : i.bytes = bytes) (hzs : z.cells.size = 1)
 (v : Value) (es : List Value) (hown : zub w e B v es) (x : Value) (hx : IsSl x) (news : List Value) (hlen : slen x = news.length)
 (hnews : ∀ j (hj : j < news.length), w.cell? (ptr x j) = some news[j]) (h1 : ∀ u ∈ news, u.oneCell' = true)
 (h63 : es.length + news.length ≤ maxLen) (hbytes : (es.length + news.length) * bytes ≤ 140737488355328) (hbase : B ≤ w.heap.size) :
 ∃ v' w', (Builtin.append_ #[t, t] ty #[v, x]).run P w = .ok v' w' ∧ zub w' e B v' (es ++ news) ∧ w.grownBy w' v.ownBlock := by
 obtain ⟨a, n, cap, rfl, hnc, hcm, hnil⟩ := hx
 simp only [slen] at hlen
 subst hlen
 cases a with
 | none =>
   have := hnil rfl
   obtain rfl : cap = 0 := this
   have hn : news = [] := List.eq_nil_of_length_eq_zero (by omega)
   subst hn
   refine ⟨v, w, run_append_owned_none w B t ty e i 1 ht hi v es.length es hown, ?_, ⟨rfl, rfl, rfl, Nat.le_refl _, fun _ _ _ => rfl⟩⟩
   rw [List.append_nil]; exact hown
 | some a =>
   obtain ⟨v', w', h2, h3, h4, _⟩ := run_append_own (P := P) w B t ty e i z 1 bytes ht hi hz hsize hby hzs (by omega) v es.length es hown a news.length cap news (by omega)
    (fun j u hu => by
     have hj : j < news.length := (List.getElem?_eq_some_iff.1 hu).1
     have := hnews j hj
     simp only [ptr, base] at this
     rw [this]; rw [List.getElem?_eq_getElem hj] at hu; exact hu) h1 h63 hbytes hbase
   refine ⟨v', w', h2, ?_, h4⟩
   unfold zub
   rw [List.length_append]
   exact h3
theorem zub.ownBlock {w : World} {e : TypeId} {B : Nat} {v : Value} {es : List Value} (h : zub w e B v es) : ∀ k, v.ownBlock = some k → B ≤ k := fun k hk => (World.ownsRow.lt h k hk).1
theorem zic {P : Program} (w : World) {ops : Array Oper} {rest : List Oper} {o : Oper} {a : Act} {Q : Exit → Act → World → Prop} (hgd : o.guard = none) (s x : Operand) (t : TypeId)
 (ho : o.op = .call { callee := .builtin .append, args := #[s, x], argTypes := #[t, t] })
 (B : Nat) (e : TypeId) (i : TypeInfo) (z : Value) (bytes : Nat) (ht : P.underlying t = some (.slice e)) (hi : P.info? e = some i) (hz : i.zero = some z)
 (hsize : i.size = 1) (hby : i.bytes = bytes) (hzs : z.cells.size = 1)
 (v : Value) (es : List Value) (hs : a.eval s = v) (hown : zub w e B v es) (xv : Value) (hxe : a.eval x = xv) (hx : IsSl xv) (news : List Value) (hlen : slen xv = news.length)
 (hnews : ∀ j (hj : j < news.length), w.cell? (ptr xv j) = some news[j]) (h1 : ∀ u ∈ news, u.oneCell' = true)
 (h63 : es.length + news.length ≤ maxLen) (hbytes : (es.length + news.length) * bytes ≤ 140737488355328) (hbase : B ≤ w.heap.size)
 (h : ∀ v' w', zub w' e B v' (es ++ news) → w.grownBy w' v.ownBlock → Below B w w' → wpList P ops Q rest (a.put o.dst v') w') : wpList P ops Q (o :: rest) a w := by
 refine wpList_plain hgd fun K hK => ?_
 obtain ⟨v', w', hr, h2, h3⟩ := zxh (P := P) w B t o.type e i z bytes ht hi hz hsize hby hzs v es hown xv hx news hlen hnews h1 h63 hbytes hbase
 unfold Oper.wp execOp
 simp only [ho, resolve, invoke, builtin, Sem.run_bind, Sem.run_pure, Result.andThen_ok, List.map_toArray, List.map_cons, List.map_nil, hs, hxe, hr]
 exact hK _ _ (h v' w' h2 h3 (below_of_grown h3 hbase hown.ownBlock))
theorem zqe {P : Program} (w0 : World) {ops : Array Oper} {rest : List Oper} {o : Oper} {a : Act} {Q : Exit → Act → World → Prop} (hgd : o.guard = none) (s x : Operand) (t : TypeId)
 (ho : o.op = .call { callee := .builtin .append, args := #[s, x], argTypes := #[t, t] })
 (B : Nat) (e e' : TypeId) (i : TypeInfo) (z : Value) (bytes : Nat) (ht : P.underlying t = some (.slice e)) (hi : P.info? e = some i) (hz : i.zero = some z)
 (hsize : i.size = 1) (hby : i.bytes = bytes) (hzs : z.cells.size = 1)
 (v : Value) (es : List Value) (hs : a.eval s = v) (hown : zub w0 e B v es) (u : Value) (hxe : a.eval x = .slice (some ⟨w0.heap.size, 0, none⟩) 1 1) (h1 : u.oneCell' = true)
 (h63 : es.length + 1 ≤ maxLen) (hbytes : (es.length + 1) * bytes ≤ 140737488355328) (hbase : B ≤ w0.heap.size)
 (h : ∀ v' w', zub w' e B v' (es ++ [u]) → Below B w0 w' → wpList P ops Q rest (a.put o.dst v') w') : wpList P ops Q (o :: rest) a (w0.alloc (.cells #[u] e')) := by
 refine zic (w0.alloc (.cells #[u] e')) hgd s x t ho B e i z bytes ht hi hz hsize hby hzs v es hs (hown.alloc _) _ hxe ⟨_, 1, 1, rfl, Nat.le_refl _, by simp [maxLen], fun e => by cases e⟩ [u] rfl
  (fun j hj => ?_) (fun u' hu' => by simp at hu'; subst hu'; exact h1) h63 hbytes (by simp; omega) (fun v' w' h2 _ h3 => h v' w' h2 (((Below.refl B w0).alloc hbase _).trans h3))
 have hj0 : j = 0 := by simp at hj; omega
 subst hj0
 simp [ptr, base, Addr.add]
def u32V (x : Nat) : Value := .int .u32 (x : Nat)
structure zmb (w : World) (e : TypeId) (B : Nat) (v : Value) (o : List Nat) : Prop where
 own : zub w e B v (o.map u32V)
 lm : Lm o
section
variable {w : World} {e : TypeId} {B : Nat} {v : Value} {o : List Nat}
theorem zmb.nil (w : World) (e : TypeId) (B : Nat) : zmb w e B (.slice none 0 0) [] := ⟨zub.nil w e B, fun x h => by simp at h⟩
theorem zmb.nat (h : zmb w e B v o) : NatV w v o :=
 ⟨h.own.sl, by rw [h.own.len, List.length_map], fun j hj => by rw [h.own.cell j (by simpa using hj)]; simp [u32V], h.lm⟩
theorem zmb.below {w' : World} (h : zmb w e B v o) (hb : Below w.heap.size w w') : zmb w' e B v o := ⟨h.own.below hb, h.lm⟩
theorem zmb.frozen (h : zmb w e B v o) (j : Nat) (hj : j < o.length) : w.frozen? (ptr v j) = false := h.own.frozen j (by simpa using hj)
theorem zmb.block (h : zmb w e B v o) (hj : 0 < o.length) : B ≤ (base v).block ∧ (base v).block < w.heap.size := h.own.block (by simpa using hj)
theorem Lm.set {o : List Nat} (h : Lm o) (j x : Nat) (hx : x < 4294967296) : Lm (o.set j x) := fun y hy => by
 rcases List.mem_or_eq_of_mem_set hy with h' | h'
 ·exact h y h'
 ·omega
theorem Lm.append {o p : List Nat} (h : Lm o) (h' : Lm p) : Lm (o ++ p) := fun y hy => (List.mem_append.1 hy).elim (h y) (h' y)
theorem Lm.one {x : Nat} (h : x < 4294967296) : Lm [x] := fun y hy => by simp at hy; omega
theorem Lm.take {o : List Nat} (h : Lm o) (k : Nat) : Lm (o.take k) := fun y hy => h y (List.mem_of_mem_take hy)
theorem Lm.drop {o : List Nat} (h : Lm o) (k : Nat) : Lm (o.drop k) := fun y hy => h y (List.mem_of_mem_drop hy)
theorem Lm.replicate (n : Nat) : Lm (List.replicate n 0) := fun y hy => by have := List.eq_of_mem_replicate hy; omega
theorem zmb.set (h : zmb w e B v o) (j : Nat) (hj : j < o.length) (x : Nat) (hx : x < 4294967296) :
 zmb (w.setCell (ptr v j) (.int .u32 (x : Nat))) e B v (o.set j x) ∧ Below B w (w.setCell (ptr v j) (.int .u32 (x : Nat))) := by
 have := h.own.set j (by simpa using hj) (u32V x)
 refine ⟨⟨?_, h.lm.set j x hx⟩, this.2⟩
 rw [List.map_set]; exact this.1
end
theorem zuh {P : Program} (t e : TypeId) (i : TypeInfo) (ht : P.underlying t = some (.slice e)) (hi : P.info? e = some i) (hz : i.zero = some (.int .u32 0))
 (hsize : i.size = 1) (hby : i.bytes = 4) (w : World) {ops : Array Oper} {rest : List Oper} {o : Oper} {a : Act} {Q : Exit → Act → World → Prop} (hgd : o.guard = none) (s x : Operand)
 (ho : o.op = .call { callee := .builtin .append, args := #[s, x], argTypes := #[t, t] }) (B : Nat)
 (v : Value) (es : List Nat) (hs : a.eval s = v) (hown : zmb w e B v es) (xv : Value) (hxe : a.eval x = xv) (l : List Nat) (hx : NatV w xv l) (hb : es.length + l.length ≤ 35184372088832) (hbase : B ≤ w.heap.size)
 (h : ∀ v' w', zmb w' e B v' (es ++ l) → w.grownBy w' v.ownBlock → Below B w w' → wpList P ops Q rest (a.put o.dst v') w') : wpList P ops Q (o :: rest) a w := by
 refine zic w hgd s x t ho B e i (.int .u32 0) 4 ht hi hz hsize hby rfl v (es.map u32V) hs hown.own xv hxe hx.sl (l.map u32V) (by rw [hx.len, List.length_map])
  (fun j hj => by rw [hx.cell j (by simpa using hj)]; simp [u32V]) (fun u hu => by obtain ⟨x, _, rfl⟩ := List.mem_map.1 hu; rfl)
  (by simp [maxLen]; omega) (by simp; omega) hbase ?_
 intro v' w' h2 h3 h4
 exact h v' w' ⟨by rw [List.map_append]; exact h2, hown.lm.append hx.lm⟩ h3 h4
theorem zbg {P : Program} (t e : TypeId) (i : TypeInfo) (ht : P.underlying t = some (.slice e)) (hi : P.info? e = some i) (hz : i.zero = some (.int .u32 0))
 (hsize : i.size = 1) (hby : i.bytes = 4) (w0 : World) {ops : Array Oper} {rest : List Oper} {o : Oper} {a : Act} {Q : Exit → Act → World → Prop} (hgd : o.guard = none) (s x : Operand)
 (ho : o.op = .call { callee := .builtin .append, args := #[s, x], argTypes := #[t, t] }) (B : Nat) (e' : TypeId)
 (v : Value) (es : List Nat) (hs : a.eval s = v) (hown : zmb w0 e B v es) (u : Int) (y : Nat) (hu : u = y) (hy : y < 4294967296) (hxe : a.eval x = .slice (some ⟨w0.heap.size, 0, none⟩) 1 1) (hb : es.length + 1 ≤ 35184372088832) (hbase : B ≤ w0.heap.size)
 (h : ∀ v' w', zmb w' e B v' (es ++ [y]) → Below B w0 w' → wpList P ops Q rest (a.put o.dst v') w') : wpList P ops Q (o :: rest) a (w0.alloc (.cells #[.int .u32 u] e')) := by
 subst hu
 refine zqe w0 hgd s x t ho B e e' i (.int .u32 0) 4 ht hi hz hsize hby rfl v (es.map u32V) hs hown.own (u32V y) hxe rfl (by simp [maxLen]; omega) (by simp; omega) hbase ?_
 intro v' w' h2 h4
 exact h v' w' ⟨by rw [List.map_append]; exact h2, hown.lm.append (Lm.one hy)⟩ h4
theorem zmc {P : Program} (t e : TypeId) (i : TypeInfo) (h1 : P.underlying t = some (.slice e)) (h2 : P.info? e = some i) (h3 : i.zero = some (.int .u32 0)) (h4 : i.size = 1) (h5 : i.bytes = 4)
 (w : World) {ops : Array Oper} {rest : List Oper} {o : Oper} {a : Act} {Q : Exit → Act → World → Prop} (hg : o.guard = none) (l c : Operand) (hop : o.op = Op.makeSlice t l c)
 (B : Nat) (u : Int) (n : Nat) (hu : u = n) (hl : a.eval l = .int .i64 u) (hc : a.eval c = .int .i64 u) (b2 : n ≤ 35184372088832) (b4 : B ≤ w.heap.size)
 (hK : ∀ v w', zmb w' e B v (List.replicate n 0) → Below w.heap.size w w' → w.heap.size ≤ (base v).block → wpList P ops Q rest (a.put o.dst v) w') :
 wpList P ops Q (o :: rest) a w := by
 subst hu
 refine zdg w hg l c t hop B e i (.int .u32 0) h1 h2 h3 h4 rfl n hl hc (by rw [h5]; omega) (by simp [maxLen]; omega) b4 ?_
 intro v w' a1 a2 a3
 exact hK v w' ⟨by rw [List.map_replicate]; exact a1, Lm.replicate n⟩ a2 a3
def zya (w : World) (v : Value) (n : Nat) : Prop := ∃ l, NatV w v l ∧ val l = n ∧ l.length ≤ 4294967296
def NatC (w : World) (v : Value) (n : Nat) : Prop := NatV w v (limbs n) ∧ zaa n ≤ 4294967296
theorem NatC.nat {w : World} {v : Value} {n : Nat} (h : NatC w v n) : zya w v n := ⟨_, h.1, zca n, h.2⟩
theorem NatC.below {w w' : World} {v : Value} {n : Nat} (h : NatC w v n) (hb : Below w.heap.size w w') : NatC w' v n := ⟨h.1.below hb, h.2⟩
theorem zya.below {w w' : World} {v : Value} {n : Nat} (h : zya w v n) (hb : Below w.heap.size w w') : zya w' v n := by
 obtain ⟨l, h, e⟩ := h; exact ⟨l, h.below hb, e⟩
theorem NatC.nil (w : World) : NatC w (.slice none 0 0) 0 := by unfold NatC; rw [zlb, zyb]; exact ⟨NatV.nil w, by omega⟩
theorem zya.drawn {w : World} {v : Value} {n : Nat} (h : zya w v n) (k : Nat) : zya (w.drewN k) v n := h.below (below_drewN w k)
theorem NatC.drawn {w : World} {v : Value} {n : Nat} (h : NatC w v n) (k : Nat) : NatC (w.drewN k) v n := h.below (below_drewN w k)
theorem NatV.natN {w : World} {v : Value} {l : List Nat} (h : NatV w v l) (hl : l.length ≤ 4294967296) : zya w v (val l) := ⟨l, h, rfl, hl⟩
theorem zbb {l : List Nat} (h : Lm l) : zaa (val l) ≤ l.length := by rw [← zth h]; exact zsh l
theorem NatV.can {w : World} {v : Value} {l : List Nat} (h : NatV w v l) (hl : l.length ≤ 4294967296) : NatC w (Go.Proofs.Ytlpdkbmmbdfoiaa.tk v (zaa (val l))) (val l) := by
 refine ⟨?_, Nat.le_trans (zbb h.lm) hl⟩
 rw [zwj h.lm, ← zth h.lm]; exact h.tk _ (zsh l)
theorem NatV.can3 {w : World} {v : Value} {l : List Nat} (h : NatV w v l) (hl : l.length ≤ 4294967296) : NatC w (Go.Proofs.Ytlpdkbmmbdfoiaa.tk3 v (zaa (val l))) (val l) := by
 refine ⟨?_, Nat.le_trans (zbb h.lm) hl⟩
 rw [zwj h.lm, ← zth h.lm]; exact h.tk3 _ (zsh l)
set_option maxHeartbeats 400000 in
theorem length_v (v : Value) (l : List Nat) (w : World) (h : NatV w v l) :
 Calls Try.prog 110 #[v] w fun e w' => e = .returned (.int .i64 (clen l)) ∧ w = w' := by
 have hs := h.sl
 have hlen := h.len
 have hle := hs.le
 go_enter Try.func110, Try.ntmps110
 go_wp2
 go_loop [3] (fun i => ∃ k : Nat, k ≤ l.length ∧ i = .int .i64 k ∧ clen (l.take k) = clen l) (fun i => (intOf i).toNat)
 case atStart => exact ⟨l.length, Nat.le_refl _, rfl, by rw [List.take_length]⟩
 case round =>
  obtain ⟨k, hk, rfl, hce⟩ := hrel
  have HC := zH hce; clear hce
  by_cases h0 : 0 < k
  ·obtain ⟨j, rfl⟩ : ∃ j, k = j + 1 := ⟨k - 1, by omega⟩
   have hj : j < l.length := by omega
   have hc := h.cell j hj
   go_wp2
   ·go_round
    case rel => exact ⟨j, by omega, rfl, by rw [← HC.out, zyd l j hj (by simp_all)]⟩
    case measure => simp [intOf]
   ·go_ret
    exact ⟨by rw [← HC.out, zdh l j hj (by simp_all)]; simp, rfl⟩
  ·have hk0 : k = 0 := by omega
   subst hk0
   go_wp2
   go_ret
   exact ⟨by rw [← HC.out]; simp [clen], rfl⟩
theorem zpa (v : Value) (n : Nat) (w : World) (h : zya w v n) :
 Calls Try.prog 110 #[v] w fun e w' => e = .returned (.int .i64 (zaa n)) ∧ w = w' := by
 obtain ⟨l, h, rfl, _⟩ := h
 rw [← zth h.lm]
 exact length_v v l w h
theorem large_any (v : Value) (n : Nat) (w : World) (h : zya w v n) :
 Calls Try.prog 109 #[v] w fun e w' => e = .returned (.bool (decide (512 < zaa n))) ∧ w = w' := by
 go_enter Try.func109, Try.ntmps109
 go_wp2_with (go_at_call 110; refine (zpa v n _ h).mono ?_; rintro e w' ⟨rfl, rfl⟩)
 go_ret
 exact ⟨by congr 2; simp; omega, rfl⟩
def SizedP (w : World) (r : Value) (er : Int) (n : Nat) : Prop := (zaa n ≤ 512 → er = 0 ∧ NatC w r n) ∧ (512 < zaa n → er = 2 ∧ NatC w r 0)
def RSized (w0 : World) (n : Nat) (e : Ending) (w : World) : Prop :=
 ∃ r er, e = .returned (.tuple #[r, .int .i64 er]) ∧ SizedP w r er n ∧ Below w0.heap.size w0 w
theorem zig (v : Value) (l : List Nat) (w : World) (h : NatV w v l) (hll : l.length ≤ 4294967296) :
 Calls Try.prog 111 #[v] w (RSized w (val l)) := by
 have hs := h.sl
 have hlen := h.len
 have hle := hs.le
 have hcl := zsh l
 rw [zth h.lm] at hcl
 have hcs : zaa (val l) ≤ scap v := by omega
 go_enter Try.func111, Try.ntmps111
 go_wp2_with (go_at_call 110; refine (zpa v (val l) _ (h.natN hll)).mono ?_; rintro e w' ⟨rfl, rfl⟩)
 ·go_ret2
  have hbig : ¬ zaa (val l) ≤ 512 := by omega
  exact ⟨_, 2, rfl, ⟨fun h => by omega, fun _ => ⟨rfl, NatC.nil w⟩⟩, Below.refl _ _⟩
 ·go_ret2
  have hbig : zaa (val l) ≤ 512 := by omega
  exact ⟨_, 0, rfl, ⟨fun _ => ⟨rfl, h.can3 hll⟩, fun h => by omega⟩, Below.refl _ _⟩
theorem Try.info102 : (Try.prog.info? 94).map (fun i => (i.zero, i.size, i.bytes)) = some (some (.int .u32 0), 1, 4) := by kernel_rfl
def RNat (w0 : World) (n : Nat) (e : Ending) (w : World) : Prop := ∃ r, e = .returned r ∧ NatC w r n ∧ Below w0.heap.size w0 w
set_option maxHeartbeats 400000 in
theorem zkc (v : Value) (n : Nat) (w : World) (h : zya w v n) :
 Calls Try.prog 114 #[v] w (RNat w n) := by
 have hN := h
 obtain ⟨l, hl, HE, hll⟩ := h
 have hs := hl.sl
 have hlen := hl.len
 have hle := hs.le
 have hcan := hl.can hll
 rw [HE] at hcan
 have hcl := zbb hl.lm
 rw [HE] at hcl
 clear HE
 have hcs : zaa n ≤ scap v := by omega
 obtain ⟨i0, hi, hz0, hz1, hz2⟩ := info_parts Try.info102
 have hroom : ([] : List Nat).length + (limbs n).length ≤ 35184372088832 := by have := hcan.2; unfold zaa at this; simp; omega
 have hA := zuh (P := Try.prog) 30 94 i0 Try.underlying30 hi hz0 hz1 hz2
 go_enter Try.func114, Try.ntmps114
 go_wp2_with (first
  |(go_at_call 110; refine (zpa v n _ hN).mono ?_; rintro e w' ⟨rfl, rfl⟩)
  |(at_builtin; refine hA w rfl _ _ rfl w.heap.size _ [] rfl (zmb.nil _ _ _) _ rfl (limbs n) hcan.1 hroom (Nat.le_refl _) ?_; intro v' w1 hown _ hbel))
 go_ret
 exact ⟨v', rfl, ⟨by simpa using hown.nat, hcan.2⟩, hbel⟩
theorem zwc (v : Value) (n : Nat) (w : World) (h : zya w v n) (hn : zaa n ≤ 512) :
 Calls Try.prog 109 #[v] w fun e w' => e = .returned (.bool false) ∧ w = w' :=
 (large_any v n w h).mono fun e w' ⟨h1, h2⟩ => ⟨by rw [h1, decide_eq_false (by omega)], h2⟩
theorem zya.scap {w : World} {v : Value} {n : Nat} (h : zya w v n) : IsSl v ∧ zaa n ≤ scap v ∧ NatC w (Go.Proofs.Ytlpdkbmmbdfoiaa.tk v (zaa n)) n := by
 obtain ⟨l, hl, rfl, hll⟩ := h
 have := hl.len
 have := hl.sl.le
 have := zbb hl.lm
 exact ⟨hl.sl, by omega, hl.can hll⟩
set_option maxHeartbeats 800000 in
theorem add_any (va vb : Value) (m n : Nat) (w : World) (ha : zya w va m) (hb : zya w vb n) (hm : zaa m ≤ 512) (hn : zaa n ≤ 512) :
 Calls Try.prog 78 #[va, vb] w (RSized w (m + n)) := by
 obtain ⟨sa, ca, ka⟩ := ha.scap
 obtain ⟨sb, cb, kb⟩ := hb.scap
 obtain ⟨i0, hi, hz0, hz1, hz2⟩ := info_parts Try.info102
 have hM := zmc (P := Try.prog) 30 94 i0 Try.underlying30 hi hz0 hz1 hz2
 go_enter Try.func78, Try.ntmps78
 go_wp2_with (go_at_call 109; first | ((with_reducible refine (zwc va m _ ha hm).mono ?_); rintro e w' ⟨rfl, rfl⟩) | ((with_reducible refine (zwc vb n _ hb hn).mono ?_); rintro e w' ⟨rfl, rfl⟩))
 go_quiet ((go_at_call 110; first | with_reducible exact Calls.quiet_of_same ((zpa va m _ (ha.drawn _)).mono fun e w' ⟨h1, h2⟩ => ⟨h1, h2.symm⟩) | with_reducible exact Calls.quiet_of_same ((zpa vb n _ (hb.drawn _)).mono fun e w' ⟨h1, h2⟩ => ⟨h1, h2.symm⟩)))
 have l1 : slen (tk va (zaa m)) = zaa m := ka.1.len
 have l2 : slen (tk vb (zaa n)) = zaa n := kb.1.len
 have s1 := ka.1.sl
 have s2 := kb.1.sl
 clear ha hb sa sb ca cb
 generalize tk va (zaa m) = xa at *
 generalize tk vb (zaa n) = xb at *
 have kb' := kb.drawn nq
 have ka' := ka.drawn nq
 have hbel := below_drewN (B := w.heap.size) w nq
 generalize w.drewN nq = W at *
 by_cases hlt : zaa m < zaa n
 ·skip
  go_wp2_with (refine hM _ rfl _ _ rfl W.heap.size _ (zaa n + 1) rfl rfl rfl (by omega) (Nat.le_refl _) ?_; intro v w1 hown hb1 hvb)
  have hbw : Below w.heap.size w w1 := hbel.trans (hb1.mono hbel.size)
  clear hM
  go_loopw [7, 36] (fun u7 u36 wr => ∃ (k c : Nat) (o : List Nat), k ≤ zaa n ∧ u36 = .int .i64 k ∧ u7 = .int .u64 c ∧ c ≤ 1 ∧ zmb wr 94 W.heap.size v o ∧ o.length = zaa n + 1 ∧
   val (o.take k) + pw k * c = val ((limbs n).take k) + val ((limbs m).take k) ∧ Below W.heap.size W wr) (fun _ u36 _ => zaa n - (intOf u36).toNat)
  case atStart => exact ⟨0, 0, _, Nat.zero_le _, rfl, rfl, by omega, hown, by simp, by simp [val], hb1⟩
  case round =>
   obtain ⟨k, c, o, hk, rfl, rfl, hc, hownr, hol, hval, hbr⟩ := hrel
   have hcx := ((kb'.below hbr).1).cell
   have hcy := ((ka'.below hbr).1).cell
   have sv := hownr.nat.sl
   have lv : slen v = zaa n + 1 := by rw [hownr.nat.len, hol]
   have HV := zH hval
   clear hval
   by_cases hkp : k < zaa n
   ·have hx := hcx k hkp
    have hx1 : (limbs n)[k]'hkp < 4294967296 := zza n _ (List.getElem_mem _)
    have hfz := hownr.frozen k (by omega)
    have hco := hownr.nat.cell k (by omega)
    clear hcx
    by_cases hkq : k < zaa m
    ·have hy := hcy k hkq
     have hy1 : (limbs m)[k]'hkq < 4294967296 := zza m _ (List.getElem_mem _)
     clear hcy
     have HX := zH (zda (limbs n) k hkp)
     have HY := zH (zda (limbs m) k hkq)
     generalize (limbs n)[k]'hkp = x at *
     generalize (limbs m)[k]'hkq = y at *
     go_wp2
     have hset := hownr.set k (by omega) ((c + x + y) % 4294967296) (by omega)
     rw [show (((c + x + y) % 4294967296 : Nat) : Int) = ((c : Int) + x + y) % 4294967296 from by omega] at hset
     go_roundw
     case rel => exact ⟨k + 1, (c + x + y) / 4294967296, _, by omega, by go_num, by go_num, by omega, hset.1, by simp [hol], zfh (by omega) HX.out HY.out HV.out, hbr.trans hset.2⟩
     case measure => simp [intOf]; omega
    ·have HX := zH (zda (limbs n) k hkp)
     have HY := zH (zkd (limbs m) k (by unfold zaa at hkq; omega))
     clear hcy
     generalize (limbs n)[k]'hkp = x at *
     go_wp2
     have hset := hownr.set k (by omega) ((c + x + 0) % 4294967296) (by omega)
     rw [show (((c + x + 0) % 4294967296 : Nat) : Int) = ((c : Int) + x) % 4294967296 from by omega] at hset
     go_roundw
     case rel => exact ⟨k + 1, (c + x + 0) / 4294967296, _, by omega, by go_num, by go_num, by omega, hset.1, by simp [hol], zfh (by omega) HX.out (by rw [HY.out]; rfl) HV.out, hbr.trans hset.2⟩
     case measure => simp [intOf]; omega
   ·have hkk : k = zaa n := by omega
    subst hkk
    clear hcx hcy
    have hfz := hownr.frozen (zaa n) (by omega)
    have hco := hownr.nat.cell (zaa n) (by omega)
    have hset := hownr.set (zaa n) (by omega) c (by omega)
    have hv2 : val (o.set (zaa n) c) = m + n := by
     have e := zua o (zaa n) c (by omega)
     rw [List.take_of_length_le (by simp; omega)] at e
     rw [e, HV.out, List.take_of_length_le (show zaa n ≤ zaa n from Nat.le_refl _), List.take_of_length_le (show zaa m ≤ zaa n by omega), zca, zca, Nat.add_comm]
    have HS := zH (zig v _ _ hset.1.nat (by simp; omega))
    have HV2 := zH hv2
    have HB := zH (hbr.trans hset.2)
    clear hset hv2 hbr HV
    go_wp2_with (go_at_call 111; refine HS.out.mono ?_; rintro e w' ⟨r, er, rfl, hr, hbl⟩)
    go_ret2
    rw [HV2.out] at hr
    exact ⟨r, er, rfl, hr, hbel.trans ((HB.out.trans (hbl.mono HB.out.size)).mono hbel.size)⟩
 ·skip
  go_wp2_with (refine hM _ rfl _ _ rfl W.heap.size _ (zaa m + 1) rfl rfl rfl (by omega) (Nat.le_refl _) ?_; intro v w1 hown hb1 hvb)
  have hbw : Below w.heap.size w w1 := hbel.trans (hb1.mono hbel.size)
  clear hM
  go_loopw [7, 36] (fun u7 u36 wr => ∃ (k c : Nat) (o : List Nat), k ≤ zaa m ∧ u36 = .int .i64 k ∧ u7 = .int .u64 c ∧ c ≤ 1 ∧ zmb wr 94 W.heap.size v o ∧ o.length = zaa m + 1 ∧
   val (o.take k) + pw k * c = val ((limbs m).take k) + val ((limbs n).take k) ∧ Below W.heap.size W wr) (fun _ u36 _ => zaa m - (intOf u36).toNat)
  case atStart => exact ⟨0, 0, _, Nat.zero_le _, rfl, rfl, by omega, hown, by simp, by simp [val], hb1⟩
  case round =>
   obtain ⟨k, c, o, hk, rfl, rfl, hc, hownr, hol, hval, hbr⟩ := hrel
   have hcx := ((ka'.below hbr).1).cell
   have hcy := ((kb'.below hbr).1).cell
   have sv := hownr.nat.sl
   have lv : slen v = zaa m + 1 := by rw [hownr.nat.len, hol]
   have HV := zH hval
   clear hval
   by_cases hkp : k < zaa m
   ·have hx := hcx k hkp
    have hx1 : (limbs m)[k]'hkp < 4294967296 := zza m _ (List.getElem_mem _)
    have hfz := hownr.frozen k (by omega)
    have hco := hownr.nat.cell k (by omega)
    clear hcx
    by_cases hkq : k < zaa n
    ·have hy := hcy k hkq
     have hy1 : (limbs n)[k]'hkq < 4294967296 := zza n _ (List.getElem_mem _)
     clear hcy
     have HX := zH (zda (limbs m) k hkp)
     have HY := zH (zda (limbs n) k hkq)
     generalize (limbs m)[k]'hkp = x at *
     generalize (limbs n)[k]'hkq = y at *
     go_wp2
     have hset := hownr.set k (by omega) ((c + x + y) % 4294967296) (by omega)
     rw [show (((c + x + y) % 4294967296 : Nat) : Int) = ((c : Int) + x + y) % 4294967296 from by omega] at hset
     go_roundw
     case rel => exact ⟨k + 1, (c + x + y) / 4294967296, _, by omega, by go_num, by go_num, by omega, hset.1, by simp [hol], zfh (by omega) HX.out HY.out HV.out, hbr.trans hset.2⟩
     case measure => simp [intOf]; omega
    ·have HX := zH (zda (limbs m) k hkp)
     have HY := zH (zkd (limbs n) k (by unfold zaa at hkq; omega))
     clear hcy
     generalize (limbs m)[k]'hkp = x at *
     go_wp2
     have hset := hownr.set k (by omega) ((c + x + 0) % 4294967296) (by omega)
     rw [show (((c + x + 0) % 4294967296 : Nat) : Int) = ((c : Int) + x) % 4294967296 from by omega] at hset
     go_roundw
     case rel => exact ⟨k + 1, (c + x + 0) / 4294967296, _, by omega, by go_num, by go_num, by omega, hset.1, by simp [hol], zfh (by omega) HX.out (by rw [HY.out]; rfl) HV.out, hbr.trans hset.2⟩
     case measure => simp [intOf]; omega
   ·have hkk : k = zaa m := by omega
    subst hkk
    clear hcx hcy
    have hfz := hownr.frozen (zaa m) (by omega)
    have hco := hownr.nat.cell (zaa m) (by omega)
    have hset := hownr.set (zaa m) (by omega) c (by omega)
    have hv2 : val (o.set (zaa m) c) = m + n := by
     have e := zua o (zaa m) c (by omega)
     rw [List.take_of_length_le (by simp; omega)] at e
     rw [e, HV.out, List.take_of_length_le (show zaa m ≤ zaa m from Nat.le_refl _), List.take_of_length_le (show zaa n ≤ zaa m by omega), zca, zca, Nat.add_comm]
    have HS := zH (zig v _ _ hset.1.nat (by simp; omega))
    have HV2 := zH hv2
    have HB := zH (hbr.trans hset.2)
    clear hset hv2 hbr HV
    go_wp2_with (go_at_call 111; refine HS.out.mono ?_; rintro e w' ⟨r, er, rfl, hr, hbl⟩)
    go_ret2
    rw [HV2.out] at hr
    exact ⟨r, er, rfl, hr, hbel.trans ((HB.out.trans (hbl.mono HB.out.size)).mono hbel.size)⟩
theorem zoj (w : World) (e : TypeId) (x y : Nat) (hx : x < 4294967296) (hy : y < 4294967296) :
 NatV (w.alloc (.cells #[.int .u32 (x : Nat), .int .u32 (y : Nat)] e)) (.slice (some ⟨w.heap.size, 0, none⟩) 2 2) [x, y] := by
 refine ⟨⟨_, 2, 2, rfl, Nat.le_refl _, by simp [maxLen], fun e => by cases e⟩, rfl, fun j hj => ?_, fun z hz => ?_⟩
 ·have : j = 0 ∨ j = 1 := by simp at hj; omega
  rcases this with rfl | rfl <;> simp [ptr, base, Addr.add]
 ·simp at hz; omega
set_option maxHeartbeats 400000 in
theorem zmi (n : Nat) (hn : n < 18446744073709551616) (w : World) :
 Calls Try.prog 92 #[.int .u64 n] w (RNat w n) := by
 have HN := zoj w 94 (n % 4294967296) (n / 4294967296) (by omega) (by omega)
 rw [show ((n % 4294967296 : Nat) : Int) = (n : Int) % 4294967296 from by omega, show ((n / 4294967296 : Nat) : Int) = (n : Int) / 4294967296 from by omega] at HN
 have hv : val [n % 4294967296, n / 4294967296] = n := by simp [val]; omega
 have HL := zH (zpa _ _ _ (HN.natN (by simp)))
 have HC := zH (HN.can (by simp))
 have HV := zH hv
 have hle : zaa n ≤ 2 := zcb.2 (by simp [pw]; omega)
 have HB := zH ((Below.refl w.heap.size w).alloc (Nat.le_refl _) (.cells #[.int .u32 ((n : Int) % 4294967296), .int .u32 ((n : Int) / 4294967296)] 94))
 clear HN hv
 go_enter Try.func92, Try.ntmps92
 go_wp2_with (go_at_call 110; refine HL.out.mono ?_; rw [HV.out]; rintro e w' ⟨rfl, rfl⟩)
 go_ret
 refine ⟨_, rfl, ?_, HB.out⟩
 have := HC.out
 rw [HV.out] at this
 exact this
theorem zya.len_le {w : World} {v : Value} {n : Nat} (h : zya w v n) : zaa n ≤ 4294967296 := by
 obtain ⟨l, hl, rfl, hll⟩ := h; exact Nat.le_trans (zbb hl.lm) hll
theorem zya.cells {w : World} {v : Value} {n : Nat} (h : zya w v n) : ∀ (j : Nat) (hj : j < zaa n), w.cell? (ptr v j) = some (.int .u32 ((limbs n)[j]'hj : Nat)) := by
 obtain ⟨l, hl, rfl, hll⟩ := h
 intro j hj
 have := (hl.can hll).1.cell j hj
 rwa [ptr_tk] at this
theorem zya.slen {w : World} {v : Value} {n : Nat} (h : zya w v n) : IsSl v ∧ zaa n ≤ Go.Proofs.Ytlpdkbmmbdfoiaa.slen v ∧ Go.Proofs.Ytlpdkbmmbdfoiaa.slen v ≤ 4294967296 := by
 obtain ⟨l, hl, rfl, hll⟩ := h
 exact ⟨hl.sl, by rw [hl.len]; exact zbb hl.lm, by rw [hl.len]; exact hll⟩
set_option maxHeartbeats 800000 in
theorem zgk (va vb : Value) (m n : Nat) (w : World) (ha : zya w va m) (hb : zya w vb n) :
 Calls Try.prog 80 #[va, vb] w fun e w' => e = .returned (.int .i64 (zik m n)) ∧ ∃ k, w' = w.drewN k := by
 obtain ⟨sa, la, ua⟩ := ha.slen
 obtain ⟨sb, lb, ub⟩ := hb.slen
 have ca := ha.cells
 have cb := hb.cells
 go_enter Try.func80, Try.ntmps80
 go_wp2_with (go_at_call 110; first | ((with_reducible refine (zpa va m _ ha).mono ?_); rintro e w' ⟨rfl, rfl⟩) | ((with_reducible refine (zpa vb n _ hb).mono ?_); rintro e w' ⟨rfl, rfl⟩))
 ·go_ret
  exact ⟨by rw [zdf (znf (by assumption))]; rfl, 0, rfl⟩
 ·go_ret
  exact ⟨by rw [zhk (znf (by assumption))]; rfl, 0, rfl⟩
 ·have he : zaa m = zaa n := by omega
  go_loopw [7] (fun i wr => ∃ k q : Nat, k ≤ zaa m ∧ i = .int .i64 ((k : Int) - 1) ∧ (limbs m).drop k = (limbs n).drop k ∧ wr = w.drewN q) (fun i _ => (intOf i + 1).toNat)
  case atStart => exact ⟨zaa m, 0, Nat.le_refl _, by simp, by rw [List.drop_of_length_le (show zaa m ≤ zaa m from Nat.le_refl _), List.drop_of_length_le (show zaa n ≤ zaa m by omega)], rfl⟩
  case round =>
   obtain ⟨k, q, hk, rfl, hd, rfl⟩ := hrel
   have HD := zH hd
   have HE := zH he
   clear hd he
   by_cases hk0 : 0 < k
   ·obtain ⟨j, rfl⟩ : ∃ j, k = j + 1 := ⟨k - 1, by omega⟩
    have hj1 : j < zaa m := by omega
    have hj2 : j < zaa n := by have := HE.out; omega
    have h1 := ca j hj1
    have h2 := cb j hj2
    have hlt := zed (zza m) j hj1 hj2 HD.out
    have hgt := zed (zza n) j hj2 hj1 HD.out.symm
    have heq := zkl j hj1 hj2 HD.out
    rw [zca, zca] at hlt hgt
    clear ca cb HD
    generalize (limbs m)[j]'hj1 = x at *
    generalize (limbs n)[j]'hj2 = y at *
    have HL := zH hlt
    have HG := zH hgt
    have HQ := zH heq
    clear hlt hgt heq
    by_cases hxy : x < y
    ·go_wp2
     go_quiet (fail)
     go_wp2
     go_ret
     exact ⟨by rw [zdf (HL.out hxy)]; rfl, _, by first | rfl | (simp only [World.drewN_drewN]; rfl)⟩
    ·by_cases hyx : y < x
     ·go_wp2
      go_quiet (fail)
      go_wp2
      go_quiet (fail)
      go_wp2
      go_ret
      exact ⟨by rw [zhk (HG.out hyx)]; rfl, _, by first | rfl | (simp only [World.drewN_drewN]; rfl)⟩
     ·go_wp2
      go_quiet (fail)
      go_wp2
      go_quiet (fail)
      go_wp2
      go_roundw
      case rel => exact ⟨j, _, by omega, by go_num, HQ.out (by omega), by first | rfl | (simp only [World.drewN_drewN]; rfl)⟩
      case measure => simp [intOf]
   ·obtain rfl : k = 0 := by omega
    have hmn : m = n := zaf (by simpa using HD.out)
    have HM := zH hmn
    clear hmn
    go_wp2
    go_ret
    exact ⟨by rw [cmpN_eq HM.out]; rfl, _, rfl⟩
end Go.Proofs.Ytlpdkbmmbdfoiaa
namespace Go.Proofs.Ytlpdkbmmbdfoiaa
theorem zmj (a b s : Nat) (h : b < 2 ^ s) : (2 ^ s * a) ||| b = 2 ^ s * a + b := (Nat.two_pow_add_eq_or_of_lt h a).symm
theorem or_lo (r x : Nat) (hr : r < 4294967296) (hx : x < 4294967296) : bits .or .u64 ((r : Int) * 4294967296) (x : Int) = ((r * 4294967296 + x : Nat) : Int) := by
 have h := u64_or_nat (4294967296 * r) x (by omega) (by omega)
 rw [show ((4294967296 * r : Nat) : Int) = (r : Int) * 4294967296 from by omega] at h
 rw [h]
 have := zmj r x 32 (by omega)
 rw [show (2 : Nat) ^ 32 = 4294967296 from by decide] at this
 rw [this]
 congr 1
 omega
theorem or_hi (c x P s : Nat) (hP : P = 2 ^ s) (hc : c < P) (hx : P * x < 18446744073709551616) (hPl : P < 18446744073709551616) : bits .or .u64 (c : Int) ((P * x : Nat) : Int) = ((P * x + c : Nat) : Int) := by
 subst hP
 rw [u64_or_nat c (2 ^ s * x) (by omega) hx, Nat.or_comm, zmj x c s hc]
theorem zfb (n : Int) : IntKind.u64.wrap n = n % 18446744073709551616 := by
 simp [IntKind.wrap, IntKind.bits, IntKind.signed]
theorem div_limb (t d : Nat) (h : t / d < 4294967296) : IntKind.u64.wrap ((t : Int) / d) % 4294967296 = ((t / d : Nat) : Int) := by
 rw [zfb, ← Int.natCast_ediv]; generalize t / d = q at *; omega
theorem or_up (c x s : Nat) (hs : s < 32) (hc : c < 2 ^ s) (hx : x < 4294967296) : bits .or .u64 (c : Int) (IntKind.u64.wrap ((x : Int) * 2 ^ s)) = ((2 ^ s * x + c : Nat) : Int) := by
 have hP : 2 ^ s ≤ 2 ^ 31 := Nat.pow_le_pow_right (by decide) (by omega)
 have h1 : 2 ^ s * x ≤ 2 ^ 31 * 4294967295 := Nat.mul_le_mul hP (by omega)
 have h2 : ((x : Int) * 2 ^ s) = ((2 ^ s * x : Nat) : Int) := by rw [Int.natCast_mul, Int.natCast_pow]; exact Int.mul_comm _ _
 rw [h2, zfb]
 have h3 : ((2 ^ s * x : Nat) : Int) % 18446744073709551616 = ((2 ^ s * x : Nat) : Int) := by omega
 rw [h3]
 exact or_hi c x (2 ^ s) s rfl hc (by omega) (by omega)
theorem up_bound (c x s : Nat) (hs : s < 32) (hc : c < 2 ^ s) (hx : x < 4294967296) : 2 ^ s * x + c < 18446744073709551616 ∧ (2 ^ s * x + c) / 4294967296 < 2 ^ s := by
 have hP : 2 ^ s ≤ 2 ^ 31 := Nat.pow_le_pow_right (by decide) (by omega)
 have h1 : 2 ^ s * x ≤ 2 ^ 31 * 4294967295 := Nat.mul_le_mul hP (by omega)
 have h2 : 2 ^ s * (x + 1) ≤ 2 ^ s * 4294967296 := Nat.mul_le_mul_left _ (by omega)
 rw [Nat.mul_add, Nat.mul_one] at h2
 refine ⟨by omega, ?_⟩
 rw [Nat.div_lt_iff_lt_mul (by decide)]
 omega
end Go.Proofs.Ytlpdkbmmbdfoiaa
namespace Go.Proofs.Ytlpdkbmmbdfoiaa
open Go.RowKit
theorem cmp_ge (va vb : Value) (m n : Nat) (w : World) (ha : zya w va m) (hb : zya w vb n) (h : n ≤ m) :
 Calls Try.prog 80 #[va, vb] w fun e w' => (∃ c : Int, e = .returned (.int .i64 c) ∧ decide (c < 0) = false) ∧ ∃ k, w' = w.drewN k :=
 (zgk va vb m n w ha hb).mono fun _ _ ⟨a, b⟩ => ⟨⟨_, a, decide_eq_false (by unfold zik; rw [if_neg (by omega)]; split <;> omega)⟩, b⟩
theorem sub_wrap (x y c : Nat) (hx : x < 4294967296) (hy : y < 4294967296) (hc : c ≤ 1) : ∃ z b : Nat, z < 4294967296 ∧ b ≤ 1 ∧
 IntKind.u64.wrap (IntKind.u64.wrap ((x : Int) - c) - y) % 4294967296 = z ∧ IntKind.u64.wrap (IntKind.u64.wrap ((x : Int) - c) - y) / 9223372036854775808 = b ∧ z + c + y = x + 4294967296 * b := by
 rw [zfb, zfb]
 by_cases h : c + y ≤ x
 ·exact ⟨x - c - y, 0, by omega, by omega, by omega, by omega, by omega⟩
 ·exact ⟨x + 4294967296 - c - y, 1, by omega, by omega, by omega, by omega, by omega⟩
theorem sub_wrap0 (x c : Nat) (hx : x < 4294967296) (hc : c ≤ 1) : ∃ z b : Nat, z < 4294967296 ∧ b ≤ 1 ∧
 IntKind.u64.wrap ((x : Int) - c) % 4294967296 = z ∧ IntKind.u64.wrap ((x : Int) - c) / 9223372036854775808 = b ∧ z + c + 0 = x + 4294967296 * b := by
 rw [zfb]
 by_cases h : c ≤ x
 ·exact ⟨x - c, 0, by omega, by omega, by omega, by omega, by omega⟩
 ·exact ⟨x + 4294967296 - c, 1, by omega, by omega, by omega, by omega, by omega⟩
set_option maxHeartbeats 800000 in
theorem sub_any (va vb : Value) (m n : Nat) (w : World) (ha : zya w va m) (hb : zya w vb n) (hm : zaa m ≤ 512) (hnm : n ≤ m) :
 Calls Try.prog 81 #[va, vb] w (RSized w (m - n)) := by
 have hn : zaa n ≤ 512 := Nat.le_trans (zwa hnm) hm
 have hnn := zwa hnm
 have HM := zH hm
 have HN := zH hn
 clear hm hn
 obtain ⟨sa, ca, ka⟩ := ha.scap
 obtain ⟨sb, cb, kb⟩ := hb.scap
 obtain ⟨i0, hi, hz0, hz1, hz2⟩ := info_parts Try.info102
 have hM := zmc (P := Try.prog) 30 94 i0 Try.underlying30 hi hz0 hz1 hz2
 go_enter Try.func81, Try.ntmps81
 go_wp2_with (first
  |(go_at_call 109; first | ((with_reducible refine (zwc va m _ ha HM.out).mono ?_); rintro e w' ⟨rfl, rfl⟩) | ((with_reducible refine (zwc vb n _ hb HN.out).mono ?_); rintro e w' ⟨rfl, rfl⟩))
  |(go_at_call 80; refine (cmp_ge va vb m n _ ha hb hnm).mono ?_; rintro e w' ⟨⟨c, rfl, hc⟩, nq0, rfl⟩))
 have ha0 := ha.drawn nq0
 have hb0 := hb.drawn nq0
 have ka0 := ka.drawn nq0
 have kb0 := kb.drawn nq0
 have hbel0 := below_drewN (B := w.heap.size) w nq0
 generalize w.drewN nq0 = W0 at *
 go_quiet ((go_at_call 110; first | with_reducible exact Calls.quiet_of_same ((zpa va m _ (ha0.drawn _)).mono fun e w' ⟨h1, h2⟩ => ⟨h1, h2.symm⟩) | with_reducible exact Calls.quiet_of_same ((zpa vb n _ (hb0.drawn _)).mono fun e w' ⟨h1, h2⟩ => ⟨h1, h2.symm⟩)))
 have l1 : slen (tk va (zaa m)) = zaa m := ka.1.len
 have l2 : slen (tk vb (zaa n)) = zaa n := kb.1.len
 have s1 := ka.1.sl
 have s2 := kb.1.sl
 clear ha hb sa sb ca cb ha0 hb0 ka kb hc
 generalize tk va (zaa m) = xa at *
 generalize tk vb (zaa n) = xb at *
 have kb' := kb0.drawn nq
 have ka' := ka0.drawn nq
 have hbel := hbel0.trans (below_drewN (B := w.heap.size) W0 nq)
 generalize W0.drewN nq = W at *
 have hroom : zaa m ≤ 35184372088832 := by have := HM.out; omega
 have HR := zH hroom
 clear hroom ka0 kb0 hbel0
 go_wp2_with (refine hM _ rfl _ _ rfl W.heap.size _ (zaa m) rfl rfl rfl HR.out (Nat.le_refl _) ?_; intro v w1 hown hb1 hvb)
 have hbw : Below w.heap.size w w1 := hbel.trans (hb1.mono hbel.size)
 clear hM
 go_loopw [7, 35] (fun u7 u35 wr => ∃ (k c : Nat) (o : List Nat), k ≤ zaa m ∧ u35 = .int .i64 k ∧ u7 = .int .u64 c ∧ c ≤ 1 ∧ zmb wr 94 W.heap.size v o ∧ o.length = zaa m ∧
  val (o.take k) + val ((limbs n).take k) = val ((limbs m).take k) + pw k * c ∧ Below W.heap.size W wr) (fun _ u35 _ => zaa m - (intOf u35).toNat)
 case atStart => exact ⟨0, 0, _, Nat.zero_le _, rfl, rfl, by omega, hown, by simp, by simp [val], hb1⟩
 case round =>
  obtain ⟨k, c, o, hk, rfl, rfl, hc, hownr, hol, hval, hbr⟩ := hrel
  have hcx := ((ka'.below hbr).1).cell
  have hcy := ((kb'.below hbr).1).cell
  have sv := hownr.nat.sl
  have lv : slen v = zaa m := by rw [hownr.nat.len, hol]
  have HV := zH hval
  clear hval
  have hkb : k ≤ 4294967296 := by have := HM.out; omega
  by_cases hkp : k < zaa m
  ·have hx := hcx k hkp
   have hx1 : (limbs m)[k]'hkp < 4294967296 := zza m _ (List.getElem_mem _)
   have hfz := hownr.frozen k (by omega)
   have hco := hownr.nat.cell k (by omega)
   have HX := zH (zda (limbs m) k hkp)
   clear hcx
   generalize (limbs m)[k]'hkp = x at *
   by_cases hkq : k < zaa n
   ·have hy := hcy k hkq
    have hy1 : (limbs n)[k]'hkq < 4294967296 := zza n _ (List.getElem_mem _)
    have HY := zH (zda (limbs n) k hkq)
    clear hcy
    generalize (limbs n)[k]'hkq = y at *
    obtain ⟨z, b, hz, hb, ez, eb, hzz⟩ := sub_wrap x y c hx1 hy1 hc
    have EZ := zH ez
    have EB := zH eb
    have HZZ := zH hzz
    clear ez eb hzz
    go_wp2
    have hset := hownr.set k (by omega) z hz
    go_roundw
    case rel =>
     rw [EZ.out, EB.out]
     exact ⟨k + 1, b, _, by omega, by go_num, rfl, hb, hset.1, by simp [hol], sub_step (by omega) HX.out HY.out HZZ.out HV.out, hbr.trans hset.2⟩
    case measure => simp [intOf]; omega
   ·have HY := zH (zkd (limbs n) k (by unfold zaa at hkq; omega))
    clear hcy
    obtain ⟨z, b, hz, hb, ez, eb, hzz⟩ := sub_wrap0 x c hx1 hc
    have EZ := zH ez
    have EB := zH eb
    have HZZ := zH hzz
    clear ez eb hzz
    go_wp2
    have hset := hownr.set k (by omega) z hz
    go_roundw
    case rel =>
     rw [EZ.out, EB.out]
     exact ⟨k + 1, b, _, by omega, by go_num, rfl, hb, hset.1, by simp [hol], sub_step (by omega) HX.out (by rw [HY.out]; rfl) HZZ.out HV.out, hbr.trans hset.2⟩
    case measure => simp [intOf]; omega
  ·obtain rfl : k = zaa m := by omega
   clear hcx hcy
   have hv2 : val o = m - n := by
    have e := HV.out
    rw [List.take_of_length_le (by omega), List.take_of_length_le (show zaa m ≤ zaa m from Nat.le_refl _), List.take_of_length_le (show zaa n ≤ zaa m by omega), zca, zca] at e
    have h1 := zpd hownr.lm
    rw [hol] at h1
    have h2 := pw_pos (zaa m)
    rcases Nat.lt_or_ge c 1 with hc0 | hc0
    ·obtain rfl : c = 0 := by omega
     omega
    ·obtain rfl : c = 1 := by omega
     omega
   have HS := zH (zig v _ _ hownr.nat (by rw [hol]; omega))
   have HV2 := zH hv2
   clear hv2 HV
   go_wp2_with (go_at_call 111; refine HS.out.mono ?_; rintro e w' ⟨r, er, rfl, hr, hbl⟩)
   go_ret2
   rw [HV2.out] at hr
   exact ⟨r, er, rfl, hr, hbel.trans ((hbr.trans (hbl.mono hbr.size)).mono hbel.size)⟩
end Go.Proofs.Ytlpdkbmmbdfoiaa
