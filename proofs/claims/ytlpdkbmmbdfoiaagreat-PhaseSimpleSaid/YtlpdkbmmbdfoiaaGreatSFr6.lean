/-
  package fraction: Sub; Sub, Mul, Quo of canonical fractions whose result is not large.
-/
import Derived.Test.YtlpdkbmmbdfoiaaGreatSFr3a
set_option linter.unusedVariables false
set_option linter.unusedSimpArgs false
namespace Go.Proofs.YtlpdkbmmbdfoiaaGreat
open Go.RowKit
def zkb (w : World) (e : TypeId) (B : Nat) (v : Value) (n : Nat) : Prop :=
 ∃ g cs, v = .slice (some ⟨g, 0, none⟩) n n ∧ w.ownsRow B e 3 v n cs ∧ ∀ c ∈ cs, ∀ z, c ≠ .int .u32 z
section
variable {w : World} {e : TypeId} {B n : Nat} {v : Value}
theorem zkb.ptr (h : zkb w e B v n) : ∃ g, ∀ k, Go.Proofs.YtlpdkbmmbdfoiaaGreat.ptr v k = ⟨g, k, none⟩ := by
 obtain ⟨g, cs, rfl, _⟩ := h
 exact ⟨g, fun k => by simp only [Go.Proofs.YtlpdkbmmbdfoiaaGreat.ptr, base, Addr.add_lit, Nat.zero_add]⟩
theorem zkb.inj (h : zkb w e B v n) {i j : Nat} (hij : i ≠ j) : Go.Proofs.YtlpdkbmmbdfoiaaGreat.ptr v i ≠ Go.Proofs.YtlpdkbmmbdfoiaaGreat.ptr v j := by
 obtain ⟨g, hg⟩ := h.ptr
 rw [hg, hg]
 intro h; injection h with h1 h2; exact hij h2
theorem zkb.sl (h : zkb w e B v n) : zlc v := by
 obtain ⟨g, cs, rfl, h1, _⟩ := h
 rcases h1.2 with ⟨h', _⟩ | ⟨g', cap, cur, h', _, _, h2, h3, _⟩
 ·cases h'
 ·injection h' with h4 h5 h6
  subst h6
  exact ⟨_, _, _, rfl, h2, h3, fun e => by cases e⟩
theorem zkb.len (h : zkb w e B v n) : slen v = n := by obtain ⟨g, cs, rfl, _⟩ := h; rfl
theorem zkb.cell (h : zkb w e B v n) (j : Nat) (hj : j < n * 3) : ∃ x, w.cell? (Go.Proofs.YtlpdkbmmbdfoiaaGreat.ptr v j) = some x ∧ ∀ z, x ≠ .int .u32 z := by
 obtain ⟨g, cs, rfl, h1, h2⟩ := h
 have hl : cs.length = n * 3 := h1.1
 have := World.ownsRow.cellAt h1 j hj
 rw [List.getElem?_eq_getElem (by omega)] at this
 refine ⟨cs[j]'(by omega), ?_, h2 _ (List.getElem_mem _)⟩
 simpa only [Go.Proofs.YtlpdkbmmbdfoiaaGreat.ptr, base, Addr.add_lit, Nat.zero_add] using this
theorem zkb.frozen (h : zkb w e B v n) (j : Nat) : w.frozen? (Go.Proofs.YtlpdkbmmbdfoiaaGreat.ptr v j) = false := by
 obtain ⟨g, cs, rfl, h1, h2⟩ := h
 have := World.ownsRow.frozenAt h1 j
 simpa only [Go.Proofs.YtlpdkbmmbdfoiaaGreat.ptr, base, Addr.add_lit, Nat.zero_add] using this
theorem zkb.block (h : zkb w e B v n) : B ≤ (base v).block ∧ (base v).block < w.heap.size := by
 obtain ⟨g, cs, rfl, h1, h2⟩ := h
 rcases h1.2 with ⟨h', _⟩ | ⟨g', cap, cur, h', hb, hg, _⟩
 ·cases h'
 ·injection h' with h4
  injection h4 with h4
  injection h4 with h4
  subst h4
  exact ⟨hb, (Array.getElem?_eq_some_iff.1 hg).1⟩
theorem zkb.below {w' : World} (h : zkb w e B v n) (hb : Below w.heap.size w w') : zkb w' e B v n := by
 obtain ⟨g, cs, rfl, h1, h2⟩ := h
 exact ⟨g, cs, rfl, World.ownsRow.kept h1 (zqe hb) (Or.inr (by simp [Value.ownBlock])), h2⟩
theorem zkb.mono {B' : Nat} (h : zkb w e B v n) (hB : B' ≤ B) : zkb w e B' v n := by
 obtain ⟨g, cs, rfl, h1, h2⟩ := h
 refine ⟨g, cs, rfl, ⟨h1.1, ?_⟩, h2⟩
 rcases h1.2 with ⟨h', _⟩ | ⟨g', cap, cur, h', hb, rest⟩
 ·cases h'
 ·exact .inr ⟨g', cap, cur, h', by omega, rest⟩
theorem zkb.set (h : zkb w e B v n) (j : Nat) (u : Value) (hu : ∀ z, u ≠ .int .u32 z) : zkb (w.setCell (Go.Proofs.YtlpdkbmmbdfoiaaGreat.ptr v j) u) e B v n ∧ Below B w (w.setCell (Go.Proofs.YtlpdkbmmbdfoiaaGreat.ptr v j) u) := by
 have hbl := h.block
 obtain ⟨g, cs, rfl, h1, h2⟩ := h
 have hs := World.ownsRow.stored h1 j u
 have hp : Go.Proofs.YtlpdkbmmbdfoiaaGreat.ptr (.slice (some ⟨g, 0, none⟩) n n) j = ⟨g, j, none⟩ := by simp only [Go.Proofs.YtlpdkbmmbdfoiaaGreat.ptr, base, Addr.add_lit, Nat.zero_add]
 rw [hp]
 refine ⟨⟨g, _, rfl, hs.1, fun c hc => ?_⟩, zla hs.2 (by simp only [base] at hbl; omega) (fun k hk => by simp [base] at hbl hk; omega)⟩
 rcases List.mem_or_eq_of_mem_set hc with h' | h'
 ·exact h2 c h'
 ·subst h'; exact hu
def zbg (w : World) (v : Value) (j : Nat) (q : Rat) : Prop :=
 ∃ a b, w.cell? (Go.Proofs.YtlpdkbmmbdfoiaaGreat.ptr v (j * 3)) = some (.bool (decide (q < 0))) ∧ w.cell? (Go.Proofs.YtlpdkbmmbdfoiaaGreat.ptr v (j * 3 + 1)) = some a ∧ w.cell? (Go.Proofs.YtlpdkbmmbdfoiaaGreat.ptr v (j * 3 + 2)) = some b ∧ zgb w a q.num.natAbs ∧ zgb w b q.den
theorem zbg.below {w' : World} {j : Nat} {q : Rat} (h : zbg w v j q) (hb : Below w.heap.size w w') : zbg w' v j q := by
 obtain ⟨a, b, h1, h2, h3, h4, h5⟩ := h
 exact ⟨a, b, zba hb h1, zba hb h2, zba hb h3, h4.below hb, h5.below hb⟩
theorem zkb.set3 (h : zkb w e B v n) (i : Nat) (x y z : Value) (hx : ∀ k, x ≠ .int .u32 k) (hy : ∀ k, y ≠ .int .u32 k) (hz : ∀ k, z ≠ .int .u32 k) :
 zkb (((w.setCell (Go.Proofs.YtlpdkbmmbdfoiaaGreat.ptr v (i * 3)) x).setCell (Go.Proofs.YtlpdkbmmbdfoiaaGreat.ptr v (i * 3 + 1)) y).setCell (Go.Proofs.YtlpdkbmmbdfoiaaGreat.ptr v (i * 3 + 2)) z) e B v n ∧
  Below B w (((w.setCell (Go.Proofs.YtlpdkbmmbdfoiaaGreat.ptr v (i * 3)) x).setCell (Go.Proofs.YtlpdkbmmbdfoiaaGreat.ptr v (i * 3 + 1)) y).setCell (Go.Proofs.YtlpdkbmmbdfoiaaGreat.ptr v (i * 3 + 2)) z) := by
 have h1 := h.set (i * 3) x hx
 have h2 := h1.1.set (i * 3 + 1) y hy
 have h3 := h2.1.set (i * 3 + 2) z hz
 exact ⟨h3.1, (h1.2.trans h2.2).trans h3.2⟩
theorem zgb.over1 (h : zkb w e B v n) {x : Value} {m : Nat} (hx : zgb w x m) (j : Nat) (hj : j < n * 3) (u : Value) : zgb (w.setCell (Go.Proofs.YtlpdkbmmbdfoiaaGreat.ptr v j) u) x m := by
 obtain ⟨c, h1, h2⟩ := h.cell j hj
 exact ⟨hx.v.over h1 h2 u, hx.2⟩
theorem zgb.over3 (h : zkb w e B v n) {c : Value} {m : Nat} (hc : zgb w c m) (i : Nat) (hi : i < n) (x y z : Value) (hx : ∀ k, x ≠ .int .u32 k) (hy : ∀ k, y ≠ .int .u32 k) :
 zgb (((w.setCell (Go.Proofs.YtlpdkbmmbdfoiaaGreat.ptr v (i * 3)) x).setCell (Go.Proofs.YtlpdkbmmbdfoiaaGreat.ptr v (i * 3 + 1)) y).setCell (Go.Proofs.YtlpdkbmmbdfoiaaGreat.ptr v (i * 3 + 2)) z) c m := by
 have h1 := h.set (i * 3) x hx
 have h2 := h1.1.set (i * 3 + 1) y hy
 exact zgb.over1 h2.1 (zgb.over1 h1.1 (zgb.over1 h hc _ (by omega) _) _ (by omega) _) _ (by omega) _
theorem zfe (h : zkb w e B v n) (i k : Nat) (hk : k ≠ i * 3) (hk1 : k ≠ i * 3 + 1) (hk2 : k ≠ i * 3 + 2) (x y z : Value) :
 (((w.setCell (Go.Proofs.YtlpdkbmmbdfoiaaGreat.ptr v (i * 3)) x).setCell (Go.Proofs.YtlpdkbmmbdfoiaaGreat.ptr v (i * 3 + 1)) y).setCell (Go.Proofs.YtlpdkbmmbdfoiaaGreat.ptr v (i * 3 + 2)) z).cell? (Go.Proofs.YtlpdkbmmbdfoiaaGreat.ptr v k) = w.cell? (Go.Proofs.YtlpdkbmmbdfoiaaGreat.ptr v k) := by
 rw [World.cell?_setCell_other _ _ _ _ (h.inj (Ne.symm hk2)), World.cell?_setCell_other _ _ _ _ (h.inj (Ne.symm hk1)), World.cell?_setCell_other _ _ _ _ (h.inj (Ne.symm hk))]
theorem zbg.set3_other (h : zkb w e B v n) {i j : Nat} (hi : i < n) (hij : i ≠ j) {q : Rat} (hj : zbg w v j q) (x y z : Value) (hx : ∀ k, x ≠ .int .u32 k) (hy : ∀ k, y ≠ .int .u32 k) :
 zbg (((w.setCell (Go.Proofs.YtlpdkbmmbdfoiaaGreat.ptr v (i * 3)) x).setCell (Go.Proofs.YtlpdkbmmbdfoiaaGreat.ptr v (i * 3 + 1)) y).setCell (Go.Proofs.YtlpdkbmmbdfoiaaGreat.ptr v (i * 3 + 2)) z) v j q := by
 obtain ⟨a, b, h1, h2, h3, h4, h5⟩ := hj
 refine ⟨a, b, ?_, ?_, ?_, zgb.over3 h h4 i hi x y z hx hy, zgb.over3 h h5 i hi x y z hx hy⟩
 ·rw [zfe h i _ (by omega) (by omega) (by omega)]; exact h1
 ·rw [zfe h i _ (by omega) (by omega) (by omega)]; exact h2
 ·rw [zfe h i _ (by omega) (by omega) (by omega)]; exact h3
theorem zbg.set3 (h : zkb w e B v n) {i : Nat} (hi : i < n) {q : Rat} {x y z : Value} (hf : zya w (.agg #[x, y, z]) q) :
 zbg (((w.setCell (Go.Proofs.YtlpdkbmmbdfoiaaGreat.ptr v (i * 3)) x).setCell (Go.Proofs.YtlpdkbmmbdfoiaaGreat.ptr v (i * 3 + 1)) y).setCell (Go.Proofs.YtlpdkbmmbdfoiaaGreat.ptr v (i * 3 + 2)) z) v i q := by
 obtain ⟨a, b, ha, h4, h5⟩ := hf
 injection ha with ha
 injection ha with ha
 simp only [List.cons.injEq, and_true] at ha
 obtain ⟨rfl, rfl, rfl⟩ := ha
 have nx : ∀ k, Value.bool (decide (q < 0)) ≠ .int .u32 k := fun k => by simp
 have ny : ∀ k, y ≠ .int .u32 k := fun k => by obtain ⟨a1, n1, c1, e1, _⟩ := h4.v.sl; subst e1; simp
 obtain ⟨c0, d0, _⟩ := h.cell (i * 3) (by omega)
 obtain ⟨c1, d1, _⟩ := h.cell (i * 3 + 1) (by omega)
 obtain ⟨c2, d2, _⟩ := h.cell (i * 3 + 2) (by omega)
 have n01 := h.inj (show i * 3 ≠ i * 3 + 1 by omega)
 have n02 := h.inj (show i * 3 ≠ i * 3 + 2 by omega)
 have n12 := h.inj (show i * 3 + 1 ≠ i * 3 + 2 by omega)
 refine ⟨y, z, ?_, ?_, ?_, zgb.over3 h h4 i hi _ _ _ nx ny, zgb.over3 h h5 i hi _ _ _ nx ny⟩
 ·rw [World.cell?_setCell_other _ _ _ _ n02.symm, World.cell?_setCell_other _ _ _ _ n01.symm]
  exact World.cell?_setCell_same _ _ _ d0
 ·rw [World.cell?_setCell_other _ _ _ _ n12.symm]
  exact World.cell?_setCell_same _ _ _ (u := c1) (by rw [World.cell?_setCell_other _ _ _ _ n01]; exact d1)
 ·exact World.cell?_setCell_same _ _ _ (u := c2) (by rw [World.cell?_setCell_other _ _ _ _ n12, World.cell?_setCell_other _ _ _ _ n02]; exact d2)
end
theorem zgn {P : Program} (t e : TypeId) (i : TypeInfo) (h1 : P.underlying t = some (.slice e)) (h2 : P.info? e = some i) (h3 : i.zero = some (.agg #[.bool false, .slice none 0 0, .slice none 0 0])) (h4 : i.size = 3) (h5 : i.bytes ≤ 64)
 (w : World) {ops : Array Oper} {rest : List Oper} {o : Oper} {a : Act} {Q : Exit → Act → World → Prop} (hg : o.guard = none) (l c : Operand) (hop : o.op = Op.makeSlice t l c)
 (B : Nat) (u : Int) (n : Nat) (hu : u = n) (hl : a.eval l = .int .i64 u) (hc : a.eval c = .int .i64 u) (b2 : n ≤ 4398046511104) (b4 : B ≤ w.heap.size)
 (hK : ∀ v w', zkb w' e B v n → Below w.heap.size w w' → w.heap.size ≤ (base v).block → wpList P ops Q rest (a.put o.dst v) w') :
 wpList P ops Q (o :: rest) a w := by
 subst hu
 refine wpList_make_full w hg l c t hop B e i _ 3 h1 h2 h3 h4 .i64 .i64 n n n hl hc rfl rfl (Nat.le_trans (Nat.mul_le_mul_right _ h5) (by omega)) (by unfold maxLen; omega) b4 ?_
 intro w' hown hgr
 refine hK _ w' ⟨_, _, rfl, hown, fun x hx z => ?_⟩ (zla hgr (Nat.le_refl _) (fun k hk => by cases hk)) (by simp [base])
 have hx2 : x ∈ (madeCells #[Value.bool false, .slice none 0 0, .slice none 0 0] (n * 3)).toList := hx
 unfold madeCells at hx2
 simp only [Array.toList_map, List.mem_map, Array.mem_toList_iff] at hx2
 obtain ⟨k, hk, rfl⟩ := hx2
 have h7 : k % 3 < 3 := Nat.mod_lt _ (by decide)
 have h8 : (#[Value.bool false, .slice none 0 0, .slice none 0 0] : Array Value).size = 3 := rfl
 rw [h8]
 rcases (show k % 3 = 0 ∨ k % 3 = 1 ∨ k % 3 = 2 by omega) with h9 | h9 | h9 <;> rw [h9] <;> simp
theorem zbl : fits 0 := by decide
theorem fits_one : fits 1 := by decide
def RF0 (w0 : World) (q : Rat) (e : Ending) (w : World) : Prop := ∃ v, e = .returned (.tuple #[v, .int .i64 0]) ∧ zya w v q ∧ Below w0.heap.size w0 w
def RF1 (w0 : World) (q : Rat) (e : Ending) (w : World) : Prop := ∃ v, e = .returned v ∧ zya w v q ∧ Below w0.heap.size w0 w
theorem zwl.ok {w0 : World} {q q' : Rat} {e : Ending} {w : World} (h : zwl w0 q e w) (hq : q = q') (hf : fits q') : RF0 w0 q' e w := by
 subst hq
 obtain ⟨v, er, rfl, h1, h2, _⟩ := h
 obtain ⟨rfl, h3⟩ := h2 hf
 exact ⟨v, rfl, h3, h1⟩
theorem make_01 (w : World) : Calls Tryz.prog 67 #[.int .i64 0, .int .i64 1] w (RF0 w 0) :=
 (ztk 0 1 w (by decide) (by decide) (by decide) (by decide) (by decide)).mono fun _ _ h => h.ok (by decide) zbl
theorem make_11 (w : World) : Calls Tryz.prog 67 #[.int .i64 1, .int .i64 1] w (RF0 w 1) :=
 (ztk 1 1 w (by decide) (by decide) (by decide) (by decide) (by decide)).mono fun _ _ h => h.ok (by decide) fits_one
theorem zxi {fn : Func} {p : Tmp} {ty : TypeId} (h : fn.results = #[.cell p ty]) (tmps : Array Value) (P : Program) (w : World) :
 (results fn tmps).run P w = ((asAddr (tmps.getD p undef)).run P w).andThen fun a w => (loadVar ty a).run P w := by
 simp [results, h]
theorem zab {P : Program} {fn : Func} {R : Ending → World → Prop} {a : Act} {w : World} {p : Tmp} {ty : TypeId} {b : Nat} {v0 v1 v2 : Value} (h : fn.results = #[.cell p ty])
 (hp : a.tmps.getD p undef = .pointer (some ⟨b, 0, none⟩)) (hagg : ∀ w, (isAgg ty).run P w = .ok true w) (hs : ∀ w, (sizeOf ty).run P w = .ok 3 w) (hc : C3 w b v0 v1 v2) (hd : a.defers = [])
 (hR : R (.returned (.agg #[v0, v1, v2])) w) : bodyPost P fn R .ret a w := by
 refine bodyPost_ret ?_ hd hR
 rw [zxi h, hp]
 simp only [asAddr, Sem.run_pure, Result.andThen_ok, load_c3 hagg hs hc]
theorem Tryz.infoF : (Tryz.prog.info? 38).map (fun i => (i.zero, i.size, i.bytes)) = some (some (.agg #[.bool false, .slice none 0 0, .slice none 0 0]), 3, 56) := by kernel_rfl
theorem zda {w w1 w2 : World} {B : Nat} (h : Below B w w1) (h' : Below w1.heap.size w1 w2) (hB : B ≤ w1.heap.size := by exact h.size) : Below B w w2 := h.trans (h'.mono hB)
theorem zkb.fracs {w : World} {e : TypeId} {B n : Nat} {v : Value} (h : zkb w e B v n) {l : List Rat} (hl : l.length = n) (he : ∀ j (hj : j < l.length), zbg w v j l[j]) : zza w v l :=
 ⟨h.sl, by rw [h.len, hl], he⟩
theorem Tryz.infoRow : (Tryz.prog.info? 25).map (fun i => (i.zero, i.size, i.bytes)) = some (some (.slice none 0 0), 1, 24) := by kernel_rfl
theorem Tryz.infoBool : (Tryz.prog.info? 4).map (fun i => (i.zero, i.size, i.bytes)) = some (some (.bool false), 1, 1) := by kernel_rfl
theorem C3.other {w : World} {b : Nat} {v0 v1 v2 : Value} (h : C3 w b v0 v1 v2) (p : Addr) (u : Value) (hp : p.block ≠ b) : C3 (w.setCell p u) b v0 v1 v2 := by
 obtain ⟨lt, c0, c1, c2, f0, f1, f2⟩ := h
 have hne : ∀ k, p ≠ ⟨b, k, none⟩ := fun k e => hp (by rw [e])
 have hf : ∀ q, (w.setCell p u).frozen? q = w.frozen? q := fun q => by simp
 exact ⟨by simpa [World.setCell] using lt, by rw [World.cell?_setCell_other _ _ _ _ (hne _)]; exact c0, by rw [World.cell?_setCell_other _ _ _ _ (hne _)]; exact c1, by rw [World.cell?_setCell_other _ _ _ _ (hne _)]; exact c2,
  by rw [hf]; exact f0, by rw [hf]; exact f1, by rw [hf]; exact f2⟩
theorem sizeD (w : World) : w.drew.heap.size = w.heap.size := rfl
theorem zsj (w : World) (o : Obj) : (w.alloc o).heap.size = w.heap.size + 1 := by simp
theorem C3.newB {b : Nat} (w : World) (t : TypeId) (v0 v1 v2 : Value) (hb : w.heap.size = b) : C3 (w.alloc (.cells #[v0, v1, v2] t)) b v0 v1 v2 := by subst hb; exact C3.new w t v0 v1 v2
theorem C3.grownB {w w' : World} {b : Nat} {v0 v1 v2 : Value} {r : Option Nat} (h : C3 w b v0 v1 v2) (hg : w.grownBy w' r) (hr : r ≠ some b) : C3 w' b v0 v1 v2 := by
 have e := hg.block b h.lt (fun h => hr h.symm)
 obtain ⟨lt, c0, c1, c2, f0, f1, f2⟩ := h
 have hc : ∀ k, w'.cell? ⟨b, k, none⟩ = w.cell? ⟨b, k, none⟩ := fun k => by simp [World.cell?, e]
 have hf : ∀ k, w'.frozen? ⟨b, k, none⟩ = w.frozen? ⟨b, k, none⟩ := fun k => by simp [World.frozen?, e]
 exact ⟨Nat.lt_of_lt_of_le lt hg.size, by rw [hc]; exact c0, by rw [hc]; exact c1, by rw [hc]; exact c2, by rw [hf]; exact f0, by rw [hf]; exact f1, by rw [hf]; exact f2⟩
theorem fq_scale2 (s : Bool) {n d k : Nat} (hk : k ≠ 0) : fq s (n * k) (d * k) = fq s n d := by
 unfold fq
 have e : sgn s (n * k) = sgn s n * k := by unfold sgn; split <;> simp [Int.neg_mul]
 rw [e]
 exact Rat.mkRat_mul_right hk
theorem fq_ne (s : Bool) {n d : Nat} (hn : n ≠ 0) (hd : d ≠ 0) : fq s n d ≠ 0 := fun h => by
 unfold fq at h
 have := (Rat.mkRat_eq_zero hd).1 h
 have h2 := zeg s n
 rw [this] at h2
 exact hn h2.symm
theorem fq_quo (s t : Bool) {n d m e : Nat} (hm : m ≠ 0) (he : e ≠ 0) : fq s n d / fq t m e = fq (s != t) (n * e) (d * m) := by
 have h1 : fq s n d = fq (s != t) (n * e) (d * m) * fq t m e := by
  rw [fq_mul, ← fq_scale2 s (n := n) (d := d) (Nat.mul_ne_zero he hm)]
  congr 1
  ·cases s <;> cases t <;> rfl
  ·rw [Nat.mul_assoc]
  ·rw [Nat.mul_assoc, Nat.mul_comm e m]
 rw [h1, Rat.mul_div_cancel (fq_ne t hm he)]
theorem fq_sub (s t : Bool) (n d m e : Nat) (he : e ≠ 0) : fq s n d - fq t m e = fq s n d + fq (!t) m e := by
 rw [Rat.sub_eq_add_neg]
 congr 1
 unfold fq
 rw [Rat.neg_mkRat]
 congr 1
 unfold sgn
 cases t <;> simp
theorem zpb.over {w : World} {v : Value} {n : Nat} (h : zpb w v n) {p : Addr} {x : Value} (hp : w.cell? p = some x) (hx : ∀ z, x ≠ .int .u32 z) (u : Value) : zpb (w.setCell p u) v n := by
 obtain ⟨l, h1, h2⟩ := h; exact ⟨l, h1.over hp hx u, h2⟩
theorem zpb.set3 {w : World} {v : Value} {n : Nat} {b : Nat} {s : Bool} {x y : Value} (h : zpb w v n) (hc : C3 w b (.bool s) x y) (hx : ∀ z, x ≠ .int .u32 z) (hy : ∀ z, y ≠ .int .u32 z) (u0 u1 u2 : Value) :
 zpb (((w.setCell ⟨b, 0, none⟩ u0).setCell ⟨b, 1, none⟩ u1).setCell ⟨b, 2, none⟩ u2) v n := by
 obtain ⟨l, h1, h2⟩ := h; exact ⟨l, h1.set3 hc (fun z => by simp) hx hy u0 u1 u2, h2⟩
set_option maxHeartbeats 800000 in
theorem fminus_any (va : Value) (s : Bool) (n d : Nat) (w : World) (ha : zlb w va s n d) :
 Calls Tryz.prog 202 #[va] w fun e w' => ∃ v, e = .returned v ∧ zlb w' v (!s) n d ∧ Below w.heap.size w w' := by
 obtain ⟨xn, xd, rfl, hxn, hxd⟩ := ha
 obtain ⟨an, ln, kn, rfl, _⟩ := hxn.slen.1
 obtain ⟨ad, ld, kd, rfl, _⟩ := hxd.slen.1
 obtain ⟨bx, bz, hbw⟩ := zte w 38 (.bool s) (.slice an ln kn) (.slice ad ld kd) (.bool false) (.slice none 0 0) (.slice none 0 0) _ rfl
 have hxn2 := (hxn.below hbw).over bx.c0 (fun z => by simp) (.bool (!s))
 have hxd2 := (hxd.below hbw).over bx.c0 (fun z => by simp) (.bool (!s))
 have hZ2 := bz.other ⟨w.heap.size, 0, none⟩ (.bool (!s)) (by simp)
 have hbs := hbw.setCell (p := ⟨w.heap.size, 0, none⟩) (Nat.le_refl _) (.bool (!s))
 have HF := zH (And.intro (And.intro hxn2 hxd2) (And.intro hZ2 hbs))
 obtain ⟨_, x0, x1, x2, f0, f1, f2⟩ := bx
 obtain ⟨_, z0, z1, z2, g0, g1, g2⟩ := bz
 clear hxn2 hxd2 hZ2 hbs hxn hxd hbw
 go_enter Tryz.func202, Tryz.ntmps202
 go_upto_region 1 with fail
 generalize (w.alloc (.cells #[.bool s, .slice an ln kn, .slice ad ld kd] 38)).alloc (.cells #[.bool false, .slice none 0 0, .slice none 0 0] 38) = W at *
 go_wp2_with fail
 refine zab rfl rfl Tryz.aggF Tryz.sizeF (HF.out.2.1.set _ _ _) rfl ?_
 exact ⟨_, rfl, ⟨_, _, rfl, HF.out.1.1.set3 HF.out.2.1 (fun z => by simp) (fun z => by simp) _ _ _, HF.out.1.2.set3 HF.out.2.1 (fun z => by simp) (fun z => by simp) _ _ _⟩, zha HF.out.2.2 (by omega) _ _ _⟩
set_option maxRecDepth 100000 in
set_option maxHeartbeats 1600000 in
theorem mul_frac (va vb : Value) (s t : Bool) (n d m e : Nat) (w : World) (ha : zlb w va s n d) (hb : zlb w vb t m e) (h1 : okN n d) (h2 : okN m e) :
 Calls Tryz.prog 131 #[va, vb] w (zwl w (fq s n d * fq t m e)) := by
 have hA := ha
 have hB := hb
 obtain ⟨xn, xd, rfl, hxn, hxd⟩ := ha
 obtain ⟨yn, yd, rfl, hyn, hyd⟩ := hb
 obtain ⟨an, ln, kn, rfl, _⟩ := hxn.slen.1
 obtain ⟨ad, ld, kd, rfl, _⟩ := hxd.slen.1
 obtain ⟨am, lm, km, rfl, _⟩ := hyn.slen.1
 obtain ⟨ae, le, ke, rfl, _⟩ := hyd.slen.1
 have HQ := zH (fq_mul s t n d m e)
 have K1 := zH h1
 have K2 := zH h2
 clear h1 h2
 go_enter Tryz.func131, Tryz.ntmps131
 go_wp2_with fail
 obtain ⟨W, hW⟩ : ∃ W, W = (((w.alloc (.cells #[.bool s, .slice an ln kn, .slice ad ld kd] 38)).alloc (.cells #[.bool t, .slice am lm km, .slice ae le ke] 38)).alloc (.cells #[.bool false, .slice none 0 0, .slice none 0 0] 38)) := ⟨_, rfl⟩
 obtain ⟨bx, byy, bz, hbw⟩ := zcd w 38 _ _ _ _ _ _ _ _ _ W hW
 rw [← hW]
 clear hW
 have HBX := zH bx
 have HBY := zH byy
 have HBZ := zH bz
 obtain ⟨_, q1, q2, q3, q4, q5, q6⟩ := bx
 obtain ⟨_, r1, r2, r3, r4, r5, r6⟩ := byy
 go_wp2_with (first
  |(go_at_call 79; first
    |((with_reducible refine (zod _ s n d _ (hA.below hbw) K1.out).mono ?_); rintro e9 w1 ⟨rfl, hv1⟩
      obtain ⟨_, f1, f2, f3, f4, f5, f6⟩ := HBY.out.belowS hv1
      have hbw1 := hbw.trans (hv1.mono hbw.size))
    |((with_reducible refine (zod _ t m e _ (hB.below hbw1) K2.out).mono ?_); rintro e9 w2 ⟨rfl, hv2⟩
      have hbx2 := (HBX.out.belowS hv1).belowS hv2
      have hby2 := (HBY.out.belowS hv1).belowS hv2
      have hbz2 := (HBZ.out.belowS hv1).belowS hv2
      have hbw2 := hbw1.trans (hv2.mono hbw1.size))))
 clear q1 q2 q3 q4 q5 q6 r1 r2 r3 r4 r5 r6 f1 f2 f3 f4 f5 f6
 have hd2 := zga (B := w2.heap.size) w2
 have hD := hbw2.trans (hd2.mono hbw2.size)
 have hbx3 := hbx2.belowS hd2
 have hby3 := hby2.belowS hd2
 have hbz3 := hbz2.belowS hd2
 have HX3 := zH hbx3
 have HY3 := zH hby3
 have HZ3 := zH hbz3
 clear hbx2 hby2 hbz2 hbw2 hv1 hv2 hbw hbw1 HBX HBY HBZ bz hd2
 obtain ⟨_, q1, q2, q3, q4, q5, q6⟩ := hbx3
 obtain ⟨_, r1, r2, r3, r4, r5, r6⟩ := hby3
 obtain ⟨_, z1, z2, z3, z4, z5, z6⟩ := hbz3
 have g1 := hxn.below hD
 have g2 := hxd.below hD
 have g3 := hyn.below hD
 have g4 := hyd.below hD
 have l1 := zH (zpd K1.out)
 have l2 := zH (zpd K2.out)
 have T1 := zH (Nat.le_trans l1.out.1 (show 128 ≤ 256 by decide))
 have T2 := zH (Nat.le_trans l2.out.2 (show 128 ≤ 256 by decide))
 have T3 := zH (Nat.le_trans l2.out.1 (show 128 ≤ 256 by decide))
 have T4 := zH (Nat.le_trans l1.out.2 (show 128 ≤ 256 by decide))
 have N1 := zH (Nat.le_trans (zif l1.out.1 l2.out.1) (show 128 + 128 ≤ 512 by decide))
 have N2 := zH (Nat.le_trans (zif l1.out.2 l2.out.2) (show 128 + 128 ≤ 512 by decide))
 have HDE : Hid (d * e ≠ 0) := zH (Nat.mul_ne_zero K1.out.1 K2.out.1)
 have tok1 : True := trivial
 rcases s with _ | _ <;> rcases t with _ | _
 ·go_region_held3 (fun w' => w'.cell? ⟨w.heap.size, 0, none⟩ = some (.bool false) ∧ w'.cell? ⟨w.heap.size, 1, none⟩ = some (.slice an ln kn) ∧ w'.cell? ⟨w.heap.size, 2, none⟩ = some (.slice ad ld kd) ∧ w'.cell? ⟨w.heap.size + 1, 0, none⟩ = some (.bool false) ∧ w'.cell? ⟨w.heap.size + 1, 1, none⟩ = some (.slice am lm km) ∧ w'.cell? ⟨w.heap.size + 1, 2, none⟩ = some (.slice ae le ke)) (first | with_reducible exact ⟨q1, q2, q3, r1, r2, r3⟩ | (refine ⟨?_, ?_, ?_, ?_, ?_, ?_⟩ <;> go_simp)) (first
   |(go_at_call 157; have _t := tok1; clear tok1 _t; (with_reducible refine (zdb _ _ n m _ g1 g3 T1.out T3.out).mono ?_); rintro e9 w3 ⟨p1, rfl, hp1, hp2⟩
     have X4 := HX3.out.belowS hp2
     have Y4 := HY3.out.belowS hp2
     have HX4 := zH X4
     have HY4 := zH Y4
     obtain ⟨_, q1, q2, q3, q4, q5, q6⟩ := X4
     obtain ⟨_, r1, r2, r3, r4, r5, r6⟩ := Y4)
   |(go_at_call 157; (with_reducible refine (zdb _ _ d e _ (g2.below hp2) (g4.below hp2) T4.out T2.out).mono ?_); rintro e9 w4 ⟨p3, rfl, hp3, hp4⟩
     have hp24 := zaa hp2 hp4
     have hp14 := hp1.below hp4
     have X5 := HX4.out.belowS hp4
     have Y5 := HY4.out.belowS hp4
     have HX5 := zH X5
     have HY5 := zH Y5
     obtain ⟨_, q1, q2, q3, q4, q5, q6⟩ := X5
     obtain ⟨_, r1, r2, r3, r4, r5, r6⟩ := Y5)
   |(go_at_call 142; (with_reducible refine (zsb _ p1 p3 (n * m) (d * e) _ hp14.nat hp3.nat HDE.out N1.out N2.out).mono ?_); rintro e9 w5 ⟨v, er, rfl, hv1, hv2, hv3⟩
     obtain ⟨t9, x9, y9, rfl, ⟨a1, l91, k1, rfl, _⟩, ⟨a2, l92, k2, rfl, _⟩⟩ := zwb (w0 := w) hv2 hv3
     have hp26 := zaa hp24 hv1
     have X6 := HX5.out.belowS hv1
     have Y6 := HY5.out.belowS hv1
     have Z6 := HZ3.out.belowS hp26
     have HZ6 := zH Z6
     obtain ⟨_, q1, q2, q3, q4, q5, q6⟩ := X6
     obtain ⟨_, r1, r2, r3, r4, r5, r6⟩ := Y6
     obtain ⟨_, z1, z2, z3, z4, z5, z6⟩ := Z6))
  all_goals
   go_wp2_with fail
   refine zoa rfl rfl Tryz.aggF Tryz.sizeF (HZ6.out.set _ _ _) rfl ?_
   rw [HQ.out]
   exact ⟨_, _, rfl, zha (hD.trans (hp26.mono hD.size)) (by omega) _ _ _, fun h => ⟨(hv2 h).1, (hv2 h).2.set3 HZ6.out (fun z => by simp) (fun z => by simp) _ _ _⟩, hv3⟩
 ·go_region_held3 (fun w' => w'.cell? ⟨w.heap.size, 0, none⟩ = some (.bool false) ∧ w'.cell? ⟨w.heap.size, 1, none⟩ = some (.slice an ln kn) ∧ w'.cell? ⟨w.heap.size, 2, none⟩ = some (.slice ad ld kd) ∧ w'.cell? ⟨w.heap.size + 1, 0, none⟩ = some (.bool true) ∧ w'.cell? ⟨w.heap.size + 1, 1, none⟩ = some (.slice am lm km) ∧ w'.cell? ⟨w.heap.size + 1, 2, none⟩ = some (.slice ae le ke)) (first | with_reducible exact ⟨q1, q2, q3, r1, r2, r3⟩ | (refine ⟨?_, ?_, ?_, ?_, ?_, ?_⟩ <;> go_simp)) (first
   |(go_at_call 157; have _t := tok1; clear tok1 _t; (with_reducible refine (zdb _ _ n m _ g1 g3 T1.out T3.out).mono ?_); rintro e9 w3 ⟨p1, rfl, hp1, hp2⟩
     have X4 := HX3.out.belowS hp2
     have Y4 := HY3.out.belowS hp2
     have HX4 := zH X4
     have HY4 := zH Y4
     obtain ⟨_, q1, q2, q3, q4, q5, q6⟩ := X4
     obtain ⟨_, r1, r2, r3, r4, r5, r6⟩ := Y4)
   |(go_at_call 157; (with_reducible refine (zdb _ _ d e _ (g2.below hp2) (g4.below hp2) T4.out T2.out).mono ?_); rintro e9 w4 ⟨p3, rfl, hp3, hp4⟩
     have hp24 := zaa hp2 hp4
     have hp14 := hp1.below hp4
     have X5 := HX4.out.belowS hp4
     have Y5 := HY4.out.belowS hp4
     have HX5 := zH X5
     have HY5 := zH Y5
     obtain ⟨_, q1, q2, q3, q4, q5, q6⟩ := X5
     obtain ⟨_, r1, r2, r3, r4, r5, r6⟩ := Y5)
   |(go_at_call 142; (with_reducible refine (zsb _ p1 p3 (n * m) (d * e) _ hp14.nat hp3.nat HDE.out N1.out N2.out).mono ?_); rintro e9 w5 ⟨v, er, rfl, hv1, hv2, hv3⟩
     obtain ⟨t9, x9, y9, rfl, ⟨a1, l91, k1, rfl, _⟩, ⟨a2, l92, k2, rfl, _⟩⟩ := zwb (w0 := w) hv2 hv3
     have hp26 := zaa hp24 hv1
     have X6 := HX5.out.belowS hv1
     have Y6 := HY5.out.belowS hv1
     have Z6 := HZ3.out.belowS hp26
     have HZ6 := zH Z6
     obtain ⟨_, q1, q2, q3, q4, q5, q6⟩ := X6
     obtain ⟨_, r1, r2, r3, r4, r5, r6⟩ := Y6
     obtain ⟨_, z1, z2, z3, z4, z5, z6⟩ := Z6))
  all_goals
   go_wp2_with fail
   refine zoa rfl rfl Tryz.aggF Tryz.sizeF (HZ6.out.set _ _ _) rfl ?_
   rw [HQ.out]
   exact ⟨_, _, rfl, zha (hD.trans (hp26.mono hD.size)) (by omega) _ _ _, fun h => ⟨(hv2 h).1, (hv2 h).2.set3 HZ6.out (fun z => by simp) (fun z => by simp) _ _ _⟩, hv3⟩
 ·go_region_held3 (fun w' => w'.cell? ⟨w.heap.size, 0, none⟩ = some (.bool true) ∧ w'.cell? ⟨w.heap.size, 1, none⟩ = some (.slice an ln kn) ∧ w'.cell? ⟨w.heap.size, 2, none⟩ = some (.slice ad ld kd) ∧ w'.cell? ⟨w.heap.size + 1, 0, none⟩ = some (.bool false) ∧ w'.cell? ⟨w.heap.size + 1, 1, none⟩ = some (.slice am lm km) ∧ w'.cell? ⟨w.heap.size + 1, 2, none⟩ = some (.slice ae le ke)) (first | with_reducible exact ⟨q1, q2, q3, r1, r2, r3⟩ | (refine ⟨?_, ?_, ?_, ?_, ?_, ?_⟩ <;> go_simp)) (first
   |(go_at_call 157; have _t := tok1; clear tok1 _t; (with_reducible refine (zdb _ _ n m _ g1 g3 T1.out T3.out).mono ?_); rintro e9 w3 ⟨p1, rfl, hp1, hp2⟩
     have X4 := HX3.out.belowS hp2
     have Y4 := HY3.out.belowS hp2
     have HX4 := zH X4
     have HY4 := zH Y4
     obtain ⟨_, q1, q2, q3, q4, q5, q6⟩ := X4
     obtain ⟨_, r1, r2, r3, r4, r5, r6⟩ := Y4)
   |(go_at_call 157; (with_reducible refine (zdb _ _ d e _ (g2.below hp2) (g4.below hp2) T4.out T2.out).mono ?_); rintro e9 w4 ⟨p3, rfl, hp3, hp4⟩
     have hp24 := zaa hp2 hp4
     have hp14 := hp1.below hp4
     have X5 := HX4.out.belowS hp4
     have Y5 := HY4.out.belowS hp4
     have HX5 := zH X5
     have HY5 := zH Y5
     obtain ⟨_, q1, q2, q3, q4, q5, q6⟩ := X5
     obtain ⟨_, r1, r2, r3, r4, r5, r6⟩ := Y5)
   |(go_at_call 142; (with_reducible refine (zsb _ p1 p3 (n * m) (d * e) _ hp14.nat hp3.nat HDE.out N1.out N2.out).mono ?_); rintro e9 w5 ⟨v, er, rfl, hv1, hv2, hv3⟩
     obtain ⟨t9, x9, y9, rfl, ⟨a1, l91, k1, rfl, _⟩, ⟨a2, l92, k2, rfl, _⟩⟩ := zwb (w0 := w) hv2 hv3
     have hp26 := zaa hp24 hv1
     have X6 := HX5.out.belowS hv1
     have Y6 := HY5.out.belowS hv1
     have Z6 := HZ3.out.belowS hp26
     have HZ6 := zH Z6
     obtain ⟨_, q1, q2, q3, q4, q5, q6⟩ := X6
     obtain ⟨_, r1, r2, r3, r4, r5, r6⟩ := Y6
     obtain ⟨_, z1, z2, z3, z4, z5, z6⟩ := Z6))
  all_goals
   go_wp2_with fail
   refine zoa rfl rfl Tryz.aggF Tryz.sizeF (HZ6.out.set _ _ _) rfl ?_
   rw [HQ.out]
   exact ⟨_, _, rfl, zha (hD.trans (hp26.mono hD.size)) (by omega) _ _ _, fun h => ⟨(hv2 h).1, (hv2 h).2.set3 HZ6.out (fun z => by simp) (fun z => by simp) _ _ _⟩, hv3⟩
 ·go_region_held3 (fun w' => w'.cell? ⟨w.heap.size, 0, none⟩ = some (.bool true) ∧ w'.cell? ⟨w.heap.size, 1, none⟩ = some (.slice an ln kn) ∧ w'.cell? ⟨w.heap.size, 2, none⟩ = some (.slice ad ld kd) ∧ w'.cell? ⟨w.heap.size + 1, 0, none⟩ = some (.bool true) ∧ w'.cell? ⟨w.heap.size + 1, 1, none⟩ = some (.slice am lm km) ∧ w'.cell? ⟨w.heap.size + 1, 2, none⟩ = some (.slice ae le ke)) (first | with_reducible exact ⟨q1, q2, q3, r1, r2, r3⟩ | (refine ⟨?_, ?_, ?_, ?_, ?_, ?_⟩ <;> go_simp)) (first
   |(go_at_call 157; have _t := tok1; clear tok1 _t; (with_reducible refine (zdb _ _ n m _ g1 g3 T1.out T3.out).mono ?_); rintro e9 w3 ⟨p1, rfl, hp1, hp2⟩
     have X4 := HX3.out.belowS hp2
     have Y4 := HY3.out.belowS hp2
     have HX4 := zH X4
     have HY4 := zH Y4
     obtain ⟨_, q1, q2, q3, q4, q5, q6⟩ := X4
     obtain ⟨_, r1, r2, r3, r4, r5, r6⟩ := Y4)
   |(go_at_call 157; (with_reducible refine (zdb _ _ d e _ (g2.below hp2) (g4.below hp2) T4.out T2.out).mono ?_); rintro e9 w4 ⟨p3, rfl, hp3, hp4⟩
     have hp24 := zaa hp2 hp4
     have hp14 := hp1.below hp4
     have X5 := HX4.out.belowS hp4
     have Y5 := HY4.out.belowS hp4
     have HX5 := zH X5
     have HY5 := zH Y5
     obtain ⟨_, q1, q2, q3, q4, q5, q6⟩ := X5
     obtain ⟨_, r1, r2, r3, r4, r5, r6⟩ := Y5)
   |(go_at_call 142; (with_reducible refine (zsb _ p1 p3 (n * m) (d * e) _ hp14.nat hp3.nat HDE.out N1.out N2.out).mono ?_); rintro e9 w5 ⟨v, er, rfl, hv1, hv2, hv3⟩
     obtain ⟨t9, x9, y9, rfl, ⟨a1, l91, k1, rfl, _⟩, ⟨a2, l92, k2, rfl, _⟩⟩ := zwb (w0 := w) hv2 hv3
     have hp26 := zaa hp24 hv1
     have X6 := HX5.out.belowS hv1
     have Y6 := HY5.out.belowS hv1
     have Z6 := HZ3.out.belowS hp26
     have HZ6 := zH Z6
     obtain ⟨_, q1, q2, q3, q4, q5, q6⟩ := X6
     obtain ⟨_, r1, r2, r3, r4, r5, r6⟩ := Y6
     obtain ⟨_, z1, z2, z3, z4, z5, z6⟩ := Z6))
  all_goals
   go_wp2_with fail
   refine zoa rfl rfl Tryz.aggF Tryz.sizeF (HZ6.out.set _ _ _) rfl ?_
   rw [HQ.out]
   exact ⟨_, _, rfl, zha (hD.trans (hp26.mono hD.size)) (by omega) _ _ _, fun h => ⟨(hv2 h).1, (hv2 h).2.set3 HZ6.out (fun z => by simp) (fun z => by simp) _ _ _⟩, hv3⟩
set_option maxRecDepth 100000 in
set_option maxHeartbeats 1600000 in
theorem quo_frac (va vb : Value) (s t : Bool) (n d m e : Nat) (w : World) (ha : zlb w va s n d) (hb : zlb w vb t m e) (h1 : okN n d) (h2 : okN m e) (hm : m ≠ 0) :
 Calls Tryz.prog 161 #[va, vb] w (zwl w (fq s n d / fq t m e)) := by
 have hA := ha
 have hB := hb
 obtain ⟨xn, xd, rfl, hxn, hxd⟩ := ha
 obtain ⟨yn, yd, rfl, hyn, hyd⟩ := hb
 obtain ⟨an, ln, kn, rfl, _⟩ := hxn.slen.1
 obtain ⟨ad, ld, kd, rfl, _⟩ := hxd.slen.1
 obtain ⟨am, lm, km, rfl, _⟩ := hyn.slen.1
 obtain ⟨ae, le, ke, rfl, _⟩ := hyd.slen.1
 have HQ := zH (fq_quo s t (n := n) (d := d) (m := m) (e := e) hm h2.1)
 have K1 := zH h1
 have K2 := zH h2
 have HM := zH hm
 clear h1 h2
 go_enter Tryz.func161, Tryz.ntmps161
 go_wp2_with fail
 obtain ⟨W, hW⟩ : ∃ W, W = (((w.alloc (.cells #[.bool s, .slice an ln kn, .slice ad ld kd] 38)).alloc (.cells #[.bool t, .slice am lm km, .slice ae le ke] 38)).alloc (.cells #[.bool false, .slice none 0 0, .slice none 0 0] 38)) := ⟨_, rfl⟩
 obtain ⟨bx, byy, bz, hbw⟩ := zcd w 38 _ _ _ _ _ _ _ _ _ W hW
 rw [← hW]
 clear hW
 have HBX := zH bx
 have HBY := zH byy
 have HBZ := zH bz
 obtain ⟨_, q1, q2, q3, q4, q5, q6⟩ := bx
 obtain ⟨_, r1, r2, r3, r4, r5, r6⟩ := byy
 go_wp2_with (first
  |(go_at_call 79; first
    |((with_reducible refine (zod _ s n d _ (hA.below hbw) K1.out).mono ?_); rintro e9 w1 ⟨rfl, hv1⟩
      obtain ⟨_, f1, f2, f3, f4, f5, f6⟩ := HBY.out.belowS hv1
      have hbw1 := hbw.trans (hv1.mono hbw.size))
    |((with_reducible refine (zod _ t m e _ (hB.below hbw1) K2.out).mono ?_); rintro e9 w2 ⟨rfl, hv2⟩
      have hbx2 := (HBX.out.belowS hv1).belowS hv2
      have hby2 := (HBY.out.belowS hv1).belowS hv2
      have hbz2 := (HBZ.out.belowS hv1).belowS hv2
      have hbw2 := hbw1.trans (hv2.mono hbw1.size)
      clear f1 f2 f3 f4 f5 f6
      obtain ⟨_, f1, f2, f3, f4, f5, f6⟩ := id hby2))
  |(go_at_call 186; (with_reducible refine (zdh _ t m e _ (hB.below hbw2)).mono ?_); rw [decide_eq_false HM.out]; rintro e9 w2z ⟨rfl, hvz⟩
    have hbx2 := hbx2.belowS hvz
    have hby2 := hby2.belowS hvz
    have hbz2 := hbz2.belowS hvz
    have hbw2 := hbw2.trans (hvz.mono hbw2.size)))
 clear q1 q2 q3 q4 q5 q6 r1 r2 r3 r4 r5 r6 f1 f2 f3 f4 f5 f6 hvz
 have hd2 := zga (B := w2z.heap.size) w2z
 have hD := hbw2.trans (hd2.mono hbw2.size)
 have hbx3 := hbx2.belowS hd2
 have hby3 := hby2.belowS hd2
 have hbz3 := hbz2.belowS hd2
 have HX3 := zH hbx3
 have HY3 := zH hby3
 have HZ3 := zH hbz3
 clear hbx2 hby2 hbz2 hbw2 hv1 hv2 hbw hbw1 HBX HBY HBZ bz hd2
 obtain ⟨_, q1, q2, q3, q4, q5, q6⟩ := hbx3
 obtain ⟨_, r1, r2, r3, r4, r5, r6⟩ := hby3
 obtain ⟨_, z1, z2, z3, z4, z5, z6⟩ := hbz3
 have g1 := hxn.below hD
 have g2 := hxd.below hD
 have g3 := hyn.below hD
 have g4 := hyd.below hD
 have l1 := zH (zpd K1.out)
 have l2 := zH (zpd K2.out)
 have T1 := zH (Nat.le_trans l1.out.1 (show 128 ≤ 256 by decide))
 have T2 := zH (Nat.le_trans l2.out.2 (show 128 ≤ 256 by decide))
 have T3 := zH (Nat.le_trans l2.out.1 (show 128 ≤ 256 by decide))
 have T4 := zH (Nat.le_trans l1.out.2 (show 128 ≤ 256 by decide))
 have N1 := zH (Nat.le_trans (zif l1.out.1 l2.out.2) (show 128 + 128 ≤ 512 by decide))
 have N2 := zH (Nat.le_trans (zif l1.out.2 l2.out.1) (show 128 + 128 ≤ 512 by decide))
 have HDE : Hid (d * m ≠ 0) := zH (Nat.mul_ne_zero K1.out.1 HM.out)
 have tok1 : True := trivial
 rcases s with _ | _ <;> rcases t with _ | _
 ·go_region_held3 (fun w' => w'.cell? ⟨w.heap.size, 0, none⟩ = some (.bool false) ∧ w'.cell? ⟨w.heap.size, 1, none⟩ = some (.slice an ln kn) ∧ w'.cell? ⟨w.heap.size, 2, none⟩ = some (.slice ad ld kd) ∧ w'.cell? ⟨w.heap.size + 1, 0, none⟩ = some (.bool false) ∧ w'.cell? ⟨w.heap.size + 1, 1, none⟩ = some (.slice am lm km) ∧ w'.cell? ⟨w.heap.size + 1, 2, none⟩ = some (.slice ae le ke)) (first | with_reducible exact ⟨q1, q2, q3, r1, r2, r3⟩ | (refine ⟨?_, ?_, ?_, ?_, ?_, ?_⟩ <;> go_simp)) (first
   |(go_at_call 157; have _t := tok1; clear tok1 _t; (with_reducible refine (zdb _ _ n e _ g1 g4 T1.out T2.out).mono ?_); rintro e9 w3 ⟨p1, rfl, hp1, hp2⟩
     have X4 := HX3.out.belowS hp2
     have Y4 := HY3.out.belowS hp2
     have HX4 := zH X4
     have HY4 := zH Y4
     obtain ⟨_, q1, q2, q3, q4, q5, q6⟩ := X4
     obtain ⟨_, r1, r2, r3, r4, r5, r6⟩ := Y4)
   |(go_at_call 157; (with_reducible refine (zdb _ _ d m _ (g2.below hp2) (g3.below hp2) T4.out T3.out).mono ?_); rintro e9 w4 ⟨p3, rfl, hp3, hp4⟩
     have hp24 := zaa hp2 hp4
     have hp14 := hp1.below hp4
     have X5 := HX4.out.belowS hp4
     have Y5 := HY4.out.belowS hp4
     have HX5 := zH X5
     have HY5 := zH Y5
     obtain ⟨_, q1, q2, q3, q4, q5, q6⟩ := X5
     obtain ⟨_, r1, r2, r3, r4, r5, r6⟩ := Y5)
   |(go_at_call 142; (with_reducible refine (zsb _ p1 p3 (n * e) (d * m) _ hp14.nat hp3.nat HDE.out N1.out N2.out).mono ?_); rintro e9 w5 ⟨v, er, rfl, hv1, hv2, hv3⟩
     obtain ⟨t9, x9, y9, rfl, ⟨a1, l91, k1, rfl, _⟩, ⟨a2, l92, k2, rfl, _⟩⟩ := zwb (w0 := w) hv2 hv3
     have hp26 := zaa hp24 hv1
     have X6 := HX5.out.belowS hv1
     have Y6 := HY5.out.belowS hv1
     have Z6 := HZ3.out.belowS hp26
     have HZ6 := zH Z6
     obtain ⟨_, q1, q2, q3, q4, q5, q6⟩ := X6
     obtain ⟨_, r1, r2, r3, r4, r5, r6⟩ := Y6
     obtain ⟨_, z1, z2, z3, z4, z5, z6⟩ := Z6))
  all_goals
   go_wp2_with fail
   refine zoa rfl rfl Tryz.aggF Tryz.sizeF (HZ6.out.set _ _ _) rfl ?_
   rw [HQ.out]
   exact ⟨_, _, rfl, zha (hD.trans (hp26.mono hD.size)) (by omega) _ _ _, fun h => ⟨(hv2 h).1, (hv2 h).2.set3 HZ6.out (fun z => by simp) (fun z => by simp) _ _ _⟩, hv3⟩
 ·go_region_held3 (fun w' => w'.cell? ⟨w.heap.size, 0, none⟩ = some (.bool false) ∧ w'.cell? ⟨w.heap.size, 1, none⟩ = some (.slice an ln kn) ∧ w'.cell? ⟨w.heap.size, 2, none⟩ = some (.slice ad ld kd) ∧ w'.cell? ⟨w.heap.size + 1, 0, none⟩ = some (.bool true) ∧ w'.cell? ⟨w.heap.size + 1, 1, none⟩ = some (.slice am lm km) ∧ w'.cell? ⟨w.heap.size + 1, 2, none⟩ = some (.slice ae le ke)) (first | with_reducible exact ⟨q1, q2, q3, r1, r2, r3⟩ | (refine ⟨?_, ?_, ?_, ?_, ?_, ?_⟩ <;> go_simp)) (first
   |(go_at_call 157; have _t := tok1; clear tok1 _t; (with_reducible refine (zdb _ _ n e _ g1 g4 T1.out T2.out).mono ?_); rintro e9 w3 ⟨p1, rfl, hp1, hp2⟩
     have X4 := HX3.out.belowS hp2
     have Y4 := HY3.out.belowS hp2
     have HX4 := zH X4
     have HY4 := zH Y4
     obtain ⟨_, q1, q2, q3, q4, q5, q6⟩ := X4
     obtain ⟨_, r1, r2, r3, r4, r5, r6⟩ := Y4)
   |(go_at_call 157; (with_reducible refine (zdb _ _ d m _ (g2.below hp2) (g3.below hp2) T4.out T3.out).mono ?_); rintro e9 w4 ⟨p3, rfl, hp3, hp4⟩
     have hp24 := zaa hp2 hp4
     have hp14 := hp1.below hp4
     have X5 := HX4.out.belowS hp4
     have Y5 := HY4.out.belowS hp4
     have HX5 := zH X5
     have HY5 := zH Y5
     obtain ⟨_, q1, q2, q3, q4, q5, q6⟩ := X5
     obtain ⟨_, r1, r2, r3, r4, r5, r6⟩ := Y5)
   |(go_at_call 142; (with_reducible refine (zsb _ p1 p3 (n * e) (d * m) _ hp14.nat hp3.nat HDE.out N1.out N2.out).mono ?_); rintro e9 w5 ⟨v, er, rfl, hv1, hv2, hv3⟩
     obtain ⟨t9, x9, y9, rfl, ⟨a1, l91, k1, rfl, _⟩, ⟨a2, l92, k2, rfl, _⟩⟩ := zwb (w0 := w) hv2 hv3
     have hp26 := zaa hp24 hv1
     have X6 := HX5.out.belowS hv1
     have Y6 := HY5.out.belowS hv1
     have Z6 := HZ3.out.belowS hp26
     have HZ6 := zH Z6
     obtain ⟨_, q1, q2, q3, q4, q5, q6⟩ := X6
     obtain ⟨_, r1, r2, r3, r4, r5, r6⟩ := Y6
     obtain ⟨_, z1, z2, z3, z4, z5, z6⟩ := Z6))
  all_goals
   go_wp2_with fail
   refine zoa rfl rfl Tryz.aggF Tryz.sizeF (HZ6.out.set _ _ _) rfl ?_
   rw [HQ.out]
   exact ⟨_, _, rfl, zha (hD.trans (hp26.mono hD.size)) (by omega) _ _ _, fun h => ⟨(hv2 h).1, (hv2 h).2.set3 HZ6.out (fun z => by simp) (fun z => by simp) _ _ _⟩, hv3⟩
 ·go_region_held3 (fun w' => w'.cell? ⟨w.heap.size, 0, none⟩ = some (.bool true) ∧ w'.cell? ⟨w.heap.size, 1, none⟩ = some (.slice an ln kn) ∧ w'.cell? ⟨w.heap.size, 2, none⟩ = some (.slice ad ld kd) ∧ w'.cell? ⟨w.heap.size + 1, 0, none⟩ = some (.bool false) ∧ w'.cell? ⟨w.heap.size + 1, 1, none⟩ = some (.slice am lm km) ∧ w'.cell? ⟨w.heap.size + 1, 2, none⟩ = some (.slice ae le ke)) (first | with_reducible exact ⟨q1, q2, q3, r1, r2, r3⟩ | (refine ⟨?_, ?_, ?_, ?_, ?_, ?_⟩ <;> go_simp)) (first
   |(go_at_call 157; have _t := tok1; clear tok1 _t; (with_reducible refine (zdb _ _ n e _ g1 g4 T1.out T2.out).mono ?_); rintro e9 w3 ⟨p1, rfl, hp1, hp2⟩
     have X4 := HX3.out.belowS hp2
     have Y4 := HY3.out.belowS hp2
     have HX4 := zH X4
     have HY4 := zH Y4
     obtain ⟨_, q1, q2, q3, q4, q5, q6⟩ := X4
     obtain ⟨_, r1, r2, r3, r4, r5, r6⟩ := Y4)
   |(go_at_call 157; (with_reducible refine (zdb _ _ d m _ (g2.below hp2) (g3.below hp2) T4.out T3.out).mono ?_); rintro e9 w4 ⟨p3, rfl, hp3, hp4⟩
     have hp24 := zaa hp2 hp4
     have hp14 := hp1.below hp4
     have X5 := HX4.out.belowS hp4
     have Y5 := HY4.out.belowS hp4
     have HX5 := zH X5
     have HY5 := zH Y5
     obtain ⟨_, q1, q2, q3, q4, q5, q6⟩ := X5
     obtain ⟨_, r1, r2, r3, r4, r5, r6⟩ := Y5)
   |(go_at_call 142; (with_reducible refine (zsb _ p1 p3 (n * e) (d * m) _ hp14.nat hp3.nat HDE.out N1.out N2.out).mono ?_); rintro e9 w5 ⟨v, er, rfl, hv1, hv2, hv3⟩
     obtain ⟨t9, x9, y9, rfl, ⟨a1, l91, k1, rfl, _⟩, ⟨a2, l92, k2, rfl, _⟩⟩ := zwb (w0 := w) hv2 hv3
     have hp26 := zaa hp24 hv1
     have X6 := HX5.out.belowS hv1
     have Y6 := HY5.out.belowS hv1
     have Z6 := HZ3.out.belowS hp26
     have HZ6 := zH Z6
     obtain ⟨_, q1, q2, q3, q4, q5, q6⟩ := X6
     obtain ⟨_, r1, r2, r3, r4, r5, r6⟩ := Y6
     obtain ⟨_, z1, z2, z3, z4, z5, z6⟩ := Z6))
  all_goals
   go_wp2_with fail
   refine zoa rfl rfl Tryz.aggF Tryz.sizeF (HZ6.out.set _ _ _) rfl ?_
   rw [HQ.out]
   exact ⟨_, _, rfl, zha (hD.trans (hp26.mono hD.size)) (by omega) _ _ _, fun h => ⟨(hv2 h).1, (hv2 h).2.set3 HZ6.out (fun z => by simp) (fun z => by simp) _ _ _⟩, hv3⟩
 ·go_region_held3 (fun w' => w'.cell? ⟨w.heap.size, 0, none⟩ = some (.bool true) ∧ w'.cell? ⟨w.heap.size, 1, none⟩ = some (.slice an ln kn) ∧ w'.cell? ⟨w.heap.size, 2, none⟩ = some (.slice ad ld kd) ∧ w'.cell? ⟨w.heap.size + 1, 0, none⟩ = some (.bool true) ∧ w'.cell? ⟨w.heap.size + 1, 1, none⟩ = some (.slice am lm km) ∧ w'.cell? ⟨w.heap.size + 1, 2, none⟩ = some (.slice ae le ke)) (first | with_reducible exact ⟨q1, q2, q3, r1, r2, r3⟩ | (refine ⟨?_, ?_, ?_, ?_, ?_, ?_⟩ <;> go_simp)) (first
   |(go_at_call 157; have _t := tok1; clear tok1 _t; (with_reducible refine (zdb _ _ n e _ g1 g4 T1.out T2.out).mono ?_); rintro e9 w3 ⟨p1, rfl, hp1, hp2⟩
     have X4 := HX3.out.belowS hp2
     have Y4 := HY3.out.belowS hp2
     have HX4 := zH X4
     have HY4 := zH Y4
     obtain ⟨_, q1, q2, q3, q4, q5, q6⟩ := X4
     obtain ⟨_, r1, r2, r3, r4, r5, r6⟩ := Y4)
   |(go_at_call 157; (with_reducible refine (zdb _ _ d m _ (g2.below hp2) (g3.below hp2) T4.out T3.out).mono ?_); rintro e9 w4 ⟨p3, rfl, hp3, hp4⟩
     have hp24 := zaa hp2 hp4
     have hp14 := hp1.below hp4
     have X5 := HX4.out.belowS hp4
     have Y5 := HY4.out.belowS hp4
     have HX5 := zH X5
     have HY5 := zH Y5
     obtain ⟨_, q1, q2, q3, q4, q5, q6⟩ := X5
     obtain ⟨_, r1, r2, r3, r4, r5, r6⟩ := Y5)
   |(go_at_call 142; (with_reducible refine (zsb _ p1 p3 (n * e) (d * m) _ hp14.nat hp3.nat HDE.out N1.out N2.out).mono ?_); rintro e9 w5 ⟨v, er, rfl, hv1, hv2, hv3⟩
     obtain ⟨t9, x9, y9, rfl, ⟨a1, l91, k1, rfl, _⟩, ⟨a2, l92, k2, rfl, _⟩⟩ := zwb (w0 := w) hv2 hv3
     have hp26 := zaa hp24 hv1
     have X6 := HX5.out.belowS hv1
     have Y6 := HY5.out.belowS hv1
     have Z6 := HZ3.out.belowS hp26
     have HZ6 := zH Z6
     obtain ⟨_, q1, q2, q3, q4, q5, q6⟩ := X6
     obtain ⟨_, r1, r2, r3, r4, r5, r6⟩ := Y6
     obtain ⟨_, z1, z2, z3, z4, z5, z6⟩ := Z6))
  all_goals
   go_wp2_with fail
   refine zoa rfl rfl Tryz.aggF Tryz.sizeF (HZ6.out.set _ _ _) rfl ?_
   rw [HQ.out]
   exact ⟨_, _, rfl, zha (hD.trans (hp26.mono hD.size)) (by omega) _ _ _, fun h => ⟨(hv2 h).1, (hv2 h).2.set3 HZ6.out (fun z => by simp) (fun z => by simp) _ _ _⟩, hv3⟩
set_option maxRecDepth 100000 in
set_option maxHeartbeats 1600000 in
theorem sub_frac (va vb : Value) (s t : Bool) (n d m e : Nat) (w : World) (ha : zlb w va s n d) (hb : zlb w vb t m e) (h1 : okN n d) (h2 : okN m e) :
 Calls Tryz.prog 163 #[va, vb] w (zwl w (fq s n d - fq t m e)) := by
 have hA := ha
 have hB := hb
 obtain ⟨xn, xd, rfl, hxn, hxd⟩ := ha
 obtain ⟨yn, yd, rfl, hyn, hyd⟩ := hb
 obtain ⟨an, ln, kn, rfl, _⟩ := hxn.slen.1
 obtain ⟨ad, ld, kd, rfl, _⟩ := hxd.slen.1
 obtain ⟨am, lm, km, rfl, _⟩ := hyn.slen.1
 obtain ⟨ae, le, ke, rfl, _⟩ := hyd.slen.1
 have HQ := zH (fq_sub s t n d m e h2.1)
 have K1 := zH h1
 have K2 := zH h2
 clear h1 h2 hxn hxd hyn hyd
 go_enter Tryz.func163, Tryz.ntmps163
 go_wp2_with fail
 obtain ⟨W, hW⟩ : ∃ W, W = (((w.alloc (.cells #[.bool s, .slice an ln kn, .slice ad ld kd] 38)).alloc (.cells #[.bool t, .slice am lm km, .slice ae le ke] 38)).alloc (.cells #[.bool false, .slice none 0 0, .slice none 0 0] 38)) := ⟨_, rfl⟩
 obtain ⟨bx, byy, bz, hbw⟩ := zcd w 38 _ _ _ _ _ _ _ _ _ W hW
 rw [← hW]
 clear hW
 have hd2 := zga (B := W.heap.size) W
 have hD := hbw.trans (hd2.mono hbw.size)
 have hbx3 := bx.belowS hd2
 have hby3 := byy.belowS hd2
 have hbz3 := bz.belowS hd2
 have HX3 := zH hbx3
 have HY3 := zH hby3
 have HZ3 := zH hbz3
 have gA := hA.below hD
 have gB := hB.below hD
 clear bx byy bz hbw hA hB hd2
 obtain ⟨_, q1, q2, q3, q4, q5, q6⟩ := hbx3
 obtain ⟨_, r1, r2, r3, r4, r5, r6⟩ := hby3
 obtain ⟨_, z1, z2, z3, z4, z5, z6⟩ := hbz3
 go_region_held3 (fun w' => w'.cell? ⟨w.heap.size, 0, none⟩ = some (.bool s) ∧ w'.cell? ⟨w.heap.size, 1, none⟩ = some (.slice an ln kn) ∧ w'.cell? ⟨w.heap.size, 2, none⟩ = some (.slice ad ld kd) ∧ w'.cell? ⟨w.heap.size + 1, 0, none⟩ = some (.bool t) ∧ w'.cell? ⟨w.heap.size + 1, 1, none⟩ = some (.slice am lm km) ∧ w'.cell? ⟨w.heap.size + 1, 2, none⟩ = some (.slice ae le ke)) (first | with_reducible exact ⟨q1, q2, q3, r1, r2, r3⟩ | (refine ⟨?_, ?_, ?_, ?_, ?_, ?_⟩ <;> go_simp)) (first
  |(go_at_call 202; (with_reducible refine (fminus_any _ t m e _ gB).mono ?_); rintro e9 w3 ⟨v3, rfl, hv3, hb3⟩
    have gA3 := gA.below hb3
    have X4 := HX3.out.belowS hb3
    have Y4 := HY3.out.belowS hb3
    have HX4 := zH X4
    have HY4 := zH Y4
    obtain ⟨_, q1, q2, q3, q4, q5, q6⟩ := X4
    obtain ⟨_, r1, r2, r3, r4, r5, r6⟩ := Y4)
  |(go_at_call 80; (with_reducible refine (zrn _ _ s (!t) n d m e _ gA3 hv3 K1.out K2.out).mono ?_); rintro e9 w5 ⟨v, er, rfl, hv1, hv2, hv4⟩
    obtain ⟨t9, x9, y9, rfl, ⟨a1, l91, k1, rfl, _⟩, ⟨a2, l92, k2, rfl, _⟩⟩ := zwb (w0 := w) hv2 hv4
    have hp26 := zaa hb3 hv1
    have X6 := HX4.out.belowS hv1
    have Y6 := HY4.out.belowS hv1
    have Z6 := HZ3.out.belowS hp26
    have HZ6 := zH Z6
    obtain ⟨_, q1, q2, q3, q4, q5, q6⟩ := X6
    obtain ⟨_, r1, r2, r3, r4, r5, r6⟩ := Y6
    obtain ⟨_, z1, z2, z3, z4, z5, z6⟩ := Z6))
 all_goals
  go_wp2_with fail
  refine zoa rfl rfl Tryz.aggF Tryz.sizeF (HZ6.out.set _ _ _) rfl ?_
  rw [HQ.out]
  exact ⟨_, _, rfl, zha (hD.trans (hp26.mono hD.size)) (by omega) _ _ _, fun h => ⟨(hv2 h).1, (hv2 h).2.set3 HZ6.out (fun z => by simp) (fun z => by simp) _ _ _⟩, hv4⟩
theorem sub_can (va vb : Value) (p q : Rat) (w : World) (ha : zya w va p) (hb : zya w vb q) (hp : fits p) (hq : fits q) (hr : fits (p - q)) : Calls Tryz.prog 163 #[va, vb] w (RF0 w (p - q)) := by
 have := sub_frac va vb _ _ _ _ _ _ w ha.raw hb.raw (zzc hp) (zzc hq)
 rw [zdc, zdc] at this
 exact this.mono fun _ _ h => h.ok rfl hr
theorem zrk (va vb : Value) (p q : Rat) (w : World) (ha : zya w va p) (hb : zya w vb q) (hp : fits p) (hq : fits q) (hr : fits (p * q)) : Calls Tryz.prog 131 #[va, vb] w (RF0 w (p * q)) := by
 have := mul_frac va vb _ _ _ _ _ _ w ha.raw hb.raw (zzc hp) (zzc hq)
 rw [zdc, zdc] at this
 exact this.mono fun _ _ h => h.ok rfl hr
theorem add_can (va vb : Value) (p q : Rat) (w : World) (ha : zya w va p) (hb : zya w vb q) (hp : fits p) (hq : fits q) (hr : fits (p + q)) : Calls Tryz.prog 80 #[va, vb] w (RF0 w (p + q)) := by
 have := zrn va vb _ _ _ _ _ _ w ha.raw hb.raw (zzc hp) (zzc hq)
 rw [zdc, zdc] at this
 exact this.mono fun _ _ h => h.ok rfl hr
theorem quo_can (va vb : Value) (p q : Rat) (w : World) (ha : zya w va p) (hb : zya w vb q) (hp : fits p) (hq : fits q) (hq0 : q ≠ 0) (hr : fits (p / q)) : Calls Tryz.prog 161 #[va, vb] w (RF0 w (p / q)) := by
 have := quo_frac va vb _ _ _ _ _ _ w ha.raw hb.raw (zzc hp) (zzc hq) (fun h => hq0 (Rat.num_eq_zero.1 (by omega)))
 rw [zdc, zdc] at this
 exact this.mono fun _ _ h => h.ok rfl hr
end Go.Proofs.YtlpdkbmmbdfoiaaGreat
