/-
  package linear: begin with a second matrix.
-/
import Derived.Test.YtlpdkbmmbdfoiaaGreatFSm3
import Derived.Test.YtlpdkbmmbdfoiaaGreatFDt1
set_option linter.unusedVariables false
set_option linter.unusedSimpArgs false
namespace Go.Proofs.YtlpdkbmmbdfoiaaGreat
section
variable {n m k D B β F K : Nat} {M X : Mx}
theorem zbm.sizesR {D' β' W' : Nat} (hD : D ≠ 0) (hDB : D ≤ B) (hF : F ≠ 0) (hk : k ≤ n) (hnm : n ≤ m) (hβ : dtB k B ≤ β) (hM : overT n n D B M) (hR : ∀ i j, i < n → n ≤ j → j < m → over (D * F) (B * K) (M i j)) (h : zbm n m k D' β' W' M X)
 (h3 : ∀ i, i < k → ∃ G, G ≠ 0 ∧ G ≤ D * β * D ∧ over G (bW n D B β) (X i i))
 (h0 : ∀ i j, i < n → j < k → i ≠ j → X i j = 0) (hp : ∀ j, j < k → X j j ≠ 0) :
 (∀ i j, k ≤ i → i < n → n ≤ j → j < m → ∃ G, G ≠ 0 ∧ G ≤ D * β * D * F ∧ over G (bW n D B β * K) (X i j)) ∧ ∀ i j, i < k → n ≤ j → j < m → ∃ G, G ≠ 0 ∧ G ≤ bD D β * F ∧ over G (n * (bW n D B β * β * B) * K) (X i j) := by
 obtain ⟨⟨σ, hσ, h1, h2⟩, _⟩ := h
 obtain ⟨P, hP⟩ : ∃ P : Mx, P = fun i l => M (σ i) l := ⟨_, rfl⟩
 have hPM : ∀ i l, P i l = M (σ i) l := fun i l => by rw [hP]
 obtain ⟨C, hC⟩ := Classical.axiomOfChoice (r := fun (i : Nat) (c : Nat → Rat) => i < k → ∀ j, j < m → X i j = sg k fun l => c l * M (σ l) j) (fun i => by
  by_cases hi : i < k
  ·obtain ⟨c, hc⟩ := h2 i hi; exact ⟨c, fun _ => hc⟩
  ·exact ⟨fun _ => 0, fun h => absurd h hi⟩)
 have hdP : dt k P ≠ 0 := by
  have e1 : dt k (ztd k C P) = dt k X := zcd fun a b ha hb => by
   rw [hC a ha b (by omega)]
   unfold ztd
   exact zma fun l _ => by rw [hPM]
  rw [dt_mul] at e1
  intro hz
  rw [hz, Rat.mul_zero] at e1
  rw [zql (fun i j hi hj hij => h0 i j (by omega) hj hij)] at e1
  exact pr_ne hp e1.symm
 obtain ⟨E, hE, hEb, hI⟩ := inv_gen hD hDB (fun i j hi hj => by rw [hPM]; exact hM _ _ (hσ i (by omega)) (by omega)) hdP
 have hEβ : E ≤ β := Nat.le_trans hEb hβ
 have hI' : ∀ i j, i < k → j < k → over E β (zoj k P i j) := fun i j hi hj => (hI i j hi hj).mono hβ
 have hDED : D * E * D * F ≠ 0 := Nat.mul_ne_zero (Nat.mul_ne_zero (Nat.mul_ne_zero hD hE) hD) hF
 have q1 : D * E * (D * F) = D * E * D * F := (Nat.mul_assoc _ _ _).symm
 have q2 : D * F * (E * D) = D * E * D * F := by ac_rfl
 refine ⟨fun i j hki hi hjn hj => ?_, fun i j hi hjn hj => ?_⟩
 ·obtain ⟨c, hc⟩ := h1 i hki hi
  have hy : ∀ j, j < k → M (σ i) j = sg k fun l => c l * P l j := fun j hj => by
   have := hc j (by omega)
   rw [h0 i j hi hj (by omega)] at this
   have e : (sg k fun l => c l * P l j) = sg k fun l => c l * M (σ l) j := zma fun l _ => by rw [hPM]
   rw [e]; grind
  have hcl : ∀ l, l < k → over (D * E) (k * (B * β)) (c l) := fun l hl => by
   rw [zbk hdP hy hl]
   exact over.sg (Nat.mul_ne_zero hD hE) fun j hj => over.mul (hM _ _ (hσ i hi) (by omega)) (hI' j l hj hl)
  refine ⟨D * E * D * F, hDED, Nat.mul_le_mul_right _ (Nat.mul_le_mul_right _ (Nat.mul_le_mul_left _ hEβ)), ?_⟩
  rw [hc j hj]
  have hs : over (D * E * D * F) (k * (k * (B * β) * (B * K))) (sg k fun l => c l * M (σ l) j) := over.sg hDED fun l hl => by
   have := over.mul (hcl l hl) (hR _ _ (hσ l (by omega)) hjn hj)
   rwa [q1] at this
  have hm : over (D * E * D * F) (B * K * (E * D)) (M (σ i) j) := by
   have := over.scale (m := E * D) (Nat.mul_ne_zero hE hD) (hR _ _ (hσ i hi) hjn hj)
   rwa [q2] at this
  refine (over.sub hDED hm hs).mono ?_
  unfold bW
  rw [Nat.add_mul]
  have e1 : B * K * (E * D) = B * (E * D) * K := by ac_rfl
  have e2 : k * (k * (B * β) * (B * K)) = k * (k * (B * β) * B) * K := by ac_rfl
  rw [e1, e2]
  exact Nat.add_le_add (Nat.mul_le_mul_right _ (Nat.mul_le_mul_left _ (Nat.mul_le_mul_right _ hEβ))) (Nat.mul_le_mul_right _ (Nat.mul_le_mul hk (Nat.mul_le_mul_right _ (Nat.mul_le_mul_right _ hk))))
 ·obtain ⟨G, hG, hGb, hd⟩ := h3 i hi
  have hy : ∀ j, j < k → X i j = sg k fun l => C i l * P l j := fun j hj => by
   rw [hC i hi j (by omega)]
   exact zma fun l _ => by rw [hPM]
  have hcl : ∀ l, l < k → over (G * E) (bW n D B β * β) (C i l) := fun l hl => by
   rw [zbk hdP hy hl]
   have e : (sg k fun j => X i j * zoj k P j l) = sg k fun j => if i = j then X i i * zoj k P i l else 0 := zma fun j hj => by
    by_cases h5 : i = j
    ·subst h5; rw [if_pos rfl]
    ·rw [if_neg h5, h0 i j (by omega) hj h5, Rat.zero_mul]
   rw [e, zfd (f := fun _ => X i i * zoj k P i l) hi]
   exact over.mul hd (hI' i l hi hl)
  have hGE : G * E * (D * F) ≠ 0 := Nat.mul_ne_zero (Nat.mul_ne_zero hG hE) (Nat.mul_ne_zero hD hF)
  refine ⟨G * E * (D * F), hGE, ?_, ?_⟩
  ·have e1 : G * E * (D * F) = G * (E * D) * F := by ac_rfl
   rw [e1]
   unfold bD
   exact Nat.mul_le_mul_right _ (Nat.mul_le_mul hGb (Nat.mul_le_mul_right _ hEβ))
  ·rw [hC i hi j hj]
   refine (over.sg hGE fun l hl => over.mul (hcl l hl) (hR _ _ (hσ l (by omega)) hjn hj)).mono ?_
   have e1 : k * (bW n D B β * β * (B * K)) = k * (bW n D B β * β * B) * K := by ac_rfl
   rw [e1]
   exact Nat.mul_le_mul_right _ (Nat.mul_le_mul_right _ hk)
structure slimR (n D B β F K : Nat) : Prop where
 b : dtB n B ≤ β
 d0 : D ≠ 0
 db : D ≤ B
 f0 : 1 ≤ F
 k0 : 1 ≤ K
 den : bD D β * F * (bD D β * bN n D B β * (bD D β * F)) < 2 ^ 4096
 num : bN n D B β * K * (bD D β * bN n D B β * (bD D β * F)) + bN n D B β * bD D β * (bN n D B β * K) * (bD D β * F) < 2 ^ 4096
 pw1 : (D * β * D) ^ n < 2 ^ 4096
 pw2 : (bW n D B β) ^ n < 2 ^ 4096
theorem slimE_right (hx : slimR n D B β F K) (hn : 0 < n) (hnm : n ≤ m) (hM : overT n n D B M) (hR : ∀ i j, i < n → n ≤ j → j < m → over (D * F) (B * K) (M i j)) (h : (elim false n M n).r = n) : slimE false n m n M := by
 have hD := hx.d0
 have hDB := hx.db
 have hF : F ≠ 0 := by have := hx.f0; omega
 have hB : 0 < B := by omega
 have hβ0 : 0 < β := Nat.lt_of_lt_of_le (dtB_pos hB n) hx.b
 have hD1 : 0 < D := by omega
 have hBD : D * β * D ≤ bD D β := Nat.le_mul_of_pos_right _ (Nat.mul_pos hβ0 hD1)
 have hBD1 : 0 < bD D β := Nat.lt_of_lt_of_le (Nat.mul_pos (Nat.mul_pos hD1 hβ0) hD1) hBD
 have hW1 : 0 < bW n D B β := by unfold bW; exact Nat.lt_of_lt_of_le (Nat.mul_pos hB (Nat.mul_pos hβ0 hD1)) (Nat.le_add_right _ _)
 have hWN : bW n D B β ≤ bN n D B β := Nat.le_add_right _ _
 have hN1 : 0 < bN n D B β := Nat.lt_of_lt_of_le hW1 hWN
 have hden := hx.den
 have hnum := hx.num
 have hDF : bD D β ≤ bD D β * F := Nat.le_mul_of_pos_right _ hx.f0
 have hNK : bN n D B β ≤ bN n D B β * K := Nat.le_mul_of_pos_right _ hx.k0
 have hMA : overT n m (D * F) (B * F * K) M := fun i j hi hj => by
  rcases Nat.lt_or_ge j n with h1 | h1
  ·have h2 := over.scale (m := F) hF (hM i j hi h1)
   exact h2.mono (Nat.le_mul_of_pos_right _ hx.k0)
  ·exact (hR i j hi h1 hj).mono (Nat.mul_le_mul_right _ (Nat.le_mul_of_pos_right _ hx.f0))
 have hall := zpl (β := dtB n (B * F * K)) (Nat.mul_ne_zero hD hF) (Nat.le_trans (Nat.mul_le_mul_right _ hDB) (Nat.le_mul_of_pos_right _ hx.k0)) hnm (Nat.le_refl _) hMA h
 have hpiv := zpl hD hDB (Nat.le_refl n) hx.b hM h
 have elA : ∀ k, k ≤ n → (∀ i j, i < n → j < n → ∃ G, G ≠ 0 ∧ G ≤ bD D β ∧ over G (bN n D B β) ((elim false n M k).A i j)) := fun k hk i j hi hj => by
  have hc := hpiv k hk
  obtain ⟨u1, u2, _⟩ := zad h k hk
  obtain ⟨s1, s2⟩ := hc.sizes hD hDB hk (Nat.le_refl n) (Nat.le_trans (zun hB hk) hx.b) hM u1 u2
  rcases Nat.lt_or_ge i k with h1 | h1
  ·obtain ⟨G, g1, g2, g3⟩ := s2 i j h1 hj
   exact ⟨G, g1, g2, g3.mono (Nat.le_add_left _ _)⟩
  ·obtain ⟨G, g1, g2, g3⟩ := s1 i j h1 hi hj
   exact ⟨G, g1, Nat.le_trans g2 hBD, g3.mono hWN⟩
 have el : ∀ k, k ≤ n → (∀ i j, i < n → j < m → ∃ G, G ≠ 0 ∧ G ≤ bD D β * F ∧ over G (bN n D B β * K) ((elim false n M k).A i j)) := fun k hk i j hi hj => by
  rcases Nat.lt_or_ge j n with h1 | h1
  ·obtain ⟨G, g1, g2, g3⟩ := elA k hk i j hi h1
   exact ⟨G, g1, Nat.le_trans g2 hDF, g3.mono hNK⟩
  ·obtain ⟨u1, u2, _⟩ := zad h k hk
   obtain ⟨s1, s2⟩ := (hall k hk).sizesR hD hDB hF hk hnm (Nat.le_trans (zun hB hk) hx.b) hM hR (hpiv k hk).2 u1 u2
   rcases Nat.lt_or_ge i k with h2 | h2
   ·obtain ⟨G, g1, g2, g3⟩ := s2 i j h2 h1 hj
    exact ⟨G, g1, g2, g3.mono (Nat.mul_le_mul_right _ (Nat.le_add_left _ _))⟩
   ·obtain ⟨G, g1, g2, g3⟩ := s1 i j h2 hi h1 hj
    exact ⟨G, g1, Nat.le_trans g2 (Nat.mul_le_mul_right _ hBD), g3.mono (Nat.mul_le_mul_right _ hWN)⟩
 obtain ⟨D2, hD2⟩ : ∃ x, bD D β * F = x := ⟨_, rfl⟩
 obtain ⟨N2, hN2⟩ : ∃ x, bN n D B β * K = x := ⟨_, rfl⟩
 rw [hD2] at hden hnum hDF el
 rw [hN2] at hnum hNK el
 have hD2p : 0 < D2 := by omega
 have hN2p : 0 < N2 := by omega
 have hP1 : D2 ≤ bD D β * bN n D B β * D2 := Nat.le_mul_of_pos_left _ (Nat.mul_pos hBD1 hN1)
 have hP2 : D2 ≤ D2 * (bD D β * bN n D B β * D2) := Nat.le_mul_of_pos_right _ (by omega)
 have hP3 : N2 ≤ N2 * (bD D β * bN n D B β * D2) := Nat.le_mul_of_pos_right _ (by omega)
 have dd : ∀ k, k ≤ n → ∃ G, G ≠ 0 ∧ G < 2 ^ 4096 ∧ ∃ K, K < 2 ^ 4096 ∧ over G K (elim false n M k).d := fun k hk => by
  have hc := hpiv k hk
  obtain ⟨u1, u2, u3⟩ := zad h k hk
  obtain ⟨G, g1, g2, g3⟩ := over_pr k hc.2
  have q1 : (D * β * D) ^ k ≤ (D * β * D) ^ n := Nat.pow_le_pow_right (Nat.mul_pos (Nat.mul_pos hD1 hβ0) hD1) hk
  have q2 : (bW n D B β) ^ k ≤ (bW n D B β) ^ n := Nat.pow_le_pow_right hW1 hk
  refine ⟨G, g1, Nat.lt_of_le_of_lt (Nat.le_trans g2 q1) hx.pw1, _, Nat.lt_of_le_of_lt q2 hx.pw2, ?_⟩
  rw [u3]
  rcases sgs_pm n M k with e | e
  ·rw [e, Rat.one_mul]; exact g3
  ·rw [e, show (-1 : Rat) * pr k (fun i => (elim false n M k).A i i) = -pr k (fun i => (elim false n M k).A i i) by grind]; exact over.neg g3
 intro k hk
 refine ⟨fun a b ha hb => ?_, ?_, fun hkn => ?_⟩
 ·obtain ⟨G, g1, g2, g3⟩ := el k hk a b ha hb
  exact g3.fits g1 (by omega) (by omega)
 ·obtain ⟨G, g1, g2, K, g3, g4⟩ := dd k hk
  exact g4.fits g1 g3 g2
 ·intro hlt
  have hrk := zol h (k := k) hk
  have hge := zvk n k (elim false n M k)
  have hpn := pvt_ne (zue false n M k).1 hlt
  refine ⟨?_, ?_, fun i hi hact => ?_⟩
  ·obtain ⟨G, g1, g2, K, g3, g4⟩ := dd k hk
   exact (over.neg g4).fits g1 g3 g2
  ·obtain ⟨G, g1, g2, K, g3, g4⟩ := dd (k + 1) hkn
   rw [elim, zzf, if_pos hlt] at g4
   exact g4.fits g1 g3 g2
  ·rw [hrk] at hge hact ⊢
   have hzA : ∀ a b, a < n → b < n → ∃ G, G ≠ 0 ∧ G ≤ bD D β ∧ over G (bN n D B β) (swp (elim false n M k).A k (pvt n k (elim false n M k)) a b) := fun a b ha hb => by
    unfold swp; split
    ·exact elA k hk _ b hlt hb
    ·split
     ·exact elA k hk _ b hkn hb
     ·exact elA k hk _ b ha hb
   have hz : ∀ a b, a < n → b < m → ∃ G, G ≠ 0 ∧ G ≤ D2 ∧ over G N2 (swp (elim false n M k).A k (pvt n k (elim false n M k)) a b) := fun a b ha hb => by
    unfold swp; split
    ·exact el k hk _ b hlt hb
    ·split
     ·exact el k hk _ b hkn hb
     ·exact el k hk _ b ha hb
   have hkk : swp (elim false n M k).A k (pvt n k (elim false n M k)) k k ≠ 0 := by rw [zek]; exact hpn
   generalize swp (elim false n M k).A k (pvt n k (elim false n M k)) = Z at *
   obtain ⟨G1, a1, a2, a3⟩ := hzA i k hi hkn
   obtain ⟨G2, b1, b2, b3⟩ := hzA k k hkn hkn
   obtain ⟨H, c1, c2, c3⟩ := over.div2 a1 b1 a3 b3 hkk
   have hH : H ≤ bD D β * bN n D B β := Nat.le_trans c2 (Nat.mul_le_mul_right _ a2)
   have hHn : bN n D B β * G2 ≤ bN n D B β * bD D β := Nat.mul_le_mul_left _ b2
   have r1 : bD D β * bN n D B β ≤ bD D β * bN n D B β * D2 := Nat.le_mul_of_pos_right _ hD2p
   have r2 : bD D β * bN n D B β * D2 ≤ D2 * (bD D β * bN n D B β * D2) := Nat.le_mul_of_pos_left _ hD2p
   have r3 : bN n D B β * bD D β ≤ bN n D B β * bD D β * N2 := Nat.le_mul_of_pos_right _ hN2p
   have r4 : bN n D B β * bD D β * N2 ≤ bN n D B β * bD D β * N2 * D2 := Nat.le_mul_of_pos_right _ hD2p
   refine ⟨c3.fits c1 (by omega) (by omega), fun j hj hkj => ?_⟩
   obtain ⟨G3, d1, d2, d3⟩ := hz k j hkn hj
   obtain ⟨G4, e1, e2, e3⟩ := hz i j hi hj
   have m1 := over.mul c3 d3
   have hm1 : H * G3 ≠ 0 := Nat.mul_ne_zero c1 d1
   have hm2 : H * G3 ≤ bD D β * bN n D B β * D2 := Nat.mul_le_mul hH d2
   have hm3 : bN n D B β * G2 * N2 ≤ bN n D B β * bD D β * N2 := Nat.mul_le_mul_right _ hHn
   refine ⟨m1.fits hm1 (by omega) (by omega), ?_⟩
   have m2 := over.sub2 e1 hm1 e3 m1
   have hm4 : G4 * (H * G3) ≤ D2 * (bD D β * bN n D B β * D2) := Nat.mul_le_mul e2 hm2
   have hm5 : N2 * (H * G3) ≤ N2 * (bD D β * bN n D B β * D2) := Nat.mul_le_mul_left _ hm2
   have hm6 : bN n D B β * G2 * N2 * G4 ≤ bN n D B β * bD D β * N2 * D2 := Nat.mul_le_mul hm3 e2
   exact m2.fits (Nat.mul_ne_zero e1 hm1) (by omega) (by omega)
end
def fac (n m s : Nat) (A : Mx) : Prop := ∃ C R : Mx, ∀ i j, i < n → j < m → A i j = ztd s C R i j
def unitIn (n m r : Nat) (A : Mx) : Prop := ∃ X Y : Mx, ∀ a b, a < r → b < r → ztd n X (ztd m A Y) a b = zkf a b
theorem mul_congr {m : Nat} {A B C D : Mx} {i k i' k' : Nat} (h1 : ∀ j, j < m → A i j = C i' j) (h2 : ∀ j, j < m → B j k = D j k') : ztd m A B i k = ztd m C D i' k' :=
 zma fun j hj => by rw [h1 j hj, h2 j hj]
theorem sg_cut {s r : Nat} {f : Nat → Rat} (h : s ≤ r) (h0 : ∀ l, s ≤ l → l < r → f l = 0) : sg r f = sg s f := by
 obtain ⟨c, rfl⟩ : ∃ c, r = s + c := ⟨r - s, by omega⟩
 rw [zbn, zma (n := c) (g := fun _ => 0) (fun j hj => h0 _ (by omega) (by omega)), zsi]
 grind
theorem dt_one (r : Nat) : dt r zkf ≠ 0 := by
 rw [zql (fun i j _ _ hij => by unfold zkf; rw [if_neg hij])]
 exact pr_ne fun i _ => by unfold zkf; rw [if_pos rfl]; decide +kernel
theorem unit_le {n m s r : Nat} {A : Mx} (hf : fac n m s A) (hu : unitIn n m r A) : r ≤ s := by
 obtain ⟨C, R, hC⟩ := hf
 obtain ⟨X, Y, hX⟩ := hu
 rcases Nat.lt_or_ge s r with h | h
 ·exfalso
  have e : dt r (ztd r (fun a l => if l < s then ztd n X C a l else 0) (fun l b => if l < s then ztd m R Y l b else 0)) = dt r zkf := zcd fun a b ha hb => by
   rw [← hX a b ha hb]
   have e1 : ztd n X (ztd m A Y) a b = ztd s (ztd n X C) (ztd m R Y) a b := by
    rw [mul_assoc]
    refine mul_congr (fun _ _ => rfl) fun i hi => ?_
    rw [← mul_assoc]
    exact mul_congr (fun j hj => hC i j hi hj) fun _ _ => rfl
   rw [e1]
   unfold ztd
   rw [sg_cut (Nat.le_of_lt h) (fun l h1 h2 => by dsimp only; rw [if_neg (by omega), Rat.zero_mul])]
   exact zma fun l hl => by dsimp only; rw [if_pos hl, if_pos hl]
  rw [dt_mul, zme (A := fun l b => if l < s then ztd m R Y l b else 0) (r := r - 1) (by omega) (fun j hj => if_neg (by omega)), Rat.mul_zero] at e
  exact dt_one r e.symm
 ·exact h
def trM (A : Mx) : Mx := fun i j => A j i
theorem fac_tr {n m s : Nat} {A : Mx} (h : fac n m s A) : fac m n s (trM A) := by
 obtain ⟨C, R, e⟩ := h
 refine ⟨trM R, trM C, fun i j hi hj => ?_⟩
 show A j i = _
 rw [e j i hj hi]
 exact zma fun l _ => Rat.mul_comm _ _
theorem unit_tr {n m r : Nat} {A : Mx} (h : unitIn n m r A) : unitIn m n r (trM A) := by
 obtain ⟨X, Y, e⟩ := h
 refine ⟨trM Y, trM X, fun a b ha hb => ?_⟩
 have e1 : zkf a b = zkf b a := by
  unfold zkf
  by_cases h : a = b
  ·rw [if_pos h, if_pos h.symm]
  ·rw [if_neg h, if_neg (fun e => h e.symm)]
 rw [e1, ← e b a hb ha, ← mul_assoc]
 unfold ztd trM
 refine zma fun j _ => ?_
 rw [Rat.mul_comm]
 refine congrArg (X b j * ·) (zma fun i _ => Rat.mul_comm _ _)
theorem facC (n m t : Nat) (A : Mx) : RowC n fun X _ => fac n m t X → fac n m t A where
 congr := fun X Y s h hX hY => hX (by
  obtain ⟨C, R, e⟩ := hY
  exact ⟨C, R, fun i j hi hj => by rw [h i hi]; exact e i j hi hj⟩)
 swap := fun X s a b ha hb hab hX hY => hX (by
  obtain ⟨C, R, e⟩ := hY
  refine ⟨swp C a b, R, fun i j hi hj => ?_⟩
  have key : ∀ i', i' < n → swp X a b i' = X i → swp C a b i = C i' → X i j = ztd t (swp C a b) R i j := fun i' hi' h1 h2 => by
   rw [← h1, e i' j hi' hj]
   exact (congrFun (zrf h2) j).symm
  by_cases h1 : i = a
  ·subst h1
   exact key b hb (by unfold swp; rw [if_neg (fun e => hab e.symm), if_pos rfl]) (by unfold swp; rw [if_pos rfl])
  ·by_cases h2 : i = b
   ·subst h2
    exact key a ha (by unfold swp; rw [if_pos rfl]) (by unfold swp; rw [if_neg h1, if_pos rfl])
   ·exact key i hi (by unfold swp; rw [if_neg h1, if_neg h2]) (by unfold swp; rw [if_neg h1, if_neg h2]))
 add := fun X s i r c hi hr hir hX hY => hX (by
  obtain ⟨C, R, e⟩ := hY
  refine ⟨zoc C i fun l => C i l - c * C r l, R, fun k j hk hj => ?_⟩
  have er := e r j hr hj
  rw [zvc (fun e => hir e.symm)] at er
  by_cases h1 : k = i
  ·subst h1
   have ek := e k j hk hj
   rw [zed] at ek
   have e2 : ztd t (zoc C k fun l => C k l - c * C r l) R k j = ztd t C R k j + (-c) * ztd t C R r j := by
    unfold ztd
    rw [zed, ← zcb, ← zvd]
    exact zma fun l _ => by grind
   rw [e2, ← ek, ← er]
   grind
  ·have ek := e k j hk hj
   rw [zvc h1] at ek
   rw [ek]
   exact (congrFun (zrf (zvc h1)) j).symm)
theorem combC (n m : Nat) (A : Mx) : RowC n fun X _ => ∃ E : Mx, ∀ i j, i < n → j < m → X i j = ztd n E A i j where
 congr := fun X Y s h hX => by
  obtain ⟨E, e⟩ := hX
  exact ⟨E, fun i j hi hj => by rw [← h i hi]; exact e i j hi hj⟩
 swap := fun X s a b ha hb hab hX => by
  obtain ⟨E, e⟩ := hX
  refine ⟨swp E a b, fun i j hi hj => ?_⟩
  have key : ∀ i', i' < n → swp X a b i = X i' → swp E a b i = E i' → swp X a b i j = ztd n (swp E a b) A i j := fun i' hi' h1 h2 => by
   rw [h1, e i' j hi' hj]
   exact (congrFun (zrf h2) j).symm
  by_cases h1 : i = a
  ·subst h1
   exact key b hb (by unfold swp; rw [if_pos rfl]) (by unfold swp; rw [if_pos rfl])
  ·by_cases h2 : i = b
   ·subst h2
    exact key a ha (by unfold swp; rw [if_neg h1, if_pos rfl]) (by unfold swp; rw [if_neg h1, if_pos rfl])
   ·exact key i hi (by unfold swp; rw [if_neg h1, if_neg h2]) (by unfold swp; rw [if_neg h1, if_neg h2])
 add := fun X s i r c hi hr hir hX => by
  obtain ⟨E, e⟩ := hX
  refine ⟨zoc E i fun l => E i l + c * E r l, fun k j hk hj => ?_⟩
  by_cases h1 : k = i
  ·subst h1
   rw [zed, e k j hk hj, e r j hr hj]
   unfold ztd
   rw [zed, ← zcb, ← zvd]
   exact zma fun l _ => by grind
  ·rw [zvc h1, e k j hk hj]
   exact (congrFun (zrf (zvc h1)) j).symm
theorem elim_pivs (n : Nat) (A : Mx) : ∀ k, ∃ p : Nat → Nat, ∀ l, l < (elim false n A k).r → p l < k ∧ (elim false n A k).A l (p l) ≠ 0 ∧ ∀ i, i < n → i ≠ l → (elim false n A k).A i (p l) = 0
 | 0 => ⟨fun _ => 0, fun l hl => absurd hl (by simp [elim])⟩
 | k + 1 => by
   obtain ⟨p, hp⟩ := elim_pivs n A k
   have hrn := (zue false n A k).1
   have hge := zvk n k (elim false n A k)
   rw [elim, zzf]
   by_cases hlt : pvt n k (elim false n A k) < n
   ·have hpn := pvt_ne hrn hlt
    rw [if_pos hlt]
    dsimp only
    generalize pvt n k (elim false n A k) = a at *
    generalize (elim false n A k).r = r at *
    generalize (elim false n A k).A = S at *
    refine ⟨fun l => if l < r then p l else k, fun l hl => ?_⟩
    by_cases hlr : l < r
    ·obtain ⟨h1, h2, h3⟩ := hp l hlr
     simp only [if_pos hlr]
     have hun : ∀ i, znj false (swp S r a) r k i (p l) = swp S r a i (p l) := fun i => by
      unfold znj; rw [if_neg (fun h => by omega)]
     refine ⟨by omega, ?_, fun i hi hil => ?_⟩
     ·rw [hun]; unfold swp; rw [if_neg (by omega), if_neg (by omega)]; exact h2
     ·rw [hun]; unfold swp; split
      ·exact h3 a hlt (by omega)
      ·split
       ·exact h3 r (by omega) (by omega)
       ·exact h3 i hi hil
    ·obtain rfl : l = r := by omega
     simp only [if_neg hlr]
     have hkk : swp S l a l k ≠ 0 := by rw [zek]; exact hpn
     refine ⟨by omega, ?_, fun i hi hil => ?_⟩
     ·rw [zpg (fun h => h.1 rfl)]; exact hkk
     ·unfold znj
      by_cases hz : swp S l a i k = 0
      ·rw [if_neg (fun h => h.1.2.2 hz)]; exact hz
      ·rw [if_pos ⟨⟨hil, (fun z => by cases z.1), hz⟩, Nat.le_refl _⟩, Rat.div_mul_cancel hkk]; grind
   ·rw [if_neg hlt]
    exact ⟨p, fun l hl => by obtain ⟨h1, h2, h3⟩ := hp l hl; exact ⟨by omega, h2, h3⟩⟩
theorem zvi (n m : Nat) (A : Mx) : (elim true n A m).r = (elim false n A m).r := (ztm (A := A) (M := A) (n := n) (m := m) true false (fun _ _ _ _ => rfl) m (Nat.le_refl _)).1
theorem rank_fac (n m : Nat) (A : Mx) : fac n m (elim false n A m).r A := by
 refine zbd (facC n m (elim false n A m).r A) false (A := A) (fun h => h) m ⟨zkf, (elim false n A m).A, fun i j hi hj => ?_⟩
 unfold ztd zkf
 by_cases h : i < (elim false n A m).r
 ·have e : sg (elim false n A m).r (fun l => (if i = l then (1 : Rat) else 0) * (elim false n A m).A l j) = sg (elim false n A m).r (fun l => if i = l then (elim false n A m).A l j else 0) := zma fun l _ => by
   by_cases h1 : i = l
   ·rw [if_pos h1, if_pos h1, Rat.one_mul]
   ·rw [if_neg h1, if_neg h1, Rat.zero_mul]
  rw [e, zfd h]
 ·rw [zyd false n A m i j (by omega) hi hj]
  exact (zsi _).symm.trans (zma fun l hl => by rw [if_neg (by omega), Rat.zero_mul])
theorem rank_unit (n m : Nat) (A : Mx) : unitIn n m (elim false n A m).r A := by
 obtain ⟨E, hE⟩ := zbd (combC n m A) false (A := A) ⟨zkf, fun i j hi hj => by
  unfold ztd zkf
  have e : sg n (fun l => (if i = l then (1 : Rat) else 0) * A l j) = sg n (fun l => if i = l then A l j else 0) := zma fun l _ => by
   by_cases h1 : i = l
   ·rw [if_pos h1, if_pos h1, Rat.one_mul]
   ·rw [if_neg h1, if_neg h1, Rat.zero_mul]
  rw [e, zfd hi]⟩ m
 obtain ⟨p, hp⟩ := elim_pivs n A m
 have hrn := (zue false n A m).1
 generalize (elim false n A m).r = r at *
 generalize (elim false n A m).A = T at *
 refine ⟨E, fun j b => if p b = j then 1 / T b (p b) else 0, fun a b ha hb => ?_⟩
 rw [← mul_assoc]
 obtain ⟨h1, h2, h3⟩ := hp b hb
 have e1 : ztd m (ztd n E A) (fun j b => if p b = j then 1 / T b (p b) else 0) a b = sg m (fun j => if p b = j then T a j * (1 / T b (p b)) else 0) := zma fun j hj => by
  rw [← hE a j (by omega) hj]
  dsimp only
  by_cases h4 : p b = j
  ·rw [if_pos h4, if_pos h4]
  ·rw [if_neg h4, if_neg h4, Rat.mul_zero]
 rw [e1, zfd h1 (fun j => T a j * (1 / T b (p b)))]
 unfold zkf
 by_cases h5 : a = b
 ·subst h5
  rw [if_pos rfl, Rat.mul_comm, Rat.div_mul_cancel h2]
 ·rw [if_neg h5, h3 a (by omega) h5, Rat.zero_mul]
theorem rank_uniq {n m s : Nat} {A : Mx} (hf : fac n m s A) (hu : unitIn n m s A) : (elim true n A m).r = s := by
 rw [zvi]
 have h1 := unit_le (rank_fac n m A) hu
 have h2 := unit_le hf (rank_unit n m A)
 omega
theorem rank_tr (n m : Nat) (A : Mx) : (elim true m (trM A) n).r = (elim true n A m).r := by
 rw [zvi n m]
 exact rank_uniq (fac_tr (rank_fac n m A)) (unit_tr (rank_unit n m A))
theorem rank_det (n : Nat) (A : Mx) : (elim true n A n).r = n ↔ dt n A ≠ 0 := by
 rw [zvi]
 have h := elim_dt (M := A) (n := n)
 have hr := (zue false n A n).1
 constructor
 ·exact fun e => (h.1 e).2
 ·intro e
  rcases Nat.lt_or_ge (elim false n A n).r n with h1 | h1
  ·exact absurd (h.2 h1) e
  ·omega
theorem rightC (n : Nat) (C : Rat) : RowC n fun B s => C = s * dt n (fun i j => B i (n + j)) where
 congr := fun X Y s h hX => by rw [hX, zcd (fun a b ha _ => by rw [h a ha])]
 swap := fun X s a b ha hb hab hX => by
  have e : (fun i j => swp X a b i (n + j)) = swp (fun i j => X i (n + j)) a b := by
   funext i j; unfold swp; split
   ·rfl
   ·split <;> rfl
  rw [hX, e, dt_swp ha hb hab]; grind
 add := fun X s i r c hi hr hir hX => by
  have e : (fun a j => zoc X i (fun b => X i b + c * X r b) a (n + j)) = zoc (fun i j => X i (n + j)) i (fun b => X i (n + b) + c * X r (n + b)) := by
   funext a j; unfold zoc; split <;> rfl
  rw [hX, e]
  rw [dt_add (A := fun i j => X i (n + j)) hi hr hir c]
theorem ker_of_dt {n : Nat} {A : Mx} (h : dt n A = 0) : ∃ c : Nat → Rat, (∃ l, l < n ∧ c l ≠ 0) ∧ ∀ i, i < n → sg n (fun l => A i l * c l) = 0 := by
 have hT : dt n (trM A) = 0 := by
  by_cases h1 : dt n (trM A) = 0
  ·exact h1
  ·have h2 := (rank_det n (trM A)).2 h1
   rw [rank_tr] at h2
   exact absurd h ((rank_det n A).1 h2)
 have hr := rank_less (B := zkf) hT
 have hl := zyd false n (zpa n (trM A) zkf) n
 have hk := zbd (invC n (trM A)) false (A := zpa n (trM A) zkf) (fun i j hi hj => by
  rw [zae hj]
  have e : sg n (fun l => zpa n (trM A) zkf i (n + l) * trM A l j) = sg n (fun l => if i = l then trM A l j else 0) := zma fun l hl => by
   rw [zfe]; unfold zkf
   by_cases h5 : i = l
   ·rw [if_pos h5, if_pos h5]; grind
   ·rw [if_neg h5, if_neg h5]; grind
  rw [e, zfd hi]) n
 have hd := zbd (rightC n (dt n zkf)) false (A := zpa n (trM A) zkf) (by
  have e : dt n (fun i j => zpa n (trM A) zkf i (n + j)) = dt n zkf := zcd fun a b _ _ => zfe
  rw [e, Rat.one_mul]) n
 generalize (elim false n (zpa n (trM A) zkf) n).A = X at *
 generalize (elim false n (zpa n (trM A) zkf) n).r = r at *
 refine ⟨fun l => X (n - 1) (n + l), ?_, fun i hi => ?_⟩
 ·apply Classical.byContradiction
  intro hno
  have hz : ∀ j, j < n → (fun i j => X i (n + j)) (n - 1) j = 0 := fun j hj => by
   by_cases h5 : X (n - 1) (n + j) = 0
   ·exact h5
   ·exact absurd ⟨j, hj, h5⟩ hno
  rw [zme (A := fun i j => X i (n + j)) (show n - 1 < n by omega) hz, Rat.mul_zero] at hd
  exact dt_one n hd
 ·have h1 := hk (n - 1) i (by omega) hi
  rw [hl (n - 1) i (by omega) (by omega) hi] at h1
  rw [← h1]
  exact zma fun l _ => by unfold trM; exact Rat.mul_comm _ _
theorem sg_le {n : Nat} {f g : Nat → Rat} (h : ∀ i, i < n → f i ≤ g i) : sg n f ≤ sg n g := by
 induction n with
 | zero => exact Rat.le_refl
 | succ n ih => rw [sg, sg]; have := ih fun i hi => h i (by omega); have := h n (by omega); grind
theorem sg_lt {n : Nat} {f g : Nat → Rat} (h : ∀ i, i < n → f i ≤ g i) {k : Nat} (hk : k < n) (hlt : f k < g k) : sg n f < sg n g := by
 induction n with
 | zero => omega
 | succ n ih =>
   rw [sg, sg]
   have h1 := sg_le (n := n) fun i hi => h i (by omega)
   have h2 := h n (by omega)
   by_cases e : k = n
   ·subst e; grind
   ·have := ih (fun i hi => h i (by omega)) (by omega); grind
theorem max_at {x : Nat → Rat} : ∀ {n : Nat}, 0 < n → ∃ i, i < n ∧ ∀ j, j < n → x j ≤ x i
 | 1, _ => ⟨0, by omega, fun j hj => by obtain rfl : j = 0 := by omega
                                        exact Rat.le_refl⟩
 | n + 2, _ => by
   obtain ⟨i, h1, h2⟩ := max_at (x := x) (n := n + 1) (by omega)
   by_cases h : x (n + 1) ≤ x i
   ·refine ⟨i, by omega, fun j hj => ?_⟩
    by_cases e : j = n + 1
    ·subst e; exact h
    ·exact h2 j (by omega)
   ·refine ⟨n + 1, by omega, fun j hj => ?_⟩
    by_cases e : j = n + 1
    ·subst e; exact Rat.le_refl
    ·have := h2 j (by omega); grind
def esc (n : Nat) (r : Mx) (o : Nat → Rat) : Nat → Nat → Prop
 | 0, i => sg n (r i) < o i
 | k + 1, i => esc n r o k i ∨ ∃ j, j < n ∧ 0 < r i j ∧ esc n r o k j
section
variable {n : Nat} {r : Mx} {o : Nat → Rat}
theorem mm_max (hr : ∀ i j, i < n → j < n → 0 ≤ r i j) (ho : ∀ i, i < n → sg n (r i) ≤ o i) (he : ∀ i, i < n → ∃ k, esc n r o k i) {x : Nat → Rat} (hx : ∀ i, i < n → o i * x i ≤ sg n fun j => r i j * x j) : ∀ i, i < n → x i ≤ 0 := by
 intro i0 hi0
 obtain ⟨im, h1, h2⟩ := max_at (x := x) (n := n) (by omega)
 by_cases hm : x im ≤ 0
 ·have := h2 i0 hi0; grind
 ·exfalso
  have hpos : 0 < x im := Rat.not_le.1 hm
  obtain ⟨m, hmx⟩ : ∃ m, x im = m := ⟨_, rfl⟩
  rw [hmx] at h2 hpos
  have key : ∀ i, i < n → x i = m → (sg n fun j => r i j * x j) ≤ sg n (r i) * m ∧ o i * m ≤ sg n fun j => r i j * x j := fun i hi hxi => by
   refine ⟨?_, by have := hx i hi; rwa [hxi] at this⟩
   rw [← znc]
   exact sg_le fun j hj => Rat.mul_le_mul_of_nonneg_left (h2 j hj) (hr i j hi hj)
  have no : ∀ k i, i < n → x i = m → ¬ esc n r o k i := by
   intro k
   induction k with
   | zero =>
     intro i hi hxi h
     obtain ⟨k1, k2⟩ := key i hi hxi
     have h3 : sg n (r i) * m < o i * m := Rat.mul_lt_mul_of_pos_right h hpos
     grind
   | succ k ih =>
     intro i hi hxi h
     rcases h with h | ⟨j, hj, hrj, h⟩
     ·exact ih i hi hxi h
     ·obtain ⟨k1, k2⟩ := key i hi hxi
      refine ih j hj ?_ h
      have h4 := h2 j hj
      by_cases h5 : x j = m
      ·exact h5
      ·exfalso
       have h6 : x j < m := by grind
       have h7 : (sg n fun j => r i j * x j) < sg n (r i) * m := by
        rw [← znc]
        exact sg_lt (fun j hj => Rat.mul_le_mul_of_nonneg_left (h2 j hj) (hr i j hi hj)) hj (Rat.mul_lt_mul_of_pos_left h6 hrj)
       have h8 : sg n (r i) * m ≤ o i * m := Rat.mul_le_mul_of_nonneg_right (ho i hi) (Rat.le_of_lt hpos)
       grind
  obtain ⟨k, hk⟩ := he im h1
  exact no k im h1 hmx hk
def mmA (r : Mx) (o : Nat → Rat) : Mx := fun i j => if i = j then o i else -r i j
theorem mmA_row (hd : ∀ i, i < n → r i i = 0) {i : Nat} (hi : i < n) (x : Nat → Rat) : sg n (fun j => mmA r o i j * x j) = o i * x i - sg n fun j => r i j * x j := by
 have e : sg n (fun j => mmA r o i j * x j) = sg n (fun j => (if i = j then o i * x i else 0) + (-1) * (r i j * x j)) := zma fun j hj => by
  unfold mmA
  by_cases h : i = j
  ·subst h; rw [if_pos rfl, if_pos rfl, hd i hi]; grind
  ·rw [if_neg h, if_neg h]; grind
 rw [e, zvd, zcb, zfd (f := fun _ => o i * x i) hi]
 grind
theorem mm_dt (hd : ∀ i, i < n → r i i = 0) (hr : ∀ i j, i < n → j < n → 0 ≤ r i j) (ho : ∀ i, i < n → sg n (r i) ≤ o i) (he : ∀ i, i < n → ∃ k, esc n r o k i) : dt n (mmA r o) ≠ 0 := by
 intro h
 obtain ⟨c, ⟨l, hl, hc⟩, hz⟩ := ker_of_dt h
 have e : ∀ i, i < n → o i * c i = sg n fun j => r i j * c j := fun i hi => by
  have := hz i hi
  rw [mmA_row hd hi] at this
  grind
 have h1 := mm_max hr ho he (x := c) (fun i hi => by rw [e i hi]; exact Rat.le_refl) l hl
 have h2 := mm_max hr ho he (x := fun j => (-1) * c j) (fun i hi => by
  have e2 : sg n (fun j => r i j * ((-1) * c j)) = (-1) * sg n (fun j => r i j * c j) := by
   rw [← zcb]; exact zma fun j _ => by grind
  rw [e2, ← e i hi]
  have : o i * ((-1) * c i) = (-1) * (o i * c i) := by grind
  rw [this]; exact Rat.le_refl) l hl
 have h3 : c l = 0 := by grind
 exact hc h3
theorem mm_nonneg (hd : ∀ i, i < n → r i i = 0) (hr : ∀ i j, i < n → j < n → 0 ≤ r i j) (ho : ∀ i, i < n → sg n (r i) ≤ o i) (he : ∀ i, i < n → ∃ k, esc n r o k i) {x b : Nat → Rat} (hb : ∀ i, i < n → 0 ≤ b i)
 (hx : ∀ i, i < n → sg n (fun j => mmA r o i j * x j) = b i) : ∀ i, i < n → 0 ≤ x i := by
 intro l hl
 have h2 := mm_max hr ho he (x := fun j => (-1) * x j) (fun i hi => by
  have e2 : sg n (fun j => r i j * ((-1) * x j)) = (-1) * sg n (fun j => r i j * x j) := by
   rw [← zcb]; exact zma fun j _ => by grind
  have h3 := hx i hi
  rw [mmA_row hd hi] at h3
  have h4 := hb i hi
  rw [e2]; grind) l hl
 grind
end
end Go.Proofs.YtlpdkbmmbdfoiaaGreat
namespace Go.Proofs.YtlpdkbmmbdfoiaaGreat
open Go.RowKit
theorem kp1w {w0 X Y : World} {a1 : Addr} {x1 : Value} (h : X.cell? a1 = some x1 ∧ Below w0.heap.size w0 X) (hb : Below X.heap.size X Y) : Y.cell? a1 = some x1 ∧ Below w0.heap.size w0 Y :=
 ⟨zba hb h.1, zaa h.2 hb⟩
theorem kp1a {w0 X : World} {a1 : Addr} {x1 : Value} (h : w0.cell? a1 = some x1) (hb : Below w0.heap.size w0 X) : X.cell? a1 = some x1 ∧ Below w0.heap.size w0 X := ⟨zba hb h, hb⟩
theorem kp1c {w0 X : World} {a1 : Addr} {x1 : Value} (h : X.cell? a1 = some x1 ∧ Below w0.heap.size w0 X) : Below w0.heap.size w0 X := h.2
theorem rowL_app (m m2 : Nat) (A B : Mx) (i : Nat) : zib m (A i) ++ zib m2 (B i) = zib (m + m2) (zpa m A B i) := by
 refine List.ext_getElem (by simp [zib]) fun j h1 h2 => ?_
 rw [ztb]
 have hj : j < m + m2 := by rw [zea] at h2; exact h2
 unfold zpa
 by_cases h : j < m
 ·rw [List.getElem_append_left (by rw [zea]; exact h), ztb, if_pos h]
 ·rw [List.getElem_append_right (by rw [zea]; omega), ztb, if_neg h, zea]
theorem znd.init {w : World} {T m wd : Nat} {x y z : Value} {d : Rat} (A : Mx) (hm : 0 < m) (hb : zjf w T #[.slice none 0 0, .int .i64 wd, .int .i64 (0 : Nat), x, y, z, .int .i64 0]) (hf : zqa w (.agg #[x, y, z]) d) : znd w T (.slice none 0 0) [] 0 m A wd 0 d := by
 obtain ⟨a, b, ha, h4, h5⟩ := hf
 injection ha with ha
 injection ha with ha
 simp only [List.cons.injEq, and_true] at ha
 obtain ⟨rfl, rfl, rfl⟩ := ha
 exact ⟨⟨y, z, hb, h4, h5⟩, zlc.nil _ _ _ _, rfl, hm, fun i h => by simp at h, fun i j h => by simp at h⟩
theorem znd.grownR {w w' : World} {T n m wd rk : Nat} {vR u : Value} {rs : List Value} {A : Mx} {d : Rat} (h : znd w T vR rs n m A wd rk d) (hg : w.grownBy w' u.ownBlock) (hn : zlb w u) (hT : u.ownBlock ≠ some T)
 (hR : vR.ownBlock = none ∨ vR.ownBlock ≠ u.ownBlock) (hr : ∀ i (hi : i < rs.length), rs[i].ownBlock ≠ u.ownBlock) : znd w' T vR rs n m A wd rk d := by
 obtain ⟨⟨a, b, h1, h2, h3⟩, own, rl, mp, row, ap⟩ := h
 exact ⟨⟨a, b, h1.grown hg hT, h2.grown hg hn, h3.grown hg hn⟩, own.grown hg hR, rl, mp, fun i hi => (row i hi).grown hg hn (Or.inr (hr i hi)), ap⟩
theorem znd.old {w : World} {T n m wd rk : Nat} {vR : Value} {rs : List Value} {A : Mx} {d : Rat} (h : znd w T vR rs n m A wd rk d) {i : Nat} (hi : i < rs.length) : ∃ g, rs[i].ownBlock = some g ∧ g < w.heap.size := by
 obtain ⟨g, h1, _, _, h2, _⟩ := (h.row i hi).blk (by rw [zea]; exact h.mp)
 exact ⟨g, h1, h2⟩
def RBeg (w0 : World) (n m : Nat) (A : Mx) (wd : Nat) (e : Ending) (w : World) : Prop :=
 ∃ T vR rs, e = .returned (.pointer (some ⟨T, 0, none⟩)) ∧ Below w0.heap.size w0 w ∧ znd w T vR rs n m A wd 0 1 ∧ w0.heap.size ≤ T
set_option maxRecDepth 100000 in
set_option maxHeartbeats 3200000 in
theorem begin_two (va : Value) (bd : Addr) (bn bc : Nat) (n m m2 : Nat) (A A2 : Mx) (w : World) (ha : zam w va n m A) (hb : zam w (.slice (some bd) bn bc) n m2 A2) (hn1 : 1 ≤ n) (hn : n ≤ 100) (hm1 : 1 ≤ m) (hm : m ≤ 100) (hm21 : 1 ≤ m2) (hm2 : m2 ≤ 100) :
 Calls Tryz.prog 204 #[va, .slice (some bd) bn bc] w (RBeg w n (m + m2) (zpa m A A2) m) := by
 obtain ⟨i3, hi3, hz3, hs3, hy3⟩ := info_parts Tryz.infoF
 have hAP := append_fr (P := Tryz.prog) 25 38 i3 Tryz.underlying25 hi3 hz3 hs3 hy3
 obtain ⟨i4, hi4, hz4, hs4, hy4⟩ := info_parts Tryz.infoRow
 have hAR := zxl (P := Tryz.prog) 24 25 i4 _ 24 Tryz.underlying24 hi4 hz4 hs4 hy4 (by decide) rfl (fun z => by simp)
 clear hi3 hz3 hs3 hy3 hi4 hz4 hs4 hy4
 have sa := ha.sl
 have la := ha.len
 obtain ⟨r0, hc0, hr0⟩ := ha.row 0 (by omega)
 have sl0 := hr0.sl
 have ln0 : slen r0 = m := by rw [hr0.len, zea]
 have HA := zH ha
 have S0 := zH hc0
 have sb := hb.sl
 have lb := hb.len
 have HB0 := zH hb
 clear hb
 have i0 : (0 : Int) < (n : Nat) := by omega
 have i00 : 0 < n := by omega
 clear ha hr0
 go_enter Tryz.func204, Tryz.ntmps204
 go_wp2_with fail
 go_region_held3 (fun w' => w'.cell? (ptr va 0) = some r0 ∧ Below w.heap.size w w') (first
  | with_reducible exact kp1a S0.out (zja _)
  | with_reducible exact kp1w (by assumption) (zca _ _)
  | with_reducible exact kp1w (by assumption) (by assumption)) (first
  |(go_at_call 218; (with_reducible refine (lnumber_one _).mono ?_); rintro e1 w1 ⟨v1, rfl, hv1, hb1⟩
    obtain ⟨t9, x9, y9, rfl, ⟨a1, l91, k91, rfl, _⟩, ⟨a2, l92, k92, rfl, _⟩⟩ := hv1.isF
    have hB1 := zaa (kp1c (by assumption)) hb1))
 all_goals
  have hBZ := kp1c (by assumption)
  have hI := znd.init (w := w1.alloc (.cells #[.slice none 0 0, .int .i64 m, .int .i64 (0 : Nat), .bool t9, .slice a1 l91 k91, .slice a2 l92 k92, .int .i64 0] 177)) (m := (m + m2)) (zpa m A A2) (by omega) (zjf.new w1 _ _) (hv1.below (zca _ _))
  have HI := zH hI
  have HBZ := zH hBZ
  have hTw : w.heap.size ≤ w1.heap.size := hB1.size
  clear hI hBZ hv1 hb1 hB1 hc0
  go_wp2_with fail
  obtain ⟨T, hT⟩ : ∃ T, w1.heap.size = T := ⟨_, rfl⟩
  rw [hT] at HI hTw
  rw [hT]
  have HT := zH hT
  clear hT
  go_loopg [18] (n) (fun g u18 wr => ∃ (k : Nat) (vR : Value) (rs : List Value), k ≤ n ∧ g = n - k ∧ u18 = .int .i64 k ∧ znd wr T vR rs k (m + m2) (zpa m A A2) m 0 1 ∧ Below w.heap.size w wr)
  case atStart => exact ⟨0, _, [], Nat.zero_le _, rfl, rfl, HI.out, HBZ.out⟩
  case round =>
   obtain ⟨k, vR, rs, hk, hg, rfl, hTab, hbr⟩ := hrel
   obtain ⟨w2, hw2⟩ : ∃ w2, w2 = wr := ⟨_, rfl⟩
   subst hw2
   have HTAB := zH hTab
   have HBR := zH hbr
   have HG := zH hg
   clear HI HBZ
   by_cases hkn : k < n
   ·obtain ⟨rv, hrc, hrv⟩ := (HA.out.below hbr).row k hkn
    have hrlen := hrv.len
    rw [zea] at hrlen
    obtain ⟨ra, rn, rc, rfl, hs1, hs2, hs3⟩ := id hrv.sl
    obtain ⟨ad, rfl⟩ : ∃ ad, ra = some ad := by
     cases ra with
     | none => exfalso; have h5 := hs3 rfl; have h6 : rn = m := hrlen; omega
     | some ad => exact ⟨ad, rfl⟩
    have hle1 : ([] : List Rat).length + (zib m (A k)).length ≤ 1000 := by rw [zea]; simp; omega
    have hTle : T + 1 ≤ w2.heap.size := hTab.lt
    have hnil := zya.nil w2 38 (T + 1)
    have HRV := zH hrv
    obtain ⟨rv2, hrc2, hrv2⟩ := (HB0.out.below hbr).row k hkn
    have hrlen2 := hrv2.len
    rw [zea] at hrlen2
    obtain ⟨ra2, rn2, rc2, rfl, ht1, ht2, ht3⟩ := id hrv2.sl
    obtain ⟨ad2, rfl⟩ : ∃ ad2, ra2 = some ad2 := by
     cases ra2 with
     | none => exfalso; have h5 := ht3 rfl; have h6 : rn2 = m2 := hrlen2; omega
     | some ad2 => exact ⟨ad2, rfl⟩
    have hle2 : ([] ++ zib m (A k)).length + (zib m2 (A2 k)).length ≤ 1000 := by rw [List.nil_append, zea, zea]; omega
    have HRV2 := zH hrv2
    clear hrv2 hrlen2 ht1 ht2 ht3
    clear hTab hbr hg hs1 hs2 hs3 hrlen
    go_wp2_with (first
     |(at_builtin; refine hAP w2 rfl _ _ rfl (T + 1) _ [] rfl hnil ad rn rc (zib m (A k)) rfl HRV.out hle1 hTle ?_; intro v5 w5 hf5 hg5 hn5 ho5 sv5
       obtain ⟨u1, u2, u3, rfl, _⟩ := id sv5
       have hb5 : Below w2.heap.size w2 w5 := zna hg5 (Nat.le_refl _) (fun k hk => by cases hk)
       have hT5 := HTAB.out.below hb5
       have hfl5 : ([] ++ zib m (A k)).length = m := by rw [List.nil_append, zea]
       have HT5 := zH hT5
       have HF5 := zH hf5
       have HO5 := zH ho5
       have HB5 := zH (zaa HBR.out hb5)
       have hle5 : T + 1 ≤ w5.heap.size := hT5.lt
       have HRV5 := zH (HRV2.out.below hb5)
       have hrc5 := zba hb5 hrc2
       have hsf5 := hf5
       clear hT5 hf5 hg5 hn5 ho5)
     |(at_builtin; refine hAP w5 rfl _ _ rfl (T + 1) (.slice u1 u2 u3) ([] ++ zib m (A k)) rfl hsf5 ad2 rn2 rc2 (zib m2 (A2 k)) rfl HRV5.out hle2 hle5 ?_; intro v6 w6 hf6 hg6 hn6 ho6 sv6
       obtain ⟨z1, z2, z3, rfl, _⟩ := id sv6
       have hgb := HF5.out.blk (by rw [List.nil_append, zea]; omega)
       have hT6 := HT5.out.grownR hg6 hn6 (by obtain ⟨g, e1, _, e2, _⟩ := hgb; rw [e1]; intro e; injection e with e; omega) (by
        obtain ⟨ys, y1, y2⟩ := HF5.out
        exact HT5.out.own.kinds y1 (by decide)) (fun i hi => by
        obtain ⟨g, e1, e2⟩ := HTAB.out.old hi
        rw [e1]; rcases HO5.out with h | h <;> rw [h]
        ·exact fun e => by cases e
        ·intro e; injection e with e; omega)
       have hap6 : ∀ i (hi : i < rs.length), rs[i].ownBlock ≠ (Value.slice z1 z2 z3).ownBlock := fun i hi => by
        obtain ⟨g, e1, e2⟩ := HTAB.out.old hi
        have h52 : w2.heap.size ≤ w5.heap.size := hb5.size
        rw [e1]; rcases ho6 with h | h <;> rw [h]
        ·rcases HO5.out with h | h <;> rw [h]
         ·exact fun e => by cases e
         ·intro e; injection e with e; omega
        ·intro e; injection e with e; omega
       have HT6 := zH hT6
       have HF6 := zH hf6
       have HAP6 := zH hap6
       have HB6 := zH (HB5.out.trans (zna hg6 (by have := HT5.out.lt; omega) (fun k hk => by obtain ⟨g, e1, _, e2, _⟩ := hgb; rw [e1] at hk; injection hk with hk; omega)))
       obtain ⟨_, _, _, _, _, _, t5, _⟩ := hT6.cells
       have hown6 := hT6.own
       have hlen5 : rs.length ≤ 1000 := by rw [hT6.rl]; omega
       have hle6 : T + 1 ≤ w6.heap.size := hT6.lt
       clear hT6 hf6 hg6 hn6 ho6 hap6 hgb hsf5)
     |(at_builtin; refine hAR w6 rfl _ _ rfl (T + 1) _ vR rs rfl hown6 (.slice z1 z2 z3) rfl (fun z => by simp) rfl hlen5 hle6 ?_; intro v7 w7 ho7 hg7 hn7 hq7 sv7
       obtain ⟨y1, y2, y3, rfl, _⟩ := id sv7
       have hpush := HT6.out.push (r := .slice z1 z2 z3) (by have h := HF6.out; rw [List.nil_append, rowL_app] at h; exact h) HAP6.out ho7 hg7
       have HP := zH hpush
       have HB7 := zH (HB6.out.trans (hpush.2.mono hTw))
       obtain ⟨_, _, _, _, _, _, t0, _, _, _, _, _, _, _, tf⟩ := HT6.out.cells
       have t7 := (zjf.cell (show zjf w7 T _ from (HT6.out.box.choose_spec.choose_spec.1).grown hg7 (fun e => by have := (HT6.out.own.block T e).1; omega)) 0 rfl)
       have f7 := (zjf.frozen (show zjf w7 T _ from (HT6.out.box.choose_spec.choose_spec.1).grown hg7 (fun e => by have := (HT6.out.own.block T e).1; omega)) 0)
       clear ho7 hg7 hn7 hq7 hpush t0 tf))
    go_roundg (n - (k + 1))
    case measure => (have := HG.out; omega)
    case rel => exact ⟨k + 1, _, _, by omega, rfl, by go_num, HP.out.1, HB7.out⟩
   ·obtain rfl : k = n := by omega
    clear hTab hbr hg
    go_wp2_with fail
    go_ret
    exact ⟨T, vR, rs, rfl, HBR.out, HTAB.out, hTw⟩
end Go.Proofs.YtlpdkbmmbdfoiaaGreat
