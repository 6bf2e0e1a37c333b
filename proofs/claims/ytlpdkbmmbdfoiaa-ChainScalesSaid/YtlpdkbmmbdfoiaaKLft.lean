/-
  Lifting a law: what came in reads as it did in every later world that only adds to the first; small integers that came in. No law is named here.
-/
import Derived.Test.YtlpdkbmmbdfoiaaKMath17
import Derived.Test.YtlpdkbmmbdfoiaaKDt3
import Derived.Test.YtlpdkbmmbdfoiaaKOwF
import Derived.Test.YtlpdkbmmbdfoiaaKRa1
import Derived.Test.YtlpdkbmmbdfoiaaKRb5
import Derived.Test.YtlpdkbmmbdfoiaaKOr2
import Derived.Test.YtlpdkbmmbdfoiaaKMath12
import Derived.Test.YtlpdkbmmbdfoiaaKOri
import Derived.Test.YtlpdkbmmbdfoiaaKQu
import Derived.Test.YtlpdkbmmbdfoiaaKHs2
import Derived.Deep.CutRange
import Derived.Deep.DeepCutAuto
import Derived.Deep.LoopGhost
import Derived.Lib.SliceRun
import Derived.Test.YtlpdkbmmbdfoiaaRows
import Derived.WalkKit
import Derived.ProofKit
import Derived.OpenShut
import Derived.ChangeSlices
set_option linter.unusedVariables false
set_option linter.unusedSimpArgs false
namespace Go.Proofs.Ytlpdkbmmbdfoiaa
open Go.RowKit
theorem zrg (b : Nat) (l : List Nat) (a : Nat) (z : Int) (n : Nat) (w : World) (hz : z = (n : Int)) (h : TapeAt w b l a) (hn : 1 ≤ n) (hn2 : n ≤ 65536) :
 Calls Try.prog 36 #[.pointer (some ⟨b, 0, none⟩), .int .i64 z] w (RNext w b l n) := by subst hz; exact next_any b l a n w h hn hn2
theorem Try.aggCh (w : World) : (isAgg 45).run Try.prog w = .ok true w := by go_simp
theorem Try.sizeCh (w : World) : (sizeOf 45).run Try.prog w = .ok 3 w := by go_simp
theorem sz1 (w : World) (o : Obj) : (w.alloc o).heap.size = w.heap.size + 1 := by simp
theorem r2make_z (a b : Nat) (z : Int) (w : World) (hz : z = (b : Int)) (ha : a < 4294967296) (hb : b < 4294967296) (hb0 : b ≠ 0) :
 Calls Try.prog 15 #[.int .i64 a, .int .i64 z] w (RF0 w (fq false a b)) := by subst hz; exact zbe a b w ha hb hb0
def RChain (w0 : World) (bt : Nat) (l : List Nat) (e : Ending) (w : World) : Prop :=
 ∃ v c a, e = .returned v ∧ ChainC w v c ∧ tapeP c ∧ TapeAt w bt l a ∧ w0.heap.size ≤ w.heap.size ∧ ∀ B, B ≤ bt → B ≤ w0.heap.size → Below B w0 w
def Pro (w : World) (bt : Nat) (l : List Nat) (wx : World) : Prop := ∃ a, TapeAt wx bt l a ∧ C3 wx w.heap.size (.slice none 0 0) (.slice none 0 0) (.slice none 0 0) ∧ (∀ B, B ≤ bt → B ≤ w.heap.size → Below B w wx)
theorem Pro.size {w wx : World} {bt : Nat} {l : List Nat} (h : Pro w bt l wx) : w.heap.size < wx.heap.size := by obtain ⟨a, h1, h2, h3⟩ := h; exact h2.lt
theorem Pro.tick {w wx wy : World} {bt a' : Nat} {l : List Nat} (h : Pro w bt l wx) (ht : TapeAt wy bt l a') (hk : Ticks bt wx wy) : Pro w bt l wy := by
 have hs := h.size
 obtain ⟨a, h1, h2, h3⟩ := h
 exact ⟨a', ht, h2.tick h1 hk zjf zjf zjf, fun B hB hB2 => (h3 B hB hB2).trans (hk.below hB (by omega))⟩
theorem Pro.start {w : World} {bt a : Nat} {l : List Nat} (h : TapeAt w bt l a) (t : TypeId) : Pro w bt l (w.alloc (.cells #[.slice none 0 0, .slice none 0 0, .slice none 0 0] t)) :=
 ⟨a, h.below (below_alloc w _), C3.new w t _ _ _, fun B _ hB => (below_alloc w _).mono hB⟩
theorem ChW.new {w : World} {bt a : Nat} {l : List Nat} (h : TapeAt w bt l a) (t : TypeId) :
 ChW (w.alloc (.cells #[.slice none 0 0, .slice none 0 0, .slice none 0 0] t)) bt l (w.heap.size + 1) w.heap.size (.slice none 0 0) (.slice none 0 0) (.slice none 0 0) [] [] [] [] := by
 refine ⟨⟨a, (h.b.mono (Nat.le_succ _)).below (below_alloc w _)⟩, C3.new w t _ _ _, FrRow.nil _ _ _, OwnR.nil _ _ _ _, OwnR.nil _ _ _ _, rfl, fun j h => by simp at h, by simp, ?_, by omega, ?_⟩
 ·have := h.lt; omega
 ·have := h.lt; omega
set_option maxRecDepth 100000 in
set_option maxHeartbeats 3200000 in
theorem chain_any (bt a : Nat) (l : List Nat) (w : World) (hT : TapeAt w bt l a) :
 Calls Try.prog 14 #[.pointer (some ⟨bt, 0, none⟩)] w (RChain w bt l) := by
 obtain ⟨i1, hi1, hz1, hs1, hy1⟩ := info_parts Try.infoRow
 have hAR := append1_one (P := Try.prog) 24 23 i1 _ 24 Try.underlying24 hi1 hz1 hs1 hy1 (by decide) rfl (fun z => by simp)
 obtain ⟨i2, hi2, hz2, hs2, hy2⟩ := info_parts Try.infoBool
 have hAB := append1_one (P := Try.prog) 43 4 i2 _ 1 Try.underlying43 hi2 hz2 hs2 hy2 (by decide) rfl (fun z => by simp)
 obtain ⟨i3, hi3, hz3, hs3, hy3⟩ := info_parts Try.infoF
 have hAF := append1_fr (P := Try.prog) 23 32 i3 Try.underlying23 hi3 hz3 hs3 hy3
 clear hi1 hz1 hs1 hy1 hi2 hz2 hs2 hy2 hi3 hz3 hs3 hy3
 have hP0 := Pro.start hT 45
 have H0 := zH hP0
 obtain ⟨a0, hT0, _, _⟩ := hP0
 go_enter Try.func14, Try.ntmps14
 go_upto_region 3 with (go_at_call 36; (with_reducible refine (zrg bt l _ 4 4 _ rfl hT0 (by decide) (by decide)).mono ?_); rintro e1 w1 ⟨x1, a1, rfl, hx1, hT1, hk1⟩)
 have HP := zH (H0.out.tick hT1 hk1)
 clear hk1
 go_cut [23] from 14 (fun u23 wx => ∃ b, u23 = .bool b ∧ Pro w bt l wx)
 case first =>
  by_cases h3 : 3 < x1 + 2
  ·have hd : decide ((3 : Int) < 2 + (x1 : Nat)) = true := decide_eq_true (by omega)
   go_wp2_with (go_at_call 36; (with_reducible refine (zrg bt l _ 3 3 _ rfl hT1 (by decide) (by decide)).mono ?_); rintro e2 w2 ⟨x2, a2, rfl, hx2, hT2, hk2⟩)
   go_meet
   case rel => exact ⟨_, rfl, HP.out.tick hT2 hk2⟩
  ·have hd : decide ((3 : Int) < 2 + (x1 : Nat)) = false := decide_eq_false (by omega)
   go_wp2_with fail
   go_meet
   case rel => exact ⟨_, rfl, HP.out⟩
 case rest =>
  obtain ⟨b3, rfl, hP3⟩ := hcut
  have HP3 := zH hP3
  obtain ⟨a3, hT3, _, _⟩ := hP3
  go_upto_if 23 with fail
  go_cut [4] from 14 (fun u4 wx => ∃ lo : Nat, u4 = .int .i64 lo ∧ lo ≤ 2 ∧ wx = wc)
  case first =>
   cases b3
   ·go_wp2_with fail
    go_meet
    case rel => exact ⟨1, rfl, by decide, rfl⟩
   ·go_wp2_with fail
    go_meet
    case rel => exact ⟨2, rfl, by decide, rfl⟩
  case rest =>
   obtain ⟨lo, rfl, hlo, rfl⟩ := hcut
   go_upto_if 26 with (go_at_call 36; (with_reducible refine (zrg bt l _ 12 12 _ rfl hT3 (by decide) (by decide)).mono ?_); rintro e4 w4 ⟨x4, a4, rfl, hx4, hT4, hk4⟩)
   have HP4 := zH (HP3.out.tick hT4 hk4)
   go_cut [4] from 14 (fun u4 wx => ∃ lo : Nat, u4 = .int .i64 lo ∧ lo ≤ 2 ∧ wx = w4)
   case first =>
    by_cases h11 : x4 = 11
    ·have hd : ((x4 : Int) == 11) = true := by simp [h11]
     go_wp2_with fail
     go_meet
     case rel => exact ⟨0, rfl, by decide, rfl⟩
    ·have hd : ((x4 : Int) == 11) = false := by simp; omega
     go_wp2_with fail
     go_meet
     case rel => exact ⟨lo, rfl, hlo, rfl⟩
   case rest =>
    obtain ⟨lo2, rfl, hlo2, hwc⟩ := hcut
    subst hwc
    obtain ⟨wz, hwz⟩ : ∃ wz, wz = wc := ⟨_, rfl⟩
    subst hwz
    have hI := ChW.new hT4 45
    have hF : Fr w bt wz := by obtain ⟨_, _, f1, f2⟩ := HP4.out; exact ⟨f1, f2⟩
    have hF5 := hF.below (below_alloc wz (.cells #[.slice none 0 0, .slice none 0 0, .slice none 0 0] 45))
    have HI := zH hI
    have HF5 := zH hF5
    have hw4 := hF.1.lt
    have hbt := hT.lt
    clear hI hF hF5 hk4 hT hT0 hT1 hT3
    go_wp2_with fail
    go_loopg [6, 7] (x1 + 2) (fun k u6 u7 wr => ∃ (i left : Nat) (vr vs vl : Value) (rs : List Value) (rates : List (List Rat)) (start : List Rat) (lost : List Bool), i ≤ x1 + 2 ∧ k = x1 + 2 - i ∧ u6 = .int .i64 left ∧ u7 = .int .i64 i ∧
     ChW wr bt l (wz.heap.size + 1) wz.heap.size vr vs vl rs rates start lost ∧ TF (x1 + 2) lo2 i left rates start lost ∧ Fr w bt wr)
    case atStart => exact ⟨0, 4, _, _, _, _, _, _, _, Nat.zero_le _, rfl, rfl, rfl, HI.out, TF.zero _ _ (by omega), HF5.out⟩
    case round =>
     obtain ⟨i, left, vr, vs, vl, rs, rates, start, lost, hi, hgk, rfl, rfl, hW, hTF, hF⟩ := hrel
     have HTF := zH hTF
     have HF := zH hF
     have HW := zH hW
     have hil := hTF.ll
     have hleft := hTF.left4
     have hlob := hW.lo
     have svl := hW.lo.sl
     have hlen1 : (lost.map Value.bool).length ≤ 1000 := by rw [List.length_map, hil]; omega
     obtain ⟨_, c0, c1, c2, f0, f1, f2⟩ := id hW.box
     have hsz := hW.sz
     clear hTF hF hW hil
     by_cases hin : i < x1 + 2
     ·have hd1 : decide ((i : Int) < 2 + (x1 : Nat)) = true := decide_eq_true (by omega)
      go_upto_if 46 with (first
       |(at_builtin; refine hAB wr rfl _ _ rfl (wz.heap.size + 1) _ vl _ rfl hlob (.bool (decide ((2 : Int) + (x1 : Nat) - (lo2 : Nat) ≤ (i : Nat)))) rfl (fun z => by simp) rfl hlen1 hsz ?_; intro v2' w2 ho2 hg2 hn2 hv2 sv2
         have hG := HW.out.lostG ho2 hg2 hn2
         have hbx2 := HW.out.box.below hG.2 (Nat.lt_succ_self _)
         have HG := zH hG
         obtain ⟨_, c0, c1, c2, f0, f1, f2⟩ := id hbx2
         clear hG hbx2
         obtain ⟨an2, nn2, cn2, rfl, _⟩ := id sv2))
      have HF2 := zH ((HF.out.low HG.out.2 (by omega)).set ⟨wz.heap.size, 2, none⟩ hw4 (.slice an2 nn2 cn2))
      have HW2 := zH HG.out.1
      clear HG ho2 hg2 hn2 hv2 c0 c1 c2 f0 f1 f2
      generalize w2.setCell ⟨wz.heap.size, 2, none⟩ (.slice an2 nn2 cn2) = W2 at *
      have hx1 : x1 < 4 := hx1
      go_cut [8] (fun u8 wx => ∃ k : Nat, u8 = .int .i64 k ∧ k ≤ left ∧ (i + 1 = x1 + 2 → k = left) ∧ ChW wx bt l (wz.heap.size + 1) wz.heap.size vr vs (.slice an2 nn2 cn2) rs rates start (lost ++ [decide ((2 : Int) + (x1 : Nat) - (lo2 : Nat) ≤ (i : Nat))]) ∧ Fr w bt wx)
      case first =>
       obtain ⟨a6, hT6⟩ := HW2.out.tape
       have hT6 := hT6.1
       by_cases hlast : i + 1 < x1 + 2
       ·have hd2 : decide ((i : Int) + 1 < 2 + (x1 : Nat)) = true := decide_eq_true (by omega)
        by_cases hi0 : i = 0
        ·have hd3 : ((i : Int) == 0) = true := by simp [hi0]
         clear hi0
         go_wp2_with (first
          |(go_at_call 36; (with_reducible refine (zrg bt l _ 6 6 _ rfl hT6 (by decide) (by decide)).mono ?_); rintro e6 w6 ⟨x6, a6', rfl, hx6, hT6', hk6⟩)
          |(go_at_call 36; (with_reducible refine (zrg bt l _ 2 2 _ rfl hT6' (by decide) (by decide)).mono ?_); rintro e7 w7 ⟨x7, a7, rfl, hx7, hT7, hk7⟩))
         all_goals
          go_meet
          case rel => exact ⟨_, rfl, by omega, fun h => by omega, (HW2.out.tick hk6 hT6').tick hk7 hT7, (HF2.out.tick hT6 hk6).tick hT6' hk7⟩
        ·have hd3 : ((i : Int) == 0) = false := by simp; omega
         clear hi0
         go_wp2_with (first
          |(go_at_call 36; (with_reducible refine (zrg bt l _ 6 6 _ rfl hT6 (by decide) (by decide)).mono ?_); rintro e6 w6 ⟨x6, a6', rfl, hx6, hT6', hk6⟩))
         all_goals
          go_meet
          case rel => exact ⟨_, rfl, by omega, fun h => by omega, HW2.out.tick hk6 hT6', HF2.out.tick hT6 hk6⟩
       ·have hd2 : decide ((i : Int) + 1 < 2 + (x1 : Nat)) = false := decide_eq_false (by omega)
        go_wp2_with fail
        go_meet
        case rel => exact ⟨left, rfl, Nat.le_refl _, fun _ => rfl, HW2.out, HF2.out⟩
      case rest =>
       obtain ⟨k, rfl, hkl, hkn, hW3, hF3⟩ := hcut
       have HW3 := zH hW3
       have HF3 := zH hF3
       clear hW3 hF3
       have HK := zH hkn
       clear hkn
       have hst1 : start.length ≤ 1000 := by rw [HTF.out.sl]; omega
       go_wp2_with (first
        |(go_at_call 15; (with_reducible refine (r2make_z k 4 4 _ rfl (by omega) (by decide) (by decide)).mono ?_); rintro e8 w8 ⟨v8, rfl, hv8, hb8⟩
          obtain ⟨t9, x9, y9, rfl, ⟨a91, l91, k91, rfl, _⟩, ⟨a92, l92, k92, rfl, _⟩⟩ := hv8.isF
          have hbA := below_alloc w8 (.cells #[.bool t9, .slice a91 l91 k91, .slice a92 l92 k92] 32)
          have hv9 := hv8.below hbA
          have HW8 := zH ((HW3.out.below hb8).below hbA)
          have HF8 := zH ((HF3.out.below hb8).below hbA)
          have hst8 := HW8.out.st
          have hsz8 := HW8.out.sz
          obtain ⟨_, c0, c1, c2, f0, f1, f2⟩ := id HW8.out.box
          obtain ⟨_, g0, g1, g2, _, _, _⟩ := C3.new w8 32 (.bool t9) (.slice a91 l91 k91) (.slice a92 l92 k92))
        |(at_builtin; refine hAF _ rfl _ _ rfl (wz.heap.size + 1) _ vs start rfl hst8 _ _ _ (fq false k 4) hv9 (by rw [sz1]; rfl) hst1 hsz8 ?_; intro v3' w9 ho9 hg9 hn9 hq9 sv9
          have hG := HW8.out.startG ho9 hg9 hn9 hq9 (Nat.le_succ _)
          have hbx9 := HW8.out.box.below hG.2 (Nat.lt_succ_self _)
          have HG := zH hG
          obtain ⟨_, c0, c1, c2, f0, f1, f2⟩ := id hbx9
          clear hG hbx9
          obtain ⟨an3, nn3, cn3, rfl, _⟩ := id sv9))
       have HFA := zH ((HF8.out.low HG.out.2 (by omega)).set ⟨wz.heap.size, 1, none⟩ hw4 (.slice an3 nn3 cn3))
       have HWA := zH HG.out.1
       have hb8s := hb8.size
       clear HG ho9 hg9 hn9 hq9 c0 c1 c2 f0 f1 f2 g0 g1 g2 hst8
       generalize hWAe : w9.setCell ⟨wz.heap.size, 1, none⟩ (.slice an3 nn3 cn3) = WA at *
       clear hWAe
       go_loopg [11, 12] (x1 + 2) (fun m u11 u12 wi => ∃ (j : Nat) (rv : Value) (row : List Rat), j ≤ x1 + 2 ∧ m = x1 + 2 - j ∧ u11 = rv ∧ u12 = .int .i64 j ∧
        InS w bt l (wz.heap.size + 1) wz.heap.size vr (.slice an3 nn3 cn3) (.slice an2 nn2 cn2) WA rv row wi ∧ RowF (x1 + 2) lo2 i row j)
       case atStart => exact ⟨0, _, _, Nat.zero_le _, rfl, rfl, rfl, InS.start HWA.out HFA.out (by omega), RowF.nil _ _ _⟩
       case round =>
        obtain ⟨j, rv, row, hj, hgm, rfl, rfl, hIn, hRow⟩ := hrel
        have HIn := zH hIn
        have HRow := zH hRow
        have hrl : row.length ≤ 1000 := by rw [hRow.1]; omega
        clear hIn hRow
        by_cases hjn : j < x1 + 2
        ·have hd5 : decide ((j : Int) < 2 + (x1 : Nat)) = true := decide_eq_true (by omega)
         go_upto_region 26 with (first
          |(go_at_call 6; (with_reducible refine (r2int_zero _).mono ?_); rintro e13 w13 ⟨v13, rfl, hv13, hb13⟩
            obtain ⟨t13, x13, y13, rfl, ⟨a131, l131, k131, rfl, q131⟩, ⟨a132, l132, k132, rfl, q132⟩⟩ := hv13.isF))
         have hbB := below_alloc w13 (.cells #[.bool t13, .slice a131 l131 k131, .slice a132 l132 k132] 32)
         have HI13 := zH ((HIn.out.below hb13).below hbB)
         have hv13b := hv13.below hbB
         have hC13 := C3.new w13 32 (.bool t13) (.slice a131 l131 k131) (.slice a132 l132 k132)
         have hrb : u11.ownBlock = none ∨ u11.ownBlock ≠ some w13.heap.size := by
          cases ho : u11.ownBlock with
          | none => exact Or.inl rfl
          | some g => exact Or.inr (fun e => by injection e with e; have h1 := (HIn.out.fr.block g ho).2; have h2 := hb13.size; omega)
         have hAb : WA.heap.size ≤ w13.heap.size := Nat.le_trans HIn.out.mv.size hb13.size
         have HV13 := zH (And.intro hv13b hC13)
         clear hv13 hv13b hC13 hb13 hbB
         generalize w13.alloc (.cells #[.bool t13, .slice a131 l131 k131, .slice a132 l132 k132] 32) = WB at *
         obtain ⟨aT, hTB⟩ := HI13.out.tp
         have hTB := hTB.1
         go_cut [93] (fun u93 wx => ∃ b, u93 = .bool b ∧ (b = true → ((i : Nat) : Int) < 2 + (x1 : Nat) - (lo2 : Nat) ∧ i ≠ j) ∧ InS w bt l (wz.heap.size + 1) wz.heap.size vr (.slice an3 nn3 cn3) (.slice an2 nn2 cn2) WA u11 row wx ∧
          C3 wx w13.heap.size (.bool t13) (.slice a131 l131 k131) (.slice a132 l132 k132) ∧ FracC wx (.agg #[.bool t13, .slice a131 l131 k131, .slice a132 l132 k132]) 0)
         case first =>
          by_cases hA : ((i : Nat) : Int) < 2 + (x1 : Nat) - (lo2 : Nat)
          ·have hdA : decide (((i : Nat) : Int) < 2 + (x1 : Nat) - (lo2 : Nat)) = true := decide_eq_true hA
           by_cases hB : i = j
           ·have hdB : (((i : Nat) : Int) != (j : Nat)) = false := by simp [hB]
            clear hB
            go_wp2_with fail
            go_meet
            case rel => exact ⟨_, rfl, fun h => (by cases h), HI13.out, HV13.out.2, HV13.out.1⟩
           ·have hdB : (((i : Nat) : Int) != (j : Nat)) = true := by simp; omega
            go_wp2_with (go_at_call 36; (with_reducible refine (zrg bt l _ 3 3 _ rfl hTB (by decide) (by decide)).mono ?_); rintro e14 w14 ⟨x14, a14, rfl, hx14, hT14, hk14⟩)
            go_meet
            case rel => exact ⟨_, rfl, fun _ => ⟨hA, hB⟩, HI13.out.tick hk14 hT14, HV13.out.2.tick hTB hk14 (fun z => by simp) (fun z => by simp) (fun z => by simp), HV13.out.1.tick hTB hk14⟩
          ·have hdA : decide (((i : Nat) : Int) < 2 + (x1 : Nat) - (lo2 : Nat)) = false := decide_eq_false hA
           go_wp2_with fail
           go_meet
           case rel => exact ⟨_, rfl, fun h => (by cases h), HI13.out, HV13.out.2, HV13.out.1⟩
         case rest =>
          obtain ⟨b93, rfl, hb93, hI14, hC14, hv14⟩ := hcut
          have HI14 := zH hI14
          have HV14 := zH (And.intro hv14 hC14)
          obtain ⟨aU, hTU⟩ := HI14.out.tp
          have hTU := hTU.1
          clear hI14 hv14 hC14 hTB HI13 HV13
          go_upto_if 93 with fail
          go_cut [] (fun wx => ∃ (q : Rat) (t' : Bool) (x' y' : Value), C3 wx w13.heap.size (.bool t') x' y' ∧ FracC wx (.agg #[.bool t', x', y']) q ∧ zra q ∧ (i = j → q = 0) ∧ (((x1 + 2 : Nat) : Int) - (lo2 : Nat) ≤ (i : Nat) → q = 0) ∧
           InS w bt l (wz.heap.size + 1) wz.heap.size vr (.slice an3 nn3 cn3) (.slice an2 nn2 cn2) WA u11 row wx)
          case first =>
           have HB93 := zH hb93
           clear hb93
           cases b93
           ·go_wp2_with fail
            go_meet
            case rel => exact ⟨0, _, _, _, HV14.out.2, HV14.out.1, zra.zero, by simp, by simp, HI14.out⟩
           ·go_wp2_with (first
             |(go_at_call 36; (with_reducible refine (zrg bt l _ 4 4 _ rfl hTU (by decide) (by decide)).mono ?_); rintro e15 w15 ⟨x15, a15, rfl, hx15, hT15, hk15⟩)
             |(go_at_call 36; (with_reducible refine (zrg bt l _ 3 3 _ rfl hT15 (by decide) (by decide)).mono ?_); rintro e16 w16 ⟨x16, a16, rfl, hx16, hT16, hk16⟩)
             |(go_at_call 15; (with_reducible refine (r2make_z x15 (x16 + 1) _ _ (by omega) (by omega) (by omega) (by omega)).mono ?_); rintro e17 w17 ⟨v17, rfl, hv17, hb17⟩
               obtain ⟨t17, x17, y17, rfl, ⟨a171, l171, k171, rfl, q171⟩, ⟨a172, l172, k172, rfl, q172⟩⟩ := hv17.isF
               have hC17 := (((HV14.out.2.tick hTU hk15 (fun z => by simp) (fun z => by simp) (fun z => by simp)).tick hT15 hk16 (fun z => by simp) (fun z => by simp) (fun z => by simp)).belowS hb17)
               have HC17 := zH hC17
               have HI17 := zH (((HI14.out.tick hk15 hT15).tick hk16 hT16).below hb17)
               obtain ⟨_, d0, d1, d2, d3, d4, d5⟩ := hC17))
            go_meet
            case rel =>
             obtain ⟨hA, hB⟩ := HB93.out (by first | trivial | rfl)
             exact ⟨fq false x15 (x16 + 1), _, _, _, HC17.out.set _ _ _, hv17.set3 HC17.out (fun z => by simp) (fun z => by simp) _ _ _, ⟨x15, x16 + 1, by omega, by omega, by omega, rfl⟩, fun h => absurd h hB, fun h => by omega, HI17.out.set3 HC17.out ⟨_, _, _, rfl, q131⟩ ⟨_, _, _, rfl, q132⟩ hAb hrb _ _ _⟩
          case rest =>
           obtain ⟨q, t18, x18, y18, hC18, hv18, hsm, hq1, hq2, hI18⟩ := hcut
           have HI18 := zH hI18
           have HQ := zH (And.intro hsm (And.intro hq1 hq2))
           have hfr := hI18.fr
           have s11 := hfr.sl
           have hbs := hI18.mv.size
           have hv18' := hv18
           obtain ⟨_, _, _, hF18, ⟨a181, l181, k181, rfl, _⟩, ⟨a182, l182, k182, rfl, _⟩⟩ := hv18'.isF
           injection hF18 with hF18
           injection hF18 with hF18
           simp only [List.cons.injEq, and_true, Value.bool.injEq] at hF18
           obtain ⟨rfl, rfl, rfl⟩ := hF18
           obtain ⟨_, d0, d1, d2, _, _, _⟩ := id hC18
           clear hq1 hq2 hC18 hI18 hv18' hsm
           go_wp2_with (first
            |(at_builtin; refine hAF _ rfl _ _ rfl WA.heap.size _ u11 row rfl hfr _ _ _ q hv18 rfl hrl hbs ?_; intro v4' w20 ho20 hg20 hn20 hq20 sv20
              have HI20 := zH (HI18.out.grow ho20 hg20 hn20)))
           go_roundg (x1 + 2 - (j + 1))
           case measure => omega
           case rel => exact ⟨j + 1, _, _, by omega, rfl, rfl, by go_num, HI20.out, HRow.out.snoc HQ.out.1 HQ.out.2.1 HQ.out.2.2⟩
        ·obtain rfl : j = x1 + 2 := by omega
         have hd5 : decide (((x1 + 2 : Nat) : Int) < 2 + (x1 : Nat)) = false := decide_eq_false (by omega)
         have hcw := HIn.out.chw HWA.out
         obtain ⟨hcw1, hcw2, hcw3⟩ := hcw
         obtain ⟨a11, l11, k11, rfl, _⟩ := hcw2.sl
         have HCW := zH (And.intro hcw1 (And.intro hcw2 hcw3))
         have HFW := zH HIn.out.fm
         have hra := hcw1.ra
         have hrasl := hra.sl
         have hszw := hcw1.sz
         have hrs1 : rs.length ≤ 1000 := by rw [hcw1.rl, HTF.out.rl]; omega
         obtain ⟨_, c0, c1, c2, f0, f1, f2⟩ := id hcw1.box
         clear hcw1 hcw2 hcw3
         go_wp2_with (first
          |(at_builtin; refine hAR _ rfl _ _ rfl (wz.heap.size + 1) _ vr rs rfl hra (.slice a11 l11 k11) rfl (fun z => by simp) rfl hrs1 hszw ?_; intro v5' w21 ho21 hg21 hn21 hq21 sv21
            have hG := HCW.out.1.ratesG HCW.out.2.1 HCW.out.2.2 ho21 hg21 hn21
            have hbx21 := HCW.out.1.box.below hG.2 (Nat.lt_succ_self _)
            have HG := zH hG
            obtain ⟨_, c0, c1, c2, f0, f1, f2⟩ := id hbx21
            clear hG hbx21
            obtain ⟨an5, nn5, cn5, rfl, _⟩ := id sv21))
         have HF21 := zH ((HFW.out.low HG.out.2 (by omega)).set ⟨wz.heap.size, 0, none⟩ hw4 (.slice an5 nn5 cn5))
         have HDEC : Hid (decide ((2 : Int) + (x1 : Nat) - (lo2 : Nat) ≤ (i : Nat)) = decide (((x1 + 2 : Nat) : Int) - (lo2 : Nat) ≤ (i : Nat))) := zH (decide_eq_decide.2 (by omega))
         have HSUB : Hid (((left : Nat) : Int) - (k : Nat) = ((left - k : Nat) : Int)) := zH (by omega)
         go_roundg (x1 + 2 - (i + 1))
         case measure => omega
         case rel =>
          refine ⟨i + 1, left - k, _, _, _, _, _, _, _, by omega, rfl, by rw [HSUB.out], by go_num, HG.out.1, ?_, HF21.out⟩
          rw [HDEC.out]
          exact HTF.out.step hkl HK.out HRow.out
     ·obtain rfl : i = x1 + 2 := by omega
      have hd1 : decide (((x1 + 2 : Nat) : Int) < 2 + (x1 : Nat)) = false := decide_eq_false (by omega)
      obtain ⟨ar, lr, kr, rfl, _⟩ := id HW.out.ra.sl
      obtain ⟨as', ls, ks, rfl, _⟩ := id HW.out.st.sl
      obtain ⟨al, ll, kl, rfl, _⟩ := id svl
      obtain ⟨_, e0, e1, e2, e3, e4, e5⟩ := id HF.out.1
      go_wp2_with fail
      refine bodyPost_c1 rfl rfl Try.aggCh Try.sizeCh (HF.out.1.set _ _ _) rfl ?_
      have hO := HW.out.set3 HF.out.1 (by omega) (by omega) (by omega) (.slice ar lr kr) (.slice as' ls ks) (.slice al ll kl)
      obtain ⟨aO, hOT⟩ := hO.tape
      refine ⟨_, _, aO, rfl, hO.chainC, HTF.out.done (by omega) (by omega), hOT.1, ?_, fun B h1 h2 => below_set3 (HF.out.2 B h1 h2) h2 _ _ _⟩
      have := HF.out.1.lt
      simp [World.setCell]
      omega
theorem r2make_zz (a b : Nat) (y z : Int) (w : World) (hy : y = (a : Int)) (hz : z = (b : Int)) (ha : a < 4294967296) (hb : b < 4294967296) (hb0 : b ≠ 0) :
 Calls Try.prog 15 #[.int .i64 y, .int .i64 z] w (RF0 w (fq false a b)) := by subst hy; subst hz; exact zbe a b w ha hb hb0
theorem zero_chain (w : World) : ChainN w (.agg #[.slice none 0 0, .slice none 0 0, .slice none 0 0]) ⟨[], [], []⟩ :=
 ⟨_, _, _, rfl, ⟨IsSl.nil, rfl, fun j h => by simp at h⟩, zgc.nil w, ⟨IsSl.nil, rfl, fun j h => by simp at h⟩⟩
def mkE (w : World) (e : TypeId) (z : Value) (n : Nat) : World := w.alloc (.cells (madeCells #[z] (n * 1)) e)
theorem mkE_size (w : World) (e : TypeId) (z : Value) (n : Nat) : (mkE w e z n).heap.size = w.heap.size + 1 := by simp [mkE]
theorem mkE_below (w : World) (e : TypeId) (z : Value) (n : Nat) : Below w.heap.size w (mkE w e z n) := below_alloc w _
@[go_sem] theorem cell_mkE (w : World) (e : TypeId) (z : Value) (n : Nat) (p : Addr) (hp : p.block < w.heap.size) : (mkE w e z n).cell? p = w.cell? p := (mkE_below w e z n).cell hp
@[go_sem] theorem frozen_mkE (w : World) (e : TypeId) (z : Value) (n : Nat) (p : Addr) (hp : p.block < w.heap.size) : (mkE w e z n).frozen? p = w.frozen? p := (mkE_below w e z n).frozen hp
@[go_sem] theorem size_mkE (w : World) (e : TypeId) (z : Value) (n : Nat) : (mkE w e z n).heap.size = w.heap.size + 1 := mkE_size w e z n
def I8V (w : World) (v : Value) (l : List Int) : Prop := CellsV w v (l.map (Value.int .i8)) ∧ ∀ x ∈ l, -128 ≤ x ∧ x ≤ 127
theorem posR_of {q : Rat} (hf : fits q) (hq : 0 < q) : posR (decide (q < 0)) q.num.natAbs q.den := by
 refine ⟨zab hf, decide_eq_false (fun h => absurd (Rat.le_of_lt h) (Rat.not_le.2 hq)), fun h => ?_⟩
 have h3 : q = 0 := Rat.num_eq_zero.1 (Int.natAbs_eq_zero.1 h)
 rw [h3] at hq; exact absurd hq (by decide)
theorem tape_big {c : CQ} (ht : tapeP c) : ∀ i, i < c.raw.rates.length → ∀ q ∈ zoa c.raw i, zok 2304 q := fun i hi q hq => by
 have hqv := ht.valid
 have hm : c.raw.rates.length = c.start.length := hqv.2.2.2.1.trans (by simp [CQ.raw])
 obtain ⟨j, hj, rfl⟩ := List.getElem_of_mem hq
 have hl := zdj hqv (i := i) (by have := hqv.2.2.1; have := hqv.2.2.2.1; omega)
 have e1 : (zoa c.raw i)[j] = (c.rates.getD i []).getD j 0 := by
  have : zoa c.raw i = c.rates.getD i [] := rowsQ_raw c i
  simp only [this, List.getD_eq_getElem?_getD (l := c.rates.getD i [])]
  rw [List.getElem?_eq_getElem (by rw [← this]; exact hj)]
  rfl
 rw [e1]
 have hll9 : c.raw.lost.length = c.start.length := hqv.2.2.1.trans (by simp [CQ.raw])
 obtain ⟨a, ha, e2⟩ := (ht.rate (i := i) (j := j) (by omega) (by omega)).twelve
 rw [e2, zne a 12 12 (by decide)]
 exact ⟨a * 12, by omega, rfl⟩
theorem start_over {c : CQ} (ht : tapeP c) : ∀ q ∈ qs c.raw.start, over 12 48 q := fun q hq => by
 have e : qs c.raw.start = c.start := zwf _
 rw [e] at hq
 obtain ⟨a, ha, rfl⟩ := (ht.st q hq).twelve
 exact ⟨a, rfl, by simpa using ha⟩
theorem it_over {c : RC} {R : Nat} (hR0 : R ≠ 0) {ρ : Rat} (ho : ∀ i j, i < c.rates.length → j < c.rates.length → over R 48672 (ztc c ρ i j)) (hs : ∀ q ∈ qs c.start, over 12 48 q) (h5 : c.rates.length ≤ 5) : ∀ k, ∀ q ∈ itV c ρ k, over (12 * R ^ k) (48 * 243360 ^ k) q
 | 0 => fun q hq => by simpa using hs q hq
 | k + 1 => fun q hq => by
   have h := stepV_over (c := c) (R := R) (D := 12 * R ^ k) (B := 48 * 243360 ^ k) (Nat.mul_ne_zero (by decide) (Nat.ne_of_gt (Nat.pow_pos (Nat.pos_of_ne_zero hR0)))) hR0 ho (it_over hR0 ho hs h5 k) q hq
   rw [Nat.pow_succ, ← Nat.mul_assoc]
   refine h.mono ?_
   rw [Nat.pow_succ, ← Nat.mul_assoc, Nat.mul_assoc]
   calc c.rates.length * (48 * 243360 ^ k * 48672) ≤ 5 * (48 * 243360 ^ k * 48672) := Nat.mul_le_mul_right _ h5
    _ = 48 * (243360 ^ k * 243360) := by omega
structure MassS (c : RC) (ρ : Rat) : Prop where
 fρ : fits ρ
 pos : 0 < ρ
 le : leaveTo c c.rates.length ≤ ρ
 h1 : ∀ i j, i < c.rates.length → j < c.rates.length → fits ((zoa c i).getD j 0 / ρ)
 h2 : ∀ i, i < c.rates.length → fits (zsb (zoa c i) / ρ) ∧ fits (1 - zsb (zoa c i) / ρ)
 hw : ∀ k, k ≤ 4 → wtA c ρ k ≤ 3800
 fv : ∀ k, k ≤ 4 → ∀ q ∈ itV c ρ k, fits q
 fs : ∀ k, k ≤ 4 → ∀ (p : Nat → Prop) [DecidablePred p] (m : Nat), m ≤ 5 → fits (sg m fun i => if p i then (itV c ρ k).getD i 0 else 0)
theorem pow5 {R k : Nat} (hR0 : R ≠ 0) (hR : R ≤ 23328) (hk : k ≤ 4) : 12 * R ^ k < 2 ^ 64 ∧ 48 * 243360 ^ k < 2 ^ 80 := by
 have h1 : R ^ k ≤ 23328 ^ 4 := Nat.le_trans (Nat.pow_le_pow_left hR k) (Nat.pow_le_pow_right (by decide) hk)
 have h2 : 243360 ^ k ≤ 243360 ^ 4 := Nat.pow_le_pow_right (by decide) hk
 exact ⟨Nat.lt_of_le_of_lt (Nat.mul_le_mul_left _ h1) (by decide +kernel), Nat.lt_of_le_of_lt (Nat.mul_le_mul_left _ h2) (by decide +kernel)⟩
theorem mass_of {c : CQ} (ht : tapeP c) {R : Nat} (hR0 : R ≠ 0) (hR : R ≤ 23328) (hle : leaveTo c.raw c.raw.rates.length ≤ mkRat ((R : Nat) : Int) 144) : MassS c.raw (mkRat ((R : Nat) : Int) 144) := by
 have hqv := ht.valid
 have hm : c.raw.rates.length = c.start.length := hqv.2.2.2.1.trans (by simp [CQ.raw])
 have h5 : c.raw.rates.length ≤ 5 := by have := ht.n5; omega
 obtain ⟨hok, ho⟩ := stepOk_of (c := c.raw) hqv (by omega) (tape_big ht) hR0 hR hle (v := []) (by decide)
 have hit := it_over (c := c.raw) hR0 ho (start_over ht) h5
 have hD : ∀ k, 12 * R ^ k ≠ 0 := fun k => Nat.mul_ne_zero (by decide) (Nat.ne_of_gt (Nat.pow_pos (Nat.pos_of_ne_zero hR0)))
 refine ⟨hok.fρ, hok.pos, hle, hok.h1, hok.h2, fun k hk => ?_, fun k hk q hq => ?_, fun k hk p _ m hm5 => ?_⟩
 ·obtain ⟨p1, p2⟩ := pow5 hR0 hR hk
  have h1 : wtF c.raw.rates.length c.raw.rates.length (ztc c.raw (mkRat ((R : Nat) : Int) 144)) ≤ c.raw.rates.length * (c.raw.rates.length * 31) := wtF_le fun i j hi hj =>
   over.wt (a := 16) (b := 15) hR0 (ho i j hi hj) (by decide) (by omega)
  have h2 : c.raw.rates.length * (c.raw.rates.length * 31) ≤ 5 * (5 * 31) := Nat.mul_le_mul h5 (Nat.mul_le_mul_right _ h5)
  have h3 : wts (itV c.raw (mkRat ((R : Nat) : Int) 144) k) ≤ _ := zei (K := 144) fun q hq => (hit k q hq).wt (a := 80) (b := 64) (hD k) p2 p1
  rw [zce hqv] at h3
  unfold wtA
  omega
 ·obtain ⟨p1, p2⟩ := pow5 hR0 hR hk
  exact (hit k q hq).fits (hD k) (Nat.lt_trans p2 (pow_c (by decide))) (Nat.lt_trans p1 (pow_c (by decide)))
 ·obtain ⟨p1, p2⟩ := pow5 hR0 hR hk
  have h1 : over (12 * R ^ k) (m * (48 * 243360 ^ k)) (sg m fun i => if p i then (itV c.raw (mkRat ((R : Nat) : Int) 144) k).getD i 0 else 0) := over.sg (hD k) fun i hi => by
   split
   ·by_cases h2 : i < (itV c.raw (mkRat ((R : Nat) : Int) 144) k).length
    ·rw [List.getD_eq_getElem?_getD, List.getElem?_eq_getElem h2]; exact hit k _ (List.getElem_mem h2)
    ·rw [List.getD_eq_getElem?_getD, List.getElem?_eq_none (by omega)]; exact over.zero _ _
   ·exact over.zero _ _
  have h2 : m * (48 * 243360 ^ k) ≤ 5 * 2 ^ 80 := Nat.mul_le_mul hm5 (Nat.le_of_lt p2)
  exact h1.fits (hD k) (Nat.lt_of_le_of_lt h2 (Nat.lt_trans (show 5 * 2 ^ 80 < 2 ^ 90 by decide +kernel) (pow_c (by decide)))) (Nat.lt_trans p1 (pow_c (by decide)))
theorem MassS.after {c : RC} {ρ : Rat} (h : MassS c ρ) (hv : zla c) {va vx : Value} {w : World} (ha : ChainN w va c) (hx : FracC w vx ρ) {m : Nat} (hm : m ≤ 5) :
 Calls Try.prog 48 #[va, vx, .int .i64 (m : Nat)] w (fun e w' => ∃ v, e = .returned (.tuple #[v, .int .i64 0]) ∧ FracsC w' v (itV c ρ m) ∧ Below w.heap.size w w') :=
 after_ok va vx c _ _ _ ρ m w ha hv hx.raw (posR_of h.fρ h.pos) (fq_self ρ) (by omega) h.le h.h1 h.h2 (fun i hi => h.hw i (by omega))
abbrev cTh : CQ := cTwo (mkRat 1 3)
theorem cTh_r : (cTh.rates.getD 0 []).getD 0 0 = 0 ∧ (cTh.rates.getD 0 []).getD 1 0 = mkRat 1 3 := ⟨rfl, rfl⟩
theorem third_pos : (0 : Rat) < mkRat 1 3 := by decide +kernel
theorem cTh_sure {H T : Nat → Rat} (h : TC cTh H T) : SureQ cTh 0 := fun t ht => by
 have hn : cTh.raw.rates.length = 2 := rfl
 have h1 : FT cTh.raw.rates.length (rq cTh.raw) (zxa cTh.raw) 1 := Clo.base (by decide) rfl
 have h0 : FT cTh.raw.rates.length (rq cTh.raw) (zxa cTh.raw) 0 := Clo.step h1 (by decide) (by
  show 0 < rq cTh.raw 0 1
  rw [zlg, cTh_r.2]
  exact third_pos)
 have hlt := Clo.lt ht
 rw [hn] at hlt
 rcases (show t = 0 ∨ t = 1 by omega) with rfl | rfl
 ·exact h0
 ·exact h1
theorem two_hm {H T : Nat → Rat} (h : TC cTh H T) : stS cTh.raw H = 1 ∧ stS cTh.raw T = 3 ∧ AllS cTh.raw := by
 have l1 := h.lost_h (i := 1) (by decide) rfl
 have e1 := h.eq_h (i := 0) (by decide) rfl
 have e2 := h.eq_t (i := 0) (by decide) rfl (cTh_sure h)
 have hl : cTh.start.length = 2 := rfl
 have s0 : cTh.start.getD 0 0 = 1 := rfl
 have s1 : cTh.start.getD 1 0 = 0 := rfl
 obtain ⟨r0, r1⟩ := cTh_r
 rw [h.sH, h.sT]
 rw [hl] at e1 e2 ⊢
 have m3 : (3 : Rat) * mkRat 1 3 = 1 := by decide +kernel
 simp only [sg, r0, r1, s0, s1, l1.1, l1.2.1] at e1 e2 ⊢
 refine ⟨?_, ?_, h.alls.2 fun s hs h0 => ?_⟩
 ·grind
 ·grind
 ·rw [hl] at hs
  rcases (show s = 0 ∨ s = 1 by omega) with rfl | rfl
  ·exact cTh_sure h
  ·rw [s1] at h0; exact absurd h0 (by decide)
theorem third_R : mkRat ((48 : Nat) : Int) 144 = mkRat 1 3 := by decide +kernel
theorem cTh_mass : MassS cTh.raw (mkRat 1 3) := by
 have h := mass_of (c := cTh) zeh (R := 48) (by decide) (by decide) (by decide +kernel)
 rwa [third_R] at h
theorem cTh_it : itV cTh.raw (mkRat 1 3) 1 = [0, 1] := by decide +kernel
theorem cTh_hit {va : Value} {w : World} (ha : ChainC w va cTh) : Calls Try.prog 16 #[va] w (RF0 w 1) := by
 obtain ⟨H, T, h⟩ := tape_tc zeh
 have k := h.hit_c ha.raw
 rwa [(two_hm h).1] at k
theorem cTh_mean {va : Value} {w : World} (ha : ChainC w va cTh) : Calls Try.prog 17 #[va] w (RF0 w 3) := by
 obtain ⟨H, T, h⟩ := tape_tc zeh
 have k := h.mean_c ha.raw
 rw [(two_hm h).2.1] at k
 exact k.mono fun _ _ h1 => by
  rcases h1 with h1 | ⟨h1, _⟩
  ·exact h1.2
  ·exact absurd (two_hm h).2.2 h1
theorem cTh_after {va vx : Value} {w : World} (ha : ChainC w va cTh) (hx : FracC w vx (mkRat 1 3)) : Calls Try.prog 48 #[va, vx, .int .i64 1] w (fun e w' => ∃ v, e = .returned (.tuple #[v, .int .i64 0]) ∧ FracsC w' v [0, 1] ∧ Below w.heap.size w w') := by
 have k := cTh_mass.after (m := 1) zeh.valid ha.raw hx (by decide)
 rw [cTh_it] at k
 exact k
theorem kept6 {w0 X Y : World} {a1 a2 a3 a4 a5 a6 : Addr} {x1 x2 x3 x4 x5 x6 : Value}
 (h : X.cell? a1 = some x1 ∧ X.cell? a2 = some x2 ∧ X.cell? a3 = some x3 ∧ X.cell? a4 = some x4 ∧ X.cell? a5 = some x5 ∧ X.cell? a6 = some x6 ∧ Below w0.heap.size w0 X)
 (hb : Below X.heap.size X Y) : Y.cell? a1 = some x1 ∧ Y.cell? a2 = some x2 ∧ Y.cell? a3 = some x3 ∧ Y.cell? a4 = some x4 ∧ Y.cell? a5 = some x5 ∧ Y.cell? a6 = some x6 ∧ Below w0.heap.size w0 Y := by
 obtain ⟨k1, k2, k3, k4, k5, k6, k13⟩ := h
 exact ⟨cell_below hb k1, cell_below hb k2, cell_below hb k3, cell_below hb k4, cell_below hb k5, cell_below hb k6, below_then k13 hb⟩
theorem kept6b {w0 X : World} {a1 a2 a3 a4 a5 a6 : Addr} {x1 x2 x3 x4 x5 x6 : Value}
 (h : X.cell? a1 = some x1 ∧ X.cell? a2 = some x2 ∧ X.cell? a3 = some x3 ∧ X.cell? a4 = some x4 ∧ X.cell? a5 = some x5 ∧ X.cell? a6 = some x6 ∧ Below w0.heap.size w0 X) : Below w0.heap.size w0 X := h.2.2.2.2.2.2
theorem keep9 {w0 X Y : World} {a1 a2 a3 a4 a5 a6 a7 a8 a9 : Addr} {x1 x2 x3 x4 x5 x6 x7 x8 x9 : Value} (h : X.cell? a1 = some x1 ∧ X.cell? a2 = some x2 ∧ X.cell? a3 = some x3 ∧ X.cell? a4 = some x4 ∧ X.cell? a5 = some x5 ∧ X.cell? a6 = some x6 ∧ X.cell? a7 = some x7 ∧ X.cell? a8 = some x8 ∧ X.cell? a9 = some x9 ∧ Below w0.heap.size w0 X) (hb : Below X.heap.size X Y) : Y.cell? a1 = some x1 ∧ Y.cell? a2 = some x2 ∧ Y.cell? a3 = some x3 ∧ Y.cell? a4 = some x4 ∧ Y.cell? a5 = some x5 ∧ Y.cell? a6 = some x6 ∧ Y.cell? a7 = some x7 ∧ Y.cell? a8 = some x8 ∧ Y.cell? a9 = some x9 ∧ Below w0.heap.size w0 Y := by
 obtain ⟨k1, k2, k3, k4, k5, k6, k7, k8, k9, k13⟩ := h
 exact ⟨cell_below hb k1, cell_below hb k2, cell_below hb k3, cell_below hb k4, cell_below hb k5, cell_below hb k6, cell_below hb k7, cell_below hb k8, cell_below hb k9, below_then k13 hb⟩
theorem keep9b {w0 X : World} {a1 a2 a3 a4 a5 a6 a7 a8 a9 : Addr} {x1 x2 x3 x4 x5 x6 x7 x8 x9 : Value} (h : X.cell? a1 = some x1 ∧ X.cell? a2 = some x2 ∧ X.cell? a3 = some x3 ∧ X.cell? a4 = some x4 ∧ X.cell? a5 = some x5 ∧ X.cell? a6 = some x6 ∧ X.cell? a7 = some x7 ∧ X.cell? a8 = some x8 ∧ X.cell? a9 = some x9 ∧ Below w0.heap.size w0 X) : Below w0.heap.size w0 X := h.2.2.2.2.2.2.2.2.2
theorem r2int_3 (w : World) : Calls Try.prog 6 #[.int .i64 3] w (RF1 w 3) := by
 have h := r2int_nat 3 w (by decide)
 have e : fq false 3 1 = 3 := by decide +kernel
 rw [e] at h
 exact h
theorem r2make_13 (w : World) : Calls Try.prog 15 #[.int .i64 1, .int .i64 3] w (RF0 w (mkRat 1 3)) := r2make_zz 1 3 1 3 w rfl rfl (by decide) (by decide) (by decide)
set_option maxRecDepth 100000 in
set_option maxHeartbeats 6400000 in
theorem awake21_any (w : World) : Calls Try.prog 19 #[] w (fun e w' => e = .returned (.bool true) ∧ Below w.heap.size w w') := by
 have HB := zH (Below.refl w.heap.size w)
 go_enter Try.func19, Try.ntmps19
 go_upto_region 2 with (first
  |(go_at_call 15; (with_reducible refine (r2make_13 _).mono ?_); rintro e1 w1 ⟨v1, rfl, hv1, hb1⟩
    obtain ⟨t1, x1, y1, rfl, ⟨a11, l11, k11, rfl, _⟩, ⟨a12, l12, k12, rfl, _⟩⟩ := hv1.isF
    have hba := below_alloc w1 (.cells #[.bool t1, .slice a11 l11 k11, .slice a12 l12 k12] 32)
    have hbb := below_then hb1 hba
    have HC1 := zH (C3.new w1 32 (.bool t1) (.slice a11 l11 k11) (.slice a12 l12 k12))
    have HF1 := zH (hv1.below hba)
    replace HB := zH (below_then HB.out hbb)
    clear hv1 hb1 hba hbb))
 obtain ⟨b1, hb1⟩ : ∃ b, w1.heap.size = b := ⟨_, rfl⟩
 rw [hb1] at HC1 ⊢
 clear hb1
 generalize w1.alloc (.cells #[.bool t1, .slice a11 l11 k11, .slice a12 l12 k12] 32) = W1 at *
 obtain ⟨_, c0, c1, c2, _, _, _⟩ := HC1.out
 go_upto_region 3 with (first
  |(go_at_call 47; (with_reducible refine (two_any _ _ _ HF1.out).mono ?_); rintro e2 w2 ⟨v2, rfl, hv2, hb2⟩
    obtain ⟨rv, sv, lv, rfl, hr, hs, hl⟩ := id hv2
    obtain ⟨ra, rn, rk, rfl, _⟩ := id hr.sl
    obtain ⟨sa, sn, sk, rfl, _⟩ := id hs.sl
    obtain ⟨la, ln, lk, rfl, _⟩ := id (CellsV.sl hl)
    have hba := below_alloc w2 (.cells #[.slice ra rn rk, .slice sa sn sk, .slice la ln lk] 45)
    have hbb := below_then hb2 hba
    have HC2 := zH (C3.new w2 45 (.slice ra rn rk) (.slice sa sn sk) (.slice la ln lk))
    have HC := zH (hv2.below hba)
    clear c0 c1 c2
    replace HB := zH (below_then HB.out hbb); replace HC1 := zH (HC1.out.belowS hbb); replace HF1 := zH (HF1.out.below hbb)
    clear hr hs hl hv2 hb2 hba hbb))
 obtain ⟨b2, hb2⟩ : ∃ b, w2.heap.size = b := ⟨_, rfl⟩
 rw [hb2] at HC2 ⊢
 clear hb2
 generalize w2.alloc (.cells #[.slice ra rn rk, .slice sa sn sk, .slice la ln lk] 45) = W2 at *
 obtain ⟨_, c0, c1, c2, _, _, _⟩ := HC2.out
 go_upto_region 4 with (first
  |(go_at_call 17; (with_reducible refine (cTh_mean HC.out).mono ?_); rintro e3 w3 ⟨v3, rfl, hv3, hb3⟩
    clear c0 c1 c2
    obtain ⟨t3, x3, y3, rfl, ⟨a31, l31, k31, rfl, _⟩, ⟨a32, l32, k32, rfl, _⟩⟩ := hv3.isF
    have hba := below_alloc w3 (.cells #[.bool t3, .slice a31 l31 k31, .slice a32 l32 k32] 32)
    have hbb := below_then hb3 hba
    have HC3 := zH (C3.new w3 32 (.bool t3) (.slice a31 l31 k31) (.slice a32 l32 k32))
    have HF3 := zH (hv3.below hba)
    replace HB := zH (below_then HB.out hbb); replace HC1 := zH (HC1.out.belowS hbb); replace HF1 := zH (HF1.out.below hbb); replace HC2 := zH (HC2.out.belowS hbb); replace HC := zH (HC.out.below hbb)
    clear hv3 hb3 hba hbb))
 obtain ⟨b3, hb3⟩ : ∃ b, w3.heap.size = b := ⟨_, rfl⟩
 rw [hb3] at HC3 ⊢
 clear hb3
 generalize w3.alloc (.cells #[.bool t3, .slice a31 l31 k31, .slice a32 l32 k32] 32) = W3 at *
 obtain ⟨_, c0, c1, c2, _, _, _⟩ := HC2.out
 go_upto_region 5 with (first
  |(go_at_call 16; (with_reducible refine (cTh_hit HC.out).mono ?_); rintro e4 w4 ⟨v4, rfl, hv4, hb4⟩
    clear c0 c1 c2
    obtain ⟨t4, x4, y4, rfl, ⟨a41, l41, k41, rfl, _⟩, ⟨a42, l42, k42, rfl, _⟩⟩ := hv4.isF
    have hba := below_alloc w4 (.cells #[.bool t4, .slice a41 l41 k41, .slice a42 l42 k42] 32)
    have hbb := below_then hb4 hba
    have HC4 := zH (C3.new w4 32 (.bool t4) (.slice a41 l41 k41) (.slice a42 l42 k42))
    have HF4 := zH (hv4.below hba)
    replace HB := zH (below_then HB.out hbb); replace HC1 := zH (HC1.out.belowS hbb); replace HF1 := zH (HF1.out.below hbb); replace HC2 := zH (HC2.out.belowS hbb); replace HC := zH (HC.out.below hbb); replace HC3 := zH (HC3.out.belowS hbb); replace HF3 := zH (HF3.out.below hbb)
    clear hv4 hb4 hba hbb))
 obtain ⟨b4, hb4⟩ : ∃ b, w4.heap.size = b := ⟨_, rfl⟩
 rw [hb4] at HC4 ⊢
 clear hb4
 generalize w4.alloc (.cells #[.bool t4, .slice a41 l41 k41, .slice a42 l42 k42] 32) = W4 at *
 obtain ⟨_, c0, c1, c2, _, _, _⟩ := HC2.out
 obtain ⟨_, d0, d1, d2, _, _, _⟩ := HC1.out
 go_upto_region 6 with (first
  |(go_at_call 48; (with_reducible refine (cTh_after HC.out HF1.out).mono ?_); rintro e5 w5 ⟨v5, rfl, hv5, hb5⟩
    clear c0 c1 c2 d0 d1 d2
    have HV5 := zH hv5
    replace HB := zH (below_then HB.out hb5); replace HC3 := zH (HC3.out.belowS hb5); replace HF3 := zH (HF3.out.below hb5); replace HC4 := zH (HC4.out.belowS hb5); replace HF4 := zH (HF4.out.below hb5)
    obtain ⟨va5, vn5, vk5, rfl, _⟩ := id hv5.sl
    clear hv5 hb5))
 clear HC1 HF1 HC2 HC
 go_upto_region 7 with (first
  |(go_at_call 16; (with_reducible refine (hit_bad _ ⟨[], [], []⟩ _ (zero_chain _) zero_bad).mono ?_); rintro e6 w6 ⟨rfl, hb6⟩
    have hba := below_alloc w6 (.cells #[.bool false, .slice none 0 0, .slice none 0 0] 32)
    have hbb := below_then hb6 hba
    replace HB := zH (below_then HB.out hbb); replace HC3 := zH (HC3.out.belowS hbb); replace HF3 := zH (HF3.out.below hbb); replace HC4 := zH (HC4.out.belowS hbb); replace HF4 := zH (HF4.out.below hbb); replace HV5 := zH (HV5.out.below hbb)
    clear hb6 hba hbb))
 generalize w6.alloc (.cells #[.bool false, .slice none 0 0, .slice none 0 0] 32) = W6 at *
 obtain ⟨_, c0, c1, c2, _, _, _⟩ := HC3.out
 obtain ⟨_, d0, d1, d2, _, _, _⟩ := HC4.out
 have S0 := zH (And.intro c0 (And.intro c1 (And.intro c2 (And.intro d0 (And.intro d1 (And.intro d2 (Below.refl W6.heap.size W6)))))))
 clear c0 c1 c2 d0 d1 d2 HC3 HC4
 have sv5 := HV5.out.sl
 go_region_held3 (fun w' => w'.cell? ⟨b3, 0, none⟩ = some (.bool t3) ∧ w'.cell? ⟨b3, 1, none⟩ = some (.slice a31 l31 k31) ∧ w'.cell? ⟨b3, 2, none⟩ = some (.slice a32 l32 k32) ∧
  w'.cell? ⟨b4, 0, none⟩ = some (.bool t4) ∧ w'.cell? ⟨b4, 1, none⟩ = some (.slice a41 l41 k41) ∧ w'.cell? ⟨b4, 2, none⟩ = some (.slice a42 l42 k42) ∧
  Below W6.heap.size W6 w') (first
  | with_reducible exact kept6 S0.out (below_drew _)
  | with_reducible exact kept6 (by assumption) (below_alloc _ _)
  | with_reducible exact kept6 (by assumption) (by assumption)) (first
  |(go_at_call 6; (with_reducible refine (r2int_3 _).mono ?_); rintro e7 w7 ⟨v7, rfl, hv7, hb7⟩)
  |(go_at_call 6; (with_reducible refine (r2int_zero _).mono ?_); rintro e8 w8 ⟨v8, rfl, hv8, hb8⟩; obtain ⟨t8, x8, y8, rfl, ⟨a81, l81, k81, rfl, _⟩, ⟨a82, l82, k82, rfl, _⟩⟩ := hv8.isF)
  |(go_at_call 6; (with_reducible refine (r2int_one _).mono ?_); rintro e9 w9 ⟨v9, rfl, hv9, hb9⟩; obtain ⟨t9, x9, y9, rfl, ⟨a91, l91, k91, rfl, _⟩, ⟨a92, l92, k92, rfl, _⟩⟩ := hv9.isF)
  |(go_at_call 18; (with_reducible refine (same_frac _ _ 3 3 _ (HF3.out.below (kept6b (by assumption))) hv7).mono ?_); rintro e10 w10 ⟨⟨q10, rfl, hq10⟩, hb10⟩; obtain rfl : q10 = true := hq10.2 rfl; clear hq10 hv7)
  |(go_at_call 18; (with_reducible refine (same_frac _ _ 1 1 _ (HF4.out.below (kept6b (by assumption))) (by first | assumption | exact hv9)).mono ?_); rintro e11 w11 ⟨⟨q11, rfl, hq11⟩, hb11⟩; obtain rfl : q11 = true := hq11.2 rfl; clear hq11)
  |(go_at_call 49; (with_reducible refine (same_fracs _ _ [0, 1] [0, 1] _ (HV5.out.below (kept6b (by assumption))) (FracsC.lit2 rfl (hv8.below (by assumption)) (by assumption))).mono ?_); rintro e12 w12 ⟨⟨q12, rfl, hq12⟩, hb12⟩; obtain rfl : q12 = true := hq12.2 rfl; clear hq12))
 all_goals
  have hEnd := kept6b (by assumption)
  go_wp2_with fail
  go_ret
  exact ⟨rfl, below_then HB.out hEnd⟩
end Go.Proofs.Ytlpdkbmmbdfoiaa
namespace Go.Proofs.Ytlpdkbmmbdfoiaa
open Go.ChangeShapes Go.WideShapes Go.ChangeAt Go.RowKit
section
variable {H : Type} {enc : TypeId × Value → H} {P : Program}
theorem trodAll_stays (hl : laidOutB P = true) {W W' : World} (hb : Below W.heap.size W W') : ∀ {ts : List TypeId} {vs : List Value} {ds : List (DataW H)} {ps : List MemPlace}, (ts.all fun t => P.readableRec t && decide (t < P.types.size)) = true →
 DataW.TrodAll enc P W 0 (fun _ => true) true ts vs ds ps → (∀ x ∈ ps, x.block < W.heap.size) → DataW.TrodAll enc P W' 0 (fun b => decide (b < W.heap.size)) true ts vs ds ps
 | [], vs, ds, ps, _, h, _ => by
   obtain ⟨rfl, rfl, rfl⟩ := trodAll_nil h
   exact trodAll_mk0
 | t :: ts, vs, ds, ps, hr, h, hlt => by
   obtain ⟨v, vs', d, ds', p, q, rfl, rfl, rfl, h1, h2⟩ := trodAll_cons h
   simp only [List.all_cons, Bool.and_eq_true, decide_eq_true_eq] at hr
   obtain ⟨⟨r1, r2⟩, r3⟩ := hr
   exact trodAll_cons_mk (Below.trod hl r1 r2 h1 hb fun x hx => hlt x (List.mem_append_left _ hx)) (trodAll_stays hl hb (ts := ts) r3 h2 fun x hx => hlt x (List.mem_append_right _ hx))
theorem i8_in {W : World} {a : Addr} {len cap : Nat} {zs : List Int} (hl : len ≤ cap) (hm : cap ≤ maxLen) (hz : zs.length = cap) (hcell : ∀ i, i < zs.length → W.cell? (a.add i) = some (.int .i8 (zs.getD i 0))) (hwz : ∀ n ∈ zs, (Lit.int .i8 n).wf = true) :
 I8V W (.slice (some a) len cap) (zs.take len) := by
 have hb : ∀ n ∈ zs, -128 ≤ n ∧ n ≤ 127 := fun n hn => by
  have := hwz n hn
  simp [Lit.wf, IntKind.min, IntKind.max, IntKind.signed, IntKind.bits] at this
  omega
 refine ⟨⟨⟨a, len, cap, rfl, hl, hm, fun e => by cases e⟩, by simp [slen]; omega, fun j hj => ?_⟩, fun x hx => hb x (List.mem_of_mem_take hx)⟩
 have hj2 : j < len := by simp at hj; omega
 have hj3 : j < zs.length := by omega
 have h1 := hcell j hj3
 have e1 : zs.getD j 0 = zs[j] := by simp [List.getD, List.getElem?_eq_getElem hj3]
 rw [e1] at h1
 simp only [ptr, base, List.getElem_map, List.getElem_take]
 exact h1
end
section
variable {H : Type} {enc : TypeId × Value → H}
set_option maxRecDepth 100000 in
theorem u8_came {W : World} {base : Nat} {v : Value} {d : DataW H} {p : List MemPlace} (hv : Value.okWide Try.prog W .any base 5 v) (h : DataW.Trod enc Try.prog W 0 (fun _ => true) true 5 v d p) : ∃ x : Nat, v = .int .u8 x ∧ x < 256 := by
 obtain ⟨n, rfl, rfl, rfl, hwn⟩ := open_int Try.underlying5 hv h
 have hn : 0 ≤ n ∧ n < 256 := by
  simp [Lit.wf, IntKind.min, IntKind.max, IntKind.signed, IntKind.bits] at hwn
  omega
 exact ⟨n.toNat, by congr 1; omega, by omega⟩
end
end Go.Proofs.Ytlpdkbmmbdfoiaa
