-- Laid by myprint.py (a program of this session's, over the kit's printer and with functions proved by hand)
import Derived.Test.YtcjgmofgfblmnaaTy
namespace Go.Proofs.Ytcjgmofgfblmnaa.Q
open Go.RowKit Go.Proofs.YtcjgmofgfblmnaaW.PrintWords Go.Proofs.YtcjgmofgfblmnaaW.PrintLast Go.Proofs.YtcjgmofgfblmnaaW.PrintMore
attribute [local go_sem] max2_int min2_int max_two min_two max_three min_three max_four min_four   -- for this text's walks alone
set_option linter.unusedVariables false
set_option linter.unusedSimpArgs false

/-! ### sleuthlaw45_midrank: function 21 -/
def sleuthlaw45_midrank.l0 : Nat → List Int → Int → Int → Int → Int → Option (Int)
 | 0, _, _, _, _, _ => none
 | k + 1, x0, x1, x5, x6, x7 => if x7 < (x0.length : Int) then (if 0 ≤ x7 then (if (rd x0 x7) < x1 then (if (rd x0 x7) = x1 then (sleuthlaw45_midrank.l0 k x0 x1 (wrap64 (x5 + 1)) (wrap64 (x6 + 1)) (wrap64 (x7 + 1))) else (sleuthlaw45_midrank.l0 k x0 x1 (wrap64 (x5 + 1)) x6 (wrap64 (x7 + 1)))) else (if (rd x0 x7) = x1 then (sleuthlaw45_midrank.l0 k x0 x1 x5 (wrap64 (x6 + 1)) (wrap64 (x7 + 1))) else (sleuthlaw45_midrank.l0 k x0 x1 x5 x6 (wrap64 (x7 + 1))))) else (none)) else (some (wrap64 ((wrap64 ((wrap64 (2 * x5)) + 1)) + x6)))
def sleuthlaw45_midrank.f (k : Nat) (l0 : List Int) (a1 : Int) : Option (Int) := sleuthlaw45_midrank.l0 k l0 a1 0 0 0
theorem sleuthlaw45_midrank.mono_l : ∀ k, (∀ y0 y1 y2 y3 y4, LeO (sleuthlaw45_midrank.l0 k y0 y1 y2 y3 y4) (sleuthlaw45_midrank.l0 (k + 1) y0 y1 y2 y3 y4))
 | 0 => fun _ _ _ _ _ r h => by simp [sleuthlaw45_midrank.l0] at h
 | k + 1 => by
  have ih0 := sleuthlaw45_midrank.mono_l k
  ·intro y0 y1 y2 y3 y4
   unfold sleuthlaw45_midrank.l0
   repeat' first
   | (with_reducible exact ih0 _ _ _ _ _)
   | (with_reducible exact LeO.refl _)
   | (with_reducible exact LeO.none _)
   | (with_reducible refine LeO.ite ?_ ?_)
   | (with_reducible refine LeO.bind ?_ (fun _ => ?_))
   | exact ih0 _ _ _ _ _
   | exact LeO.none _
   | refine LeO.ite ?_ ?_
   | refine LeO.bind ?_ (fun _ => ?_)
theorem sleuthlaw45_midrank.mono : ∀ a0 a1 k, LeO (sleuthlaw45_midrank.f k a0 a1) (sleuthlaw45_midrank.f (k + 1) a0 a1) := by
 intro a0 a1 k
 have ih0 := sleuthlaw45_midrank.mono_l k
 unfold sleuthlaw45_midrank.f
 repeat' first
   | (with_reducible exact ih0 _ _ _ _ _)
   | (with_reducible exact LeO.refl _)
   | (with_reducible exact LeO.none _)
   | (with_reducible refine LeO.ite ?_ ?_)
   | (with_reducible refine LeO.bind ?_ (fun _ => ?_))
   | exact ih0 _ _ _ _ _
   | exact LeO.none _
   | refine LeO.ite ?_ ?_
   | refine LeO.bind ?_ (fun _ => ?_)
set_option maxHeartbeats 8000000 in
set_option maxRecDepth 100000 in
theorem sleuthlaw45_midrank.calls (k : Nat) (A0 : Option Addr) (c0 : Nat) (l0 : List Int) (a1 : Int) (r : Int) (w : World) (hr0 : Kd.C (Kd.int .i64) w A0 l0.length l0) (hc0 : l0.length ≤ c0) (h : sleuthlaw45_midrank.f k l0 a1 = some r) :
  Calls Try.prog 21 #[.slice A0 l0.length c0, .int .i64 a1] w fun e w' => e = .returned (.int .i64 r) ∧ Drawn0 w w' := by
 have HR0 := Aside0.mk hr0
 have HC0 := Aside0.mk hc0
 clear hr0 hc0
 have H : (sleuthlaw45_midrank.l0 k l0 a1 0 0 0) = some r := h
 clear h
 have H' := Aside0.mk H
 clear H
 go_enter Try.func21, Try.ntmps21
 go_wp2
 go_loopg [5, 6, 7] k (fun kq v5 v6 v7 w' => ∃ (x5_1 : Int) (x6_1 : Int) (x7_1 : Int), v5 = .int .i64 x5_1 ∧ v6 = .int .i64 x6_1 ∧ v7 = .int .i64 x7_1 ∧ Aside0 (sleuthlaw45_midrank.l0 kq l0 a1 x5_1 x6_1 x7_1 = some r) ∧ Aside0 (kq ≤ k) ∧ Drawn0 w w')
 case atStart => exact ⟨(0), (0), (0), (by first | rfl | (simp; done) | (simp [*]; done)), (by first | rfl | (simp; done) | (simp [*]; done)), (by first | rfl | (simp; done) | (simp [*]; done)), H', ⟨Nat.le_refl _⟩, by repeat (first | exact Drawn0.refl _ | apply Drawn0.step)⟩
 case round =>
  clear H'
  try clear c2
  try clear p2
  obtain ⟨x5_1, x6_1, x7_1, rfl, rfl, rfl, HA, HK1, ⟨m1, rfl⟩⟩ := hrel
  cases gk with
  | zero => exact absurd HA.out (by simp [sleuthlaw45_midrank.l0])
  | succ k1 =>
   have H := HA.out
   clear HA
   simp only [sleuthlaw45_midrank.l0] at H
   by_cases c3 : x7_1 < (l0.length : Int)
   ·rw [if_pos c3] at H
    have c3b0 : decide (x7_1 < (l0.length : Int)) = true := decide_eq_true c3
    clear c3
    by_cases c4 : 0 ≤ x7_1
    ·rw [if_pos c4] at H
     have c4b0 : decide (0 ≤ x7_1) = true := decide_eq_true c4
     clear c4
     by_cases c5 : (rd l0 x7_1) < a1
     ·rw [if_pos c5] at H
      have c5b0 : decide ((rd l0 x7_1) < a1) = true := decide_eq_true c5
      clear c5
      by_cases c6 : (rd l0 x7_1) = a1
      ·rw [if_pos c6] at H
       have c6b0 : ((rd l0 x7_1) == a1) = true := beq_iff_eq.mpr c6
       have c6b1 : ((rd l0 x7_1) != a1) = false := bne_eq_false_iff_eq.mpr c6
       clear c6
       have H' := Aside0.mk H
       clear H
       have p662 : 0 ≤ (x7_1 : Int) := of_decide_eq_true (by first | (with_reducible assumption) | assumption)
       have q662 : x7_1 < (l0.length : Int) := of_decide_eq_true (by first | (with_reducible assumption) | assumption)
       obtain ⟨ad662, e662, hx662_0⟩ := Kd.at_int HR0.out x7_1 p662 q662
       cases e662
       replace p662 := eq_true p662
       replace q662 := eq_true q662
       have p663 : 0 ≤ (x7_1 : Int) := of_decide_eq_true (by first | (with_reducible assumption) | assumption)
       have q663 : x7_1 < (l0.length : Int) := of_decide_eq_true (by first | (with_reducible assumption) | assumption)
       obtain ⟨ad663, e663, hx663_0⟩ := Kd.at_int HR0.out x7_1 p663 q663
       obtain rfl : ad662 = ad663 := (by injection e663)
       replace p663 := eq_true p663
       replace q663 := eq_true q663
       go_wp2
       go_roundg k1
       case measure => have := HK1.out; omega
       case rel => exact ⟨(wrap64 (x5_1 + 1)), (wrap64 (x6_1 + 1)), (wrap64 (x7_1 + 1)), (by first | rfl | (simp; done) | (simp [*]; done)), (by first | rfl | (simp; done) | (simp [*]; done)), (by first | rfl | (simp; done) | (simp [*]; done)), H', ⟨by have := HK1.out; omega⟩, by repeat (first | exact Drawn0.refl _ | apply Drawn0.step)⟩
      ·rw [if_neg c6] at H
       have c6b0 : ((rd l0 x7_1) == a1) = false := beq_eq_false_iff_ne.mpr c6
       have c6b1 : ((rd l0 x7_1) != a1) = true := bne_iff_ne.mpr c6
       have H' := Aside0.mk H
       clear H
       have p662 : 0 ≤ (x7_1 : Int) := of_decide_eq_true (by first | (with_reducible assumption) | assumption)
       have q662 : x7_1 < (l0.length : Int) := of_decide_eq_true (by first | (with_reducible assumption) | assumption)
       obtain ⟨ad662, e662, hx662_0⟩ := Kd.at_int HR0.out x7_1 p662 q662
       cases e662
       replace p662 := eq_true p662
       replace q662 := eq_true q662
       have p663 : 0 ≤ (x7_1 : Int) := of_decide_eq_true (by first | (with_reducible assumption) | assumption)
       have q663 : x7_1 < (l0.length : Int) := of_decide_eq_true (by first | (with_reducible assumption) | assumption)
       obtain ⟨ad663, e663, hx663_0⟩ := Kd.at_int HR0.out x7_1 p663 q663
       obtain rfl : ad662 = ad663 := (by injection e663)
       replace p663 := eq_true p663
       replace q663 := eq_true q663
       go_wp2
       go_roundg k1
       case measure => have := HK1.out; omega
       case rel => exact ⟨(wrap64 (x5_1 + 1)), (x6_1), (wrap64 (x7_1 + 1)), (by first | rfl | (simp; done) | (simp [*]; done)), (by first | rfl | (simp; done) | (simp [*]; done)), (by first | rfl | (simp; done) | (simp [*]; done)), H', ⟨by have := HK1.out; omega⟩, by repeat (first | exact Drawn0.refl _ | apply Drawn0.step)⟩
     ·rw [if_neg c5] at H
      have c5b0 : decide ((rd l0 x7_1) < a1) = false := decide_eq_false c5
      clear c5
      by_cases c7 : (rd l0 x7_1) = a1
      ·rw [if_pos c7] at H
       have c7b0 : ((rd l0 x7_1) == a1) = true := beq_iff_eq.mpr c7
       have c7b1 : ((rd l0 x7_1) != a1) = false := bne_eq_false_iff_eq.mpr c7
       clear c7
       have H' := Aside0.mk H
       clear H
       have p662 : 0 ≤ (x7_1 : Int) := of_decide_eq_true (by first | (with_reducible assumption) | assumption)
       have q662 : x7_1 < (l0.length : Int) := of_decide_eq_true (by first | (with_reducible assumption) | assumption)
       obtain ⟨ad662, e662, hx662_0⟩ := Kd.at_int HR0.out x7_1 p662 q662
       cases e662
       replace p662 := eq_true p662
       replace q662 := eq_true q662
       have p664 : 0 ≤ (x7_1 : Int) := of_decide_eq_true (by first | (with_reducible assumption) | assumption)
       have q664 : x7_1 < (l0.length : Int) := of_decide_eq_true (by first | (with_reducible assumption) | assumption)
       obtain ⟨ad664, e664, hx664_0⟩ := Kd.at_int HR0.out x7_1 p664 q664
       obtain rfl : ad662 = ad664 := (by injection e664)
       replace p664 := eq_true p664
       replace q664 := eq_true q664
       go_wp2
       go_roundg k1
       case measure => have := HK1.out; omega
       case rel => exact ⟨(x5_1), (wrap64 (x6_1 + 1)), (wrap64 (x7_1 + 1)), (by first | rfl | (simp; done) | (simp [*]; done)), (by first | rfl | (simp; done) | (simp [*]; done)), (by first | rfl | (simp; done) | (simp [*]; done)), H', ⟨by have := HK1.out; omega⟩, by repeat (first | exact Drawn0.refl _ | apply Drawn0.step)⟩
      ·rw [if_neg c7] at H
       have c7b0 : ((rd l0 x7_1) == a1) = false := beq_eq_false_iff_ne.mpr c7
       have c7b1 : ((rd l0 x7_1) != a1) = true := bne_iff_ne.mpr c7
       have H' := Aside0.mk H
       clear H
       have p662 : 0 ≤ (x7_1 : Int) := of_decide_eq_true (by first | (with_reducible assumption) | assumption)
       have q662 : x7_1 < (l0.length : Int) := of_decide_eq_true (by first | (with_reducible assumption) | assumption)
       obtain ⟨ad662, e662, hx662_0⟩ := Kd.at_int HR0.out x7_1 p662 q662
       cases e662
       replace p662 := eq_true p662
       replace q662 := eq_true q662
       have p664 : 0 ≤ (x7_1 : Int) := of_decide_eq_true (by first | (with_reducible assumption) | assumption)
       have q664 : x7_1 < (l0.length : Int) := of_decide_eq_true (by first | (with_reducible assumption) | assumption)
       obtain ⟨ad664, e664, hx664_0⟩ := Kd.at_int HR0.out x7_1 p664 q664
       obtain rfl : ad662 = ad664 := (by injection e664)
       replace p664 := eq_true p664
       replace q664 := eq_true q664
       go_wp2
       go_roundg k1
       case measure => have := HK1.out; omega
       case rel => exact ⟨(x5_1), (x6_1), (wrap64 (x7_1 + 1)), (by first | rfl | (simp; done) | (simp [*]; done)), (by first | rfl | (simp; done) | (simp [*]; done)), (by first | rfl | (simp; done) | (simp [*]; done)), H', ⟨by have := HK1.out; omega⟩, by repeat (first | exact Drawn0.refl _ | apply Drawn0.step)⟩
    ·rw [if_neg c4] at H
     exact absurd H (by simp)
   ·rw [if_neg c3] at H
    have c3b0 : decide (x7_1 < (l0.length : Int)) = false := decide_eq_false c3
    clear c3
    obtain rfl := Option.some.inj H
    go_wp2
    go_ret
    exact ⟨by first | rfl | (simp; done) | (simp [*]; done), by repeat (first | exact Drawn0.refl _ | apply Drawn0.step)⟩

end Go.Proofs.Ytcjgmofgfblmnaa.Q
