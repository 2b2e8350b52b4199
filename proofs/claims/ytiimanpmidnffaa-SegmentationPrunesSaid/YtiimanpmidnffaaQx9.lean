-- Laid by myprint.py (a program of this session's, over the kit's printer and with functions proved by hand)
import Derived.Test.YtiimanpmidnffaaQx0
import Derived.Test.YtiimanpmidnffaaQx8
namespace Go.Proofs.Ytiimanpmidnffaa.Q
open Go.RowKit Go.Proofs.YtiimanpmidnffaaW.PrintWords Go.Proofs.YtiimanpmidnffaaW.PrintLast Go.Proofs.YtiimanpmidnffaaW.PrintMore
attribute [local go_sem] max2_int min2_int max_two min_two max_three min_three max_four min_four   -- for this text's walks alone
set_option linter.unusedVariables false
set_option linter.unusedSimpArgs false

theorem qx9_0 {p : Prop} (h : p := by repeat (first | (with_reducible first | exact HB.out | apply below_alloc | apply pw_below_drewN | apply below_drew1) | exact HB.out)) : p := h
theorem qx9_1 {p : Prop} (h : p := by first | rfl | (simp; done) | (simp [*]; done)) : p := h
theorem qx9_2 {p : Prop} (h : p := by first | (with_reducible assumption) | assumption) : p := h
theorem qx9_3 {p : Prop} (h : p := by (try simp only [List.map_toArray, List.map_cons, List.map_nil]); first | done | rfl | (simp only [List.length_drop, List.length_take]; rfl)) : p := h
theorem qx9_4 {p : Prop} (h : p := by repeat (first | exact Drawn0.refl _ | apply Drawn0.step)) : p := h
theorem qx9_5 {p : Prop} (h : p := by first | rfl | (simp [errW_none, errW_some] <;> rfl) | (simp [*, errW_none, errW_some] <;> rfl)) : p := h
theorem qx9_6 {p : Prop} (h : p := by (with_reducible repeat (first | apply Kd.R_alloc | apply Kd.R_drewN | apply Kd.R_drew)); exact HO_5.out) : p := h
theorem qx9_7 {p : Prop} (h : p := by repeat (first | (with_reducible exact HR343_0.out) | (with_reducible refine Kd.C_alloc ?_ _) | (with_reducible refine Kd.C_drewN ?_ _) | (with_reducible refine Kd.C_drew ?_) | exact HR343_0.out)) : p := h
theorem qx9_8 {p : Prop} (h : p := by have := HK1.out; have := HK2.out; omega) : p := h
theorem qx9_9 {p : Prop} (h : p := by repeat (first | exact HR0.out | (with_reducible refine Kd.C_alloc ?_ _) | (with_reducible refine Kd.C_drewN ?_ _) | (with_reducible refine Kd.C_drew ?_))) : p := h
theorem qx9_10 {p : Prop} (h : p := by repeat (first | exact HR2.out | (with_reducible refine Kd.C_alloc ?_ _) | (with_reducible refine Kd.C_drewN ?_ _) | (with_reducible refine Kd.C_drew ?_))) : p := h
/-! ### sleuthlaw44_median: function 30 -/
mutual
def sleuthlaw44_median.l0 : Nat → List Int → Bool → Int → Int → Option (Int)
 | 0, _, _, _, _ => none
 | k + 1, x0, x3, x4, x5 => if x5 < (x0.length : Int) then (sleuthlaw44_median.l1 k x0 x3 x4 x5 0 0) else (some x4)
def sleuthlaw44_median.l1 : Nat → List Int → Bool → Int → Int → Int → Int → Option (Int)
 | 0, _, _, _, _, _, _ => none
 | k + 1, x0, x3, x4, x5, x6, x7 => if x7 < (x0.length : Int) then (if 0 ≤ x7 then (if 0 ≤ x5 then (if x5 < (x0.length : Int) then (if (rd x0 x7) ≤ (rd x0 x5) then (sleuthlaw44_median.l1 k x0 x3 x4 x5 (wrap64 (x6 + 1)) (wrap64 (x7 + 1))) else (sleuthlaw44_median.l1 k x0 x3 x4 x5 x6 (wrap64 (x7 + 1)))) else (none)) else (none)) else (none)) else (if (wrap64 (2 * x6)) ≥ (x0.length : Int) then (if x3 = true then (if 0 ≤ x5 then (if x5 < (x0.length : Int) then (if (rd x0 x5) < x4 then (sleuthlaw44_median.l0 k x0 true (rd x0 x5) (wrap64 (x5 + 1))) else (sleuthlaw44_median.l0 k x0 x3 x4 (wrap64 (x5 + 1)))) else (none)) else (none)) else (if 0 ≤ x5 then (if x5 < (x0.length : Int) then (sleuthlaw44_median.l0 k x0 true (rd x0 x5) (wrap64 (x5 + 1))) else (none)) else (none))) else (sleuthlaw44_median.l0 k x0 x3 x4 (wrap64 (x5 + 1))))
end
def sleuthlaw44_median.f (k : Nat) (l0 : List Int) : Option (Int) := sleuthlaw44_median.l0 k l0 false 0 0
theorem sleuthlaw44_median.mono_l : ∀ k, (∀ y0 y1 y2 y3, LeO (sleuthlaw44_median.l0 k y0 y1 y2 y3) (sleuthlaw44_median.l0 (k + 1) y0 y1 y2 y3)) ∧ (∀ y0 y1 y2 y3 y4 y5, LeO (sleuthlaw44_median.l1 k y0 y1 y2 y3 y4 y5) (sleuthlaw44_median.l1 (k + 1) y0 y1 y2 y3 y4 y5))
 | 0 => ⟨fun _ _ _ _ r h => by simp [sleuthlaw44_median.l0] at h, fun _ _ _ _ _ _ r h => by simp [sleuthlaw44_median.l1] at h⟩
 | k + 1 => by
  obtain ⟨ih0, ih1⟩ := sleuthlaw44_median.mono_l k
  refine ⟨?_, ?_⟩
  ·intro y0 y1 y2 y3
   unfold sleuthlaw44_median.l0
   repeat' first
   | (with_reducible exact ih0 _ _ _ _)
   | (with_reducible exact ih1 _ _ _ _ _ _)
   | (with_reducible exact LeO.refl _)
   | (with_reducible exact LeO.none _)
   | (with_reducible refine LeO.ite ?_ ?_)
   | (with_reducible refine LeO.bind ?_ (fun _ => ?_))
   | exact ih0 _ _ _ _
   | exact ih1 _ _ _ _ _ _
   | exact LeO.none _
   | refine LeO.ite ?_ ?_
   | refine LeO.bind ?_ (fun _ => ?_)
  ·intro y0 y1 y2 y3 y4 y5
   unfold sleuthlaw44_median.l1
   repeat' first
   | (with_reducible exact ih0 _ _ _ _)
   | (with_reducible exact ih1 _ _ _ _ _ _)
   | (with_reducible exact LeO.refl _)
   | (with_reducible exact LeO.none _)
   | (with_reducible refine LeO.ite ?_ ?_)
   | (with_reducible refine LeO.bind ?_ (fun _ => ?_))
   | exact ih0 _ _ _ _
   | exact ih1 _ _ _ _ _ _
   | exact LeO.none _
   | refine LeO.ite ?_ ?_
   | refine LeO.bind ?_ (fun _ => ?_)
theorem sleuthlaw44_median.mono : ∀ a0 k, LeO (sleuthlaw44_median.f k a0) (sleuthlaw44_median.f (k + 1) a0) := by
 intro a0 k
 obtain ⟨ih0, ih1⟩ := sleuthlaw44_median.mono_l k
 unfold sleuthlaw44_median.f
 repeat' first
   | (with_reducible exact ih0 _ _ _ _)
   | (with_reducible exact ih1 _ _ _ _ _ _)
   | (with_reducible exact LeO.refl _)
   | (with_reducible exact LeO.none _)
   | (with_reducible refine LeO.ite ?_ ?_)
   | (with_reducible refine LeO.bind ?_ (fun _ => ?_))
   | exact ih0 _ _ _ _
   | exact ih1 _ _ _ _ _ _
   | exact LeO.none _
   | refine LeO.ite ?_ ?_
   | refine LeO.bind ?_ (fun _ => ?_)
set_option maxHeartbeats 8000000 in
set_option maxRecDepth 100000 in
theorem sleuthlaw44_median.calls (k : Nat) (A0 : Option Addr) (c0 : Nat) (l0 : List Int) (r : Int) (w : World) (hr0 : Kd.C (Kd.int .i64) w A0 l0.length l0) (hc0 : l0.length ≤ c0) (h : sleuthlaw44_median.f k l0 = some r) :
  Calls Try.prog 30 #[.slice A0 l0.length c0] w fun e w' => e = .returned (.int .i64 r) ∧ Drawn0 w w' := by
 have HR0 := Aside0.mk hr0
 have HC0 := Aside0.mk hc0
 clear hr0 hc0
 have H : (sleuthlaw44_median.l0 k l0 false 0 0) = some r := h
 clear h
 have H' := Aside0.mk H
 clear H
 go_enter Try.func30, Try.ntmps30
 go_wp2
 repeat (go_quiet (fail); try go_wp2)
 go_loopg [3, 4, 5] k (fun kq v3 v4 v5 w' => ∃ (x3_1 : Bool) (x4_1 : Int) (x5_1 : Int), v3 = .bool x3_1 ∧ v4 = .int .i64 x4_1 ∧ v5 = .int .i64 x5_1 ∧ Aside0 (sleuthlaw44_median.l0 kq l0 x3_1 x4_1 x5_1 = some r) ∧ Aside0 (kq ≤ k) ∧ Drawn0 w w')
 case atStart => exact ⟨(false), (0), (0), qx9_1, qx9_1, qx9_1, H', ⟨Nat.le_refl _⟩, qx9_4⟩
 clear H'
 obtain ⟨x3_1, x4_1, x5_1, rfl, rfl, rfl, HA, HK1, ⟨m1, rfl⟩⟩ := hrel
 cases gk with
 | zero => exact absurd HA.out (by simp [sleuthlaw44_median.l0])
 | succ k1 =>
  have H := HA.out
  clear HA
  simp only [sleuthlaw44_median.l0] at H
  by_cases c2 : x5_1 < (l0.length : Int)
  rotate_left
  ·rw [if_neg c2] at H
   have c2b0 : decide (x5_1 < (l0.length : Int)) = false := decide_eq_false c2
   clear c2
   obtain rfl := Option.some.inj H
   go_wp2
   repeat (go_quiet (fail); try go_wp2)
   go_ret
   exact ⟨qx9_1, qx9_4⟩
  rw [if_pos c2] at H
  have c2b0 : decide (x5_1 < (l0.length : Int)) = true := decide_eq_true c2
  clear c2
  have H' := Aside0.mk H
  clear H
  go_wp2
  repeat (go_quiet (fail); try go_wp2)
  go_loopg [6, 7] k1 (fun kq v6 v7 w' => ∃ (x6_2 : Int) (x7_2 : Int), v6 = .int .i64 x6_2 ∧ v7 = .int .i64 x7_2 ∧ Aside0 (sleuthlaw44_median.l1 kq l0 x3_1 x4_1 x5_1 x6_2 x7_2 = some r) ∧ Aside0 (kq ≤ k1) ∧ Drawn0 w w')
  case atStart => exact ⟨(0), (0), qx9_1, qx9_1, H', ⟨Nat.le_refl _⟩, qx9_4⟩
  clear H'
  try clear c2
  try clear c2b0
  try clear p2
  obtain ⟨x6_2, x7_2, rfl, rfl, HA, HK2, ⟨m2, rfl⟩⟩ := hrel
  cases gk with
  | zero => exact absurd HA.out (by simp [sleuthlaw44_median.l1])
  | succ k2 =>
   have H := HA.out
   clear HA
   simp only [sleuthlaw44_median.l1] at H
   by_cases c3 : x7_2 < (l0.length : Int)
   ·rw [if_pos c3] at H
    have c3b0 : decide (x7_2 < (l0.length : Int)) = true := decide_eq_true c3
    clear c3
    by_cases c4 : 0 ≤ x7_2
    rotate_left
    ·rw [if_neg c4] at H
     exact absurd H (by simp)
    rw [if_pos c4] at H
    have c4b0 : decide (0 ≤ x7_2) = true := decide_eq_true c4
    clear c4
    by_cases c5 : 0 ≤ x5_1
    rotate_left
    ·rw [if_neg c5] at H
     exact absurd H (by simp)
    rw [if_pos c5] at H
    have c5b0 : decide (0 ≤ x5_1) = true := decide_eq_true c5
    clear c5
    by_cases c6 : x5_1 < (l0.length : Int)
    rotate_left
    ·rw [if_neg c6] at H
     exact absurd H (by simp)
    rw [if_pos c6] at H
    have c6b0 : decide (x5_1 < (l0.length : Int)) = true := decide_eq_true c6
    clear c6
    by_cases c7 : (rd l0 x7_2) ≤ (rd l0 x5_1)
    rotate_left
    ·rw [if_neg c7] at H
     have c7b0 : decide ((rd l0 x7_2) ≤ (rd l0 x5_1)) = false := decide_eq_false c7
     clear c7
     have H' := Aside0.mk H
     clear H
     have p330 : 0 ≤ (x7_2 : Int) := of_decide_eq_true qx9_2
     have q330 : x7_2 < (l0.length : Int) := of_decide_eq_true qx9_2
     obtain ⟨ad330, e330, hx330_0⟩ := Kd.at_int HR0.out x7_2 p330 q330
     cases e330
     replace p330 := eq_true p330
     replace q330 := eq_true q330
     have p331 : 0 ≤ (x5_1 : Int) := of_decide_eq_true qx9_2
     have q331 : x5_1 < (l0.length : Int) := of_decide_eq_true qx9_2
     obtain ⟨ad331, e331, hx331_0⟩ := Kd.at_int HR0.out x5_1 p331 q331
     obtain rfl : ad330 = ad331 := (by injection e331)
     replace p331 := eq_true p331
     replace q331 := eq_true q331
     go_wp2
     repeat (go_quiet (fail); try go_wp2)
     go_roundg k2
     case measure => have := HK1.out; have := HK2.out; omega
     case rel => exact ⟨(x6_2), (wrap64 (x7_2 + 1)), qx9_1, qx9_1, H', ⟨qx9_8⟩, qx9_4⟩
    rw [if_pos c7] at H
    have c7b0 : decide ((rd l0 x7_2) ≤ (rd l0 x5_1)) = true := decide_eq_true c7
    clear c7
    have H' := Aside0.mk H
    clear H
    have p330 : 0 ≤ (x7_2 : Int) := of_decide_eq_true qx9_2
    have q330 : x7_2 < (l0.length : Int) := of_decide_eq_true qx9_2
    obtain ⟨ad330, e330, hx330_0⟩ := Kd.at_int HR0.out x7_2 p330 q330
    cases e330
    replace p330 := eq_true p330
    replace q330 := eq_true q330
    have p331 : 0 ≤ (x5_1 : Int) := of_decide_eq_true qx9_2
    have q331 : x5_1 < (l0.length : Int) := of_decide_eq_true qx9_2
    obtain ⟨ad331, e331, hx331_0⟩ := Kd.at_int HR0.out x5_1 p331 q331
    obtain rfl : ad330 = ad331 := (by injection e331)
    replace p331 := eq_true p331
    replace q331 := eq_true q331
    go_wp2
    repeat (go_quiet (fail); try go_wp2)
    go_roundg k2
    case measure => have := HK1.out; have := HK2.out; omega
    case rel => exact ⟨(wrap64 (x6_2 + 1)), (wrap64 (x7_2 + 1)), qx9_1, qx9_1, H', ⟨qx9_8⟩, qx9_4⟩
   rw [if_neg c3] at H
   have c3b0 : decide (x7_2 < (l0.length : Int)) = false := decide_eq_false c3
   clear c3
   by_cases c8 : (wrap64 (2 * x6_2)) ≥ (l0.length : Int)
   rotate_left
   ·rw [if_neg c8] at H
    have c8b0 : decide ((l0.length : Int) ≤ (wrap64 (2 * x6_2))) = false := decide_eq_false c8
    clear c8
    have H' := Aside0.mk H
    clear H
    go_wp2
    repeat (go_quiet (fail); try go_wp2)
    go_roundg k2
    case measure => have := HK1.out; have := HK2.out; omega
    case rel => exact ⟨(x3_1), (x4_1), (wrap64 (x5_1 + 1)), qx9_1, qx9_1, qx9_1, H', ⟨qx9_8⟩, qx9_4⟩
   rw [if_pos c8] at H
   have c8b0 : decide ((l0.length : Int) ≤ (wrap64 (2 * x6_2))) = true := decide_eq_true c8
   clear c8
   by_cases c9 : x3_1 = true
   rotate_left
   ·replace c9 := Bool.eq_false_iff.mpr c9
    subst c9
    have H1 : (if 0 ≤ x5_1 then (if x5_1 < (l0.length : Int) then (sleuthlaw44_median.l0 k2 l0 true (rd l0 x5_1) (wrap64 (x5_1 + 1))) else (none)) else (none)) = some r := by rw [if_neg (show ¬ (false = true) by decide)] at H; exact H
    clear H
    have H := H1
    clear H1
    by_cases c13 : 0 ≤ x5_1
    rotate_left
    ·rw [if_neg c13] at H
     exact absurd H (by simp)
    rw [if_pos c13] at H
    have c13b0 : decide (0 ≤ x5_1) = true := decide_eq_true c13
    clear c13
    by_cases c14 : x5_1 < (l0.length : Int)
    rotate_left
    ·rw [if_neg c14] at H
     exact absurd H (by simp)
    rw [if_pos c14] at H
    have c14b0 : decide (x5_1 < (l0.length : Int)) = true := decide_eq_true c14
    clear c14
    have H' := Aside0.mk H
    clear H
    have p334 : 0 ≤ (x5_1 : Int) := of_decide_eq_true qx9_2
    have q334 : x5_1 < (l0.length : Int) := of_decide_eq_true qx9_2
    obtain ⟨ad334, e334, hx334_0⟩ := Kd.at_int HR0.out x5_1 p334 q334
    cases e334
    replace p334 := eq_true p334
    replace q334 := eq_true q334
    go_wp2
    repeat (go_quiet (fail); try go_wp2)
    go_roundg k2
    case measure => have := HK1.out; have := HK2.out; omega
    case rel => exact ⟨(true), (rd l0 x5_1), (wrap64 (x5_1 + 1)), qx9_1, qx9_1, qx9_1, H', ⟨qx9_8⟩, qx9_4⟩
   subst c9
   have H1 : (if 0 ≤ x5_1 then (if x5_1 < (l0.length : Int) then (if (rd l0 x5_1) < x4_1 then (sleuthlaw44_median.l0 k2 l0 true (rd l0 x5_1) (wrap64 (x5_1 + 1))) else (sleuthlaw44_median.l0 k2 l0 true x4_1 (wrap64 (x5_1 + 1)))) else (none)) else (none)) = some r := by rw [if_pos rfl] at H; exact H
   clear H
   have H := H1
   clear H1
   by_cases c10 : 0 ≤ x5_1
   rotate_left
   ·rw [if_neg c10] at H
    exact absurd H (by simp)
   rw [if_pos c10] at H
   have c10b0 : decide (0 ≤ x5_1) = true := decide_eq_true c10
   clear c10
   by_cases c11 : x5_1 < (l0.length : Int)
   rotate_left
   ·rw [if_neg c11] at H
    exact absurd H (by simp)
   rw [if_pos c11] at H
   have c11b0 : decide (x5_1 < (l0.length : Int)) = true := decide_eq_true c11
   clear c11
   by_cases c12 : (rd l0 x5_1) < x4_1
   rotate_left
   ·rw [if_neg c12] at H
    have c12b0 : decide ((rd l0 x5_1) < x4_1) = false := decide_eq_false c12
    clear c12
    have H' := Aside0.mk H
    clear H
    have p332 : 0 ≤ (x5_1 : Int) := of_decide_eq_true qx9_2
    have q332 : x5_1 < (l0.length : Int) := of_decide_eq_true qx9_2
    obtain ⟨ad332, e332, hx332_0⟩ := Kd.at_int HR0.out x5_1 p332 q332
    cases e332
    replace p332 := eq_true p332
    replace q332 := eq_true q332
    go_wp2
    repeat (go_quiet (fail); try go_wp2)
    go_roundg k2
    case measure => have := HK1.out; have := HK2.out; omega
    case rel => exact ⟨(true), (x4_1), (wrap64 (x5_1 + 1)), qx9_1, qx9_1, qx9_1, H', ⟨qx9_8⟩, qx9_4⟩
   rw [if_pos c12] at H
   have c12b0 : decide ((rd l0 x5_1) < x4_1) = true := decide_eq_true c12
   clear c12
   have H' := Aside0.mk H
   clear H
   have p332 : 0 ≤ (x5_1 : Int) := of_decide_eq_true qx9_2
   have q332 : x5_1 < (l0.length : Int) := of_decide_eq_true qx9_2
   obtain ⟨ad332, e332, hx332_0⟩ := Kd.at_int HR0.out x5_1 p332 q332
   cases e332
   replace p332 := eq_true p332
   replace q332 := eq_true q332
   have p333 : 0 ≤ (x5_1 : Int) := of_decide_eq_true qx9_2
   have q333 : x5_1 < (l0.length : Int) := of_decide_eq_true qx9_2
   obtain ⟨ad333, e333, hx333_0⟩ := Kd.at_int HR0.out x5_1 p333 q333
   obtain rfl : ad332 = ad333 := (by injection e333)
   replace p333 := eq_true p333
   replace q333 := eq_true q333
   go_wp2
   repeat (go_quiet (fail); try go_wp2)
   go_roundg k2
   case measure => have := HK1.out; have := HK2.out; omega
   case rel => exact ⟨(true), (rd l0 x5_1), (wrap64 (x5_1 + 1)), qx9_1, qx9_1, qx9_1, H', ⟨qx9_8⟩, qx9_4⟩

/-! ### sleuthlaw44_deviation: function 33 -/
def sleuthlaw44_deviation.l0 : Nat → List Int → Int → Int → Int → Option (Int)
 | 0, _, _, _, _ => none
 | k + 1, x0, x1, x5, x6 => if x6 < (x0.length : Int) then (if 0 ≤ x6 then (sleuthlaw44_deviation.l0 k x0 x1 (wrap64 (x5 + (mx (wrap64 ((rd x0 x6) - x1)) (wrap64 (x1 - (rd x0 x6)))))) (wrap64 (x6 + 1))) else (none)) else (some x5)
def sleuthlaw44_deviation.f (k : Nat) (l0 : List Int) (a1 : Int) : Option (Int) := sleuthlaw44_deviation.l0 k l0 a1 0 0
theorem sleuthlaw44_deviation.mono_l : ∀ k, (∀ y0 y1 y2 y3, LeO (sleuthlaw44_deviation.l0 k y0 y1 y2 y3) (sleuthlaw44_deviation.l0 (k + 1) y0 y1 y2 y3))
 | 0 => fun _ _ _ _ r h => by simp [sleuthlaw44_deviation.l0] at h
 | k + 1 => by
  have ih0 := sleuthlaw44_deviation.mono_l k
  ·intro y0 y1 y2 y3
   unfold sleuthlaw44_deviation.l0
   repeat' first
   | (with_reducible exact ih0 _ _ _ _)
   | (with_reducible exact LeO.refl _)
   | (with_reducible exact LeO.none _)
   | (with_reducible refine LeO.ite ?_ ?_)
   | (with_reducible refine LeO.bind ?_ (fun _ => ?_))
   | exact ih0 _ _ _ _
   | exact LeO.none _
   | refine LeO.ite ?_ ?_
   | refine LeO.bind ?_ (fun _ => ?_)
theorem sleuthlaw44_deviation.mono : ∀ a0 a1 k, LeO (sleuthlaw44_deviation.f k a0 a1) (sleuthlaw44_deviation.f (k + 1) a0 a1) := by
 intro a0 a1 k
 have ih0 := sleuthlaw44_deviation.mono_l k
 unfold sleuthlaw44_deviation.f
 repeat' first
   | (with_reducible exact ih0 _ _ _ _)
   | (with_reducible exact LeO.refl _)
   | (with_reducible exact LeO.none _)
   | (with_reducible refine LeO.ite ?_ ?_)
   | (with_reducible refine LeO.bind ?_ (fun _ => ?_))
   | exact ih0 _ _ _ _
   | exact LeO.none _
   | refine LeO.ite ?_ ?_
   | refine LeO.bind ?_ (fun _ => ?_)
set_option maxHeartbeats 8000000 in
set_option maxRecDepth 100000 in
theorem sleuthlaw44_deviation.calls (k : Nat) (A0 : Option Addr) (c0 : Nat) (l0 : List Int) (a1 : Int) (r : Int) (w : World) (hr0 : Kd.C (Kd.int .i64) w A0 l0.length l0) (hc0 : l0.length ≤ c0) (h : sleuthlaw44_deviation.f k l0 a1 = some r) :
  Calls Try.prog 33 #[.slice A0 l0.length c0, .int .i64 a1] w fun e w' => e = .returned (.int .i64 r) ∧ Below w.heap.size w w' := by
 have HR0 := Aside0.mk hr0
 have HC0 := Aside0.mk hc0
 clear hr0 hc0
 have HB := Aside0.mk (Below.refl w.heap.size w)
 have H : (sleuthlaw44_deviation.l0 k l0 a1 0 0) = some r := h
 clear h
 have H' := Aside0.mk H
 clear H
 go_enter Try.func33, Try.ntmps33
 go_wp2
 repeat (go_quiet (fail); try go_wp2)
 go_loopg [5, 6] k (fun kq v5 v6 w' => ∃ (x5_1 : Int) (x6_1 : Int), v5 = .int .i64 x5_1 ∧ v6 = .int .i64 x6_1 ∧ Aside0 (sleuthlaw44_deviation.l0 kq l0 a1 x5_1 x6_1 = some r) ∧ Aside0 (kq ≤ k) ∧ Aside0 (Below w.heap.size w w'))
 case atStart => exact ⟨(0), (0), qx9_1, qx9_1, H', ⟨Nat.le_refl _⟩, ⟨qx9_0⟩⟩
 clear H'
 try clear p2
 obtain ⟨x5_1, x6_1, rfl, rfl, HA, HK1, HB⟩ := hrel
 cases gk with
 | zero => exact absurd HA.out (by simp [sleuthlaw44_deviation.l0])
 | succ k1 =>
  have H := HA.out
  clear HA
  simp only [sleuthlaw44_deviation.l0] at H
  by_cases c3 : x6_1 < (l0.length : Int)
  rotate_left
  ·rw [if_neg c3] at H
   have c3b0 : decide (x6_1 < (l0.length : Int)) = false := decide_eq_false c3
   clear c3
   obtain rfl := Option.some.inj H
   go_wp2
   repeat (go_quiet (fail); try go_wp2)
   go_ret
   exact ⟨qx9_5, qx9_0⟩
  rw [if_pos c3] at H
  have c3b0 : decide (x6_1 < (l0.length : Int)) = true := decide_eq_true c3
  clear c3
  by_cases c4 : 0 ≤ x6_1
  rotate_left
  ·rw [if_neg c4] at H
   exact absurd H (by simp)
  rw [if_pos c4] at H
  have c4b0 : decide (0 ≤ x6_1) = true := decide_eq_true c4
  clear c4
  obtain ⟨ji5, hji5⟩ : ∃ j_ : Int, (mx (wrap64 ((rd l0 x6_1) - a1)) (wrap64 (a1 - (rd l0 x6_1)))) = j_ := ⟨_, rfl⟩
  replace H : (sleuthlaw44_deviation.l0 k1 l0 a1 (wrap64 (x5_1 + (ji5))) (wrap64 (x6_1 + 1))) = some r := by first | (rw [hji5] at H; exact H) | (simp only [hji5] at H ⊢; exact H)
  have hji5_ : (if (wrap64 ((rd l0 x6_1) - a1)) < (wrap64 (a1 - (rd l0 x6_1))) then (wrap64 (a1 - (rd l0 x6_1))) else (wrap64 ((rd l0 x6_1) - a1))) = ji5 := hji5
  have H' := Aside0.mk H
  clear H
  have p335 : 0 ≤ (x6_1 : Int) := of_decide_eq_true qx9_2
  have q335 : x6_1 < (l0.length : Int) := of_decide_eq_true qx9_2
  obtain ⟨ad335, e335, hx335_0⟩ := Kd.at_int HR0.out x6_1 p335 q335
  cases e335
  replace hx335_0 := (HB.out.cell (World.block_lt_of_cell? w _ hx335_0)).trans hx335_0
  replace p335 := eq_true p335
  replace q335 := eq_true q335
  have p336 : 0 ≤ (x6_1 : Int) := of_decide_eq_true qx9_2
  have q336 : x6_1 < (l0.length : Int) := of_decide_eq_true qx9_2
  obtain ⟨ad336, e336, hx336_0⟩ := Kd.at_int HR0.out x6_1 p336 q336
  obtain rfl : ad335 = ad336 := (by injection e336)
  replace hx336_0 := (HB.out.cell (World.block_lt_of_cell? w _ hx336_0)).trans hx336_0
  replace p336 := eq_true p336
  replace q336 := eq_true q336
  go_wp2
  repeat (go_quiet (fail); try go_wp2)
  go_roundg k1
  case measure => have := HK1.out; omega
  case rel => exact ⟨(wrap64 (x5_1 + (ji5))), (wrap64 (x6_1 + 1)), (by first | rfl | (simp; done) | (simp only [← hji5] <;> (first | rfl | simp)) | (simp [*]; done)), qx9_1, H', ⟨by have := HK1.out; omega⟩, ⟨qx9_0⟩⟩

/-! ### sleuthlaw44_cost: function 34 -/
def sleuthlaw44_cost.f (k : Nat) (l0 : List Int) : Option (Int) := (sleuthlaw44_median.f k l0).bind fun t337 => ((sleuthlaw44_deviation.f k l0 t337).bind fun t338 => (some t338))
theorem sleuthlaw44_cost.mono : ∀ a0 k, LeO (sleuthlaw44_cost.f k a0) (sleuthlaw44_cost.f (k + 1) a0) := by
 intro a0 k
 unfold sleuthlaw44_cost.f
 repeat' first
   | (with_reducible exact sleuthlaw44_deviation.mono _ _ _)
   | (with_reducible exact sleuthlaw44_median.mono _ _)
   | (with_reducible exact LeO.refl _)
   | (with_reducible exact LeO.none _)
   | (with_reducible refine LeO.ite ?_ ?_)
   | (with_reducible refine LeO.bind ?_ (fun _ => ?_))
   | exact sleuthlaw44_deviation.mono _ _ _
   | exact sleuthlaw44_median.mono _ _
   | exact LeO.none _
   | refine LeO.ite ?_ ?_
   | refine LeO.bind ?_ (fun _ => ?_)
set_option maxHeartbeats 8000000 in
set_option maxRecDepth 100000 in
theorem sleuthlaw44_cost.calls (k : Nat) (A0 : Option Addr) (c0 : Nat) (l0 : List Int) (r : Int) (w : World) (hr0 : Kd.C (Kd.int .i64) w A0 l0.length l0) (hc0 : l0.length ≤ c0) (h : sleuthlaw44_cost.f k l0 = some r) :
  Calls Try.prog 34 #[.slice A0 l0.length c0] w fun e w' => e = .returned (.int .i64 r) ∧ Below w.heap.size w w' := by
 have HR0 := Aside0.mk hr0
 have HC0 := Aside0.mk hc0
 clear hr0 hc0
 have HB := Aside0.mk (Below.refl w.heap.size w)
 have H : ((sleuthlaw44_median.f k l0).bind fun t337 => ((sleuthlaw44_deviation.f k l0 t337).bind fun t338 => (some t338))) = some r := h
 clear h
 replace H := Option.bind_eq_some_iff.mp H
 obtain ⟨t337, A20, H⟩ := H
 replace H : ((sleuthlaw44_deviation.f k l0 t337).bind fun t338 => (some t338)) = some r := H
 have A2 := Aside0.mk A20
 clear A20
 replace H := Option.bind_eq_some_iff.mp H
 obtain ⟨t338, A30, H⟩ := H
 replace H : (some t338) = some r := H
 have A3 := Aside0.mk A30
 clear A30
 obtain rfl := Option.some.inj H
 go_enter Try.func34, Try.ntmps34
 go_wp2_with (first | ((with_reducible refine gate_callee (f := 30) rfl ?_); refine goesL_ (some 5) rfl rfl Try.func30 (by kernel_rfl) rfl #[.slice A0 l0.length c0] rfl qx9_3 ?_; (with_reducible refine (sleuthlaw44_median.calls k _ _ l0 t337 _ ?side1 ?side2 A2.out).mono ?_); (case side1 => exact qx9_9); (case side2 => exact HC0.out); rintro e w' ⟨rfl, ⟨nd, rfl⟩⟩; refine ⟨_, rfl, ?_⟩) | ((with_reducible refine gate_callee (f := 33) rfl ?_); refine goesL_ (some 6) rfl rfl Try.func33 (by kernel_rfl) rfl #[.slice A0 l0.length c0, .int .i64 t337] rfl qx9_3 ?_; (with_reducible refine (sleuthlaw44_deviation.calls k _ _ l0 t337 t338 _ ?side1 ?side2 A3.out).mono ?_); (case side1 => exact qx9_9); (case side2 => exact HC0.out); rintro e w4 ⟨rfl, hb⟩; refine ⟨_, rfl, ?_⟩; have n0_ := Aside0.mk (below_step qx9_0 hb); clear HB; have HB := n0_; clear n0_; (try clear hb); (try clear hb2); (try clear hk); (try clear hi)))
 go_ret
 exact ⟨qx9_5, qx9_0⟩

/-! ### sleuthlaw44_total: function 21 -/
def sleuthlaw44_total.l0 : Nat → List (List Int) → Int → Int → Option (Int × Int)
 | 0, _, _, _ => none
 | k + 1, x8, x10, x11 => if x11 < (x8.length : Int) then (if 0 ≤ x11 then ((sleuthlaw44_cost.f k (rd_L1 x8 x11)).bind fun t344 => (sleuthlaw44_total.l0 k x8 (wrap64 (x10 + t344)) (wrap64 (x11 + 1)))) else (none)) else (some (x10, 0))
def sleuthlaw44_total.f (k : Nat) (l0 : List Int) (a1 : Int) (l2 : List Int) : Option (Int × Int) := (sleuthlaw44_divided.f k l0 l2).bind fun bt339 => (if bt339.2 = 0 then (sleuthlaw44_total.l0 k bt339.1 (wrap64 (a1 * (l2.length : Int))) 0) else (some (0, bt339.2)))
theorem sleuthlaw44_total.mono_l : ∀ k, (∀ y0 y1 y2, LeO (sleuthlaw44_total.l0 k y0 y1 y2) (sleuthlaw44_total.l0 (k + 1) y0 y1 y2))
 | 0 => fun _ _ _ r h => by simp [sleuthlaw44_total.l0] at h
 | k + 1 => by
  have ih0 := sleuthlaw44_total.mono_l k
  ·intro y0 y1 y2
   unfold sleuthlaw44_total.l0
   repeat' first
   | (with_reducible exact ih0 _ _ _)
   | (with_reducible exact sleuthlaw44_cost.mono _ _)
   | (with_reducible exact sleuthlaw44_divided.mono _ _ _)
   | (with_reducible exact LeO.refl _)
   | (with_reducible exact LeO.none _)
   | (with_reducible refine LeO.ite ?_ ?_)
   | (with_reducible refine LeO.bind ?_ (fun _ => ?_))
   | exact ih0 _ _ _
   | exact sleuthlaw44_cost.mono _ _
   | exact sleuthlaw44_divided.mono _ _ _
   | exact LeO.none _
   | refine LeO.ite ?_ ?_
   | refine LeO.bind ?_ (fun _ => ?_)
theorem sleuthlaw44_total.mono : ∀ a0 a1 a2 k, LeO (sleuthlaw44_total.f k a0 a1 a2) (sleuthlaw44_total.f (k + 1) a0 a1 a2) := by
 intro a0 a1 a2 k
 have ih0 := sleuthlaw44_total.mono_l k
 unfold sleuthlaw44_total.f
 repeat' first
   | (with_reducible exact ih0 _ _ _)
   | (with_reducible exact sleuthlaw44_cost.mono _ _)
   | (with_reducible exact sleuthlaw44_divided.mono _ _ _)
   | (with_reducible exact LeO.refl _)
   | (with_reducible exact LeO.none _)
   | (with_reducible refine LeO.ite ?_ ?_)
   | (with_reducible refine LeO.bind ?_ (fun _ => ?_))
   | exact ih0 _ _ _
   | exact sleuthlaw44_cost.mono _ _
   | exact sleuthlaw44_divided.mono _ _ _
   | exact LeO.none _
   | refine LeO.ite ?_ ?_
   | refine LeO.bind ?_ (fun _ => ?_)
set_option maxHeartbeats 8000000 in
set_option maxRecDepth 100000 in
theorem sleuthlaw44_total.calls (k : Nat) (A0 : Option Addr) (c0 : Nat) (l0 : List Int) (a1 : Int) (A2 : Option Addr) (c2 : Nat) (l2 : List Int) (r1 : Int) (r2 : Int) (w : World) (hr0 : Kd.C (Kd.int .i64) w A0 l0.length l0) (hc0 : l0.length ≤ c0) (hr2 : Kd.C (Kd.int .i64) w A2 l2.length l2) (hc2 : l2.length ≤ c2) (h : sleuthlaw44_total.f k l0 a1 l2 = some (r1, r2)) :
  Calls Try.prog 21 #[.slice A0 l0.length c0, .int .i64 a1, .slice A2 l2.length c2] w fun e w' => e = .returned (.tuple #[.int .i64 r1, .int .i64 r2]) ∧ Below w.heap.size w w' := by
 have HR0 := Aside0.mk hr0
 have HC0 := Aside0.mk hc0
 clear hr0 hc0
 have HR2 := Aside0.mk hr2
 have HC2 := Aside0.mk hc2
 clear hr2 hc2
 have HB := Aside0.mk (Below.refl w.heap.size w)
 have H : ((sleuthlaw44_divided.f k l0 l2).bind fun bt339 => (if bt339.2 = 0 then (sleuthlaw44_total.l0 k bt339.1 (wrap64 (a1 * (l2.length : Int))) 0) else (some (0, bt339.2)))) = some (r1, r2) := h
 clear h
 replace H := Option.bind_eq_some_iff.mp H
 obtain ⟨⟨t339, t342⟩, A40, H⟩ := H
 replace H : (if t342 = 0 then (sleuthlaw44_total.l0 k t339 (wrap64 (a1 * (l2.length : Int))) 0) else (some (0, t342))) = some (r1, r2) := H
 have A4 := Aside0.mk A40
 clear A40
 by_cases c5 : t342 = 0
 rotate_left
 ·rw [if_neg c5] at H
  have c5b0 : (t342 == 0) = false := beq_eq_false_iff_ne.mpr c5
  have c5b1 : (t342 != 0) = true := bne_iff_ne.mpr c5
  simp only [Option.some.injEq, Prod.mk.injEq] at H
  obtain ⟨rfl, rfl⟩ := H
  go_enter Try.func21, Try.ntmps21
  go_wp2_with (first | ((with_reducible refine gate_callee (f := 29) rfl ?_); refine goesL_ (some 15) rfl rfl Try.func29 (by kernel_rfl) rfl #[.slice A0 l0.length c0, .slice A2 l2.length c2] rfl qx9_3 ?_; (with_reducible refine (sleuthlaw44_divided.calls k (fun k_ => k_ < w.heap.size) _ _ l0 _ _ l2 t339 t342 _ ?side1 ?side2 ?side3 A4.out).mono ?_); (case side1 => exact Kd.V_mk HC0.out (Kd.F_below (Kd.C_F (Kd.heap_int .i64) HR0.out) qx9_0)); (case side2 => exact qx9_10); (case side3 => exact HC2.out); rintro e w13 ⟨v340, rfl, ho0, hb⟩; refine ⟨_, rfl, ?_⟩; have n0_ := Aside0.mk (Kd.N_lower (Kd.N_mono (ok' := fun k_ => True) ho0 (fun k_ hk_ => trivial)) (below_size qx9_0)); have n1_ := Aside0.mk (below_step qx9_0 hb); clear HB; have HO341 := n0_; have HB := n1_; clear n0_ n1_; (try clear hb); (try clear hb2); (try clear hk); (try clear hi); (try clear ho0)))
  go_ret2
  exact ⟨qx9_5, qx9_0⟩
 rw [if_pos c5] at H
 have c5b0 : (t342 == 0) = true := beq_iff_eq.mpr c5
 have c5b1 : (t342 != 0) = false := bne_eq_false_iff_eq.mpr c5
 clear c5
 have H' := Aside0.mk H
 clear H
 go_enter Try.func21, Try.ntmps21
 go_wp2_with (first | ((with_reducible refine gate_callee (f := 29) rfl ?_); refine goesL_ (some 15) rfl rfl Try.func29 (by kernel_rfl) rfl #[.slice A0 l0.length c0, .slice A2 l2.length c2] rfl qx9_3 ?_; (with_reducible refine (sleuthlaw44_divided.calls k (fun k_ => k_ < w.heap.size) _ _ l0 _ _ l2 t339 t342 _ ?side1 ?side2 ?side3 A4.out).mono ?_); (case side1 => exact Kd.V_mk HC0.out (Kd.F_below (Kd.C_F (Kd.heap_int .i64) HR0.out) qx9_0)); (case side2 => exact qx9_10); (case side3 => exact HC2.out); rintro e w6 ⟨v340, rfl, ho0, hb⟩; refine ⟨_, rfl, ?_⟩; have n0_ := Aside0.mk (Kd.N_lower (Kd.N_mono (ok' := fun k_ => True) ho0 (fun k_ hk_ => trivial)) (below_size qx9_0)); have n1_ := Aside0.mk (below_step qx9_0 hb); clear HB; have HO341 := n0_; have HB := n1_; clear n0_ n1_; (try clear hb); (try clear hb2); (try clear hk); (try clear hi); (try clear ho0)))
 go_loopg [10, 11] k (fun kq v10 v11 w' => ∃ (x10_1 : Int) (x11_1 : Int), v10 = .int .i64 x10_1 ∧ v11 = .int .i64 x11_1 ∧ Aside0 (sleuthlaw44_total.l0 kq t339 x10_1 x11_1 = some (r1, r2)) ∧ Aside0 (kq ≤ k) ∧ Aside0 (Kd.N (Kd.slice 3 (Kd.int .i64)) 24 w' w.heap.size (fun _ => True) v340 t339) ∧ Aside0 (Below w.heap.size w w'))
 case atStart => exact ⟨(wrap64 (a1 * (l2.length : Int))), (0), qx9_1, qx9_1, H', ⟨Nat.le_refl _⟩, ⟨by (with_reducible repeat (first | apply Kd.N_alloc | apply Kd.N_drewN | apply Kd.N_drew)); exact HO341.out⟩, ⟨qx9_0⟩⟩
 clear H'
 try clear c2
 try clear p2
 try clear c5
 try clear c5b0
 try clear c5b1
 try clear p6
 obtain ⟨x10_1, x11_1, rfl, rfl, HA, HK1, HO_8, HB⟩ := hrel
 cases gk with
 | zero => exact absurd HA.out (by simp [sleuthlaw44_total.l0])
 | succ k1 =>
  have H := HA.out
  clear HA
  simp only [sleuthlaw44_total.l0] at H
  by_cases c7 : x11_1 < (t339.length : Int)
  rotate_left
  ·rw [if_neg c7] at H
   have c7b0 : decide (x11_1 < (t339.length : Int)) = false := decide_eq_false c7
   clear c7
   simp only [Option.some.injEq, Prod.mk.injEq] at H
   obtain ⟨rfl, rfl⟩ := H
   obtain ⟨Ao12, co12, eo12⟩ := Kd.N_slice HO_8.out
   subst eo12
   go_wp2
   go_ret2
   exact ⟨qx9_5, qx9_0⟩
  rw [if_pos c7] at H
  have c7b0 : decide (x11_1 < (t339.length : Int)) = true := decide_eq_true c7
  clear c7
  by_cases c8 : 0 ≤ x11_1
  rotate_left
  ·rw [if_neg c8] at H
   exact absurd H (by simp)
  rw [if_pos c8] at H
  have c8b0 : decide (0 ≤ x11_1) = true := decide_eq_true c8
  clear c8
  replace H := Option.bind_eq_some_iff.mp H
  obtain ⟨t344, A90, H⟩ := H
  replace H : (sleuthlaw44_total.l0 k1 t339 (wrap64 (x10_1 + t344)) (wrap64 (x11_1 + 1))) = some (r1, r2) := H
  have A9 := Aside0.mk A90
  clear A90
  have H' := Aside0.mk H
  clear H
  obtain ⟨Ao10, co10, eo10⟩ := Kd.N_slice HO_8.out
  subst eo10
  have p343 : 0 ≤ (x11_1 : Int) := of_decide_eq_true qx9_2
  have q343 : x11_1 < (t339.length : Int) := of_decide_eq_true qx9_2
  obtain ⟨ad343, A343_0, c343_0, e343, hx343_0, hl343_0, hi343_0⟩ := at_L1 (Kd.N_reads' HO_8.out).2.2 x11_1 p343 q343
  cases e343
  obtain ⟨ce343, hce343, hMe343, hcc343⟩ := Kd.N_get HO_8.out [] x11_1 p343 (by first | exact q343 | exact of_decide_eq_true qx9_2 | (have e_ := (Kd.N_reads' HO_8.out).1; omega))
  obtain ⟨ua343_0, uc343_0, rfl, ul343_0, ge343_0⟩ := Kd.FK_slice_open hMe343
  have hv343_0 := hcc343 0 _ rfl
  rw [Nat.add_zero, show ((Kd.slice 3 (Kd.int .i64))).sz = 1 from rfl, Nat.mul_one] at hv343_0
  replace hv343_0 := Option.some.inj (hv343_0.symm.trans hx343_0)
  injection hv343_0 with hva_ hvn_ hvc_
  rw [hva_] at ge343_0
  rw [hvc_] at ul343_0
  have HL343_0 := Aside0.mk (show Kd.V (Kd.int .i64) 3 _ w.heap.size _ _ (rd_L1 t339 x11_1) from Kd.V_mk ul343_0 ge343_0)
  clear hva_ hvn_ hvc_ ge343_0 ul343_0
  clear hcc343 hce343
  have HR343_0 := Aside0.mk hi343_0
  have HC343_0 := Aside0.mk hl343_0
  clear hi343_0 hl343_0
  replace p343 := eq_true p343
  replace q343 := eq_true q343
  go_wp2_with (first | ((with_reducible refine gate_callee (f := 34) rfl ?_); refine goesL_ (some 36) rfl rfl Try.func34 (by kernel_rfl) rfl #[.slice A343_0 (rd_L1 t339 x11_1).length c343_0] rfl qx9_3 ?_; (with_reducible refine (sleuthlaw44_cost.calls k1 _ _ (rd_L1 t339 x11_1) t344 _ ?side1 ?side2 A9.out).mono ?_); (case side1 => repeat (first | exact qx9_7 | (with_reducible refine Kd.C_alloc ?_ _) | (with_reducible refine Kd.C_drewN ?_ _) | (with_reducible refine Kd.C_drew ?_))); (case side2 => exact HC343_0.out); rintro e w11 ⟨rfl, hb⟩; refine ⟨_, rfl, ?_⟩; have n0_ := Aside0.mk (Kd.N_below (by (with_reducible repeat (first | apply Kd.N_alloc | apply Kd.N_drewN | apply Kd.N_drew)); exact HO_8.out) hb); have n1_ := Aside0.mk (Kd.V_below (by (with_reducible repeat (first | apply Kd.V_alloc | apply Kd.V_drewN | apply Kd.V_drew)); exact HL343_0.out) hb); have n2_ := Aside0.mk (Kd.C_below qx9_7 hb); have n3_ := Aside0.mk (below_step qx9_0 hb); clear HO_8; clear HL343_0; clear HR343_0; clear HB; have HO_8 := n0_; have HL343_0 := n1_; have HR343_0 := n2_; have HB := n3_; clear n0_ n1_ n2_ n3_; (try clear hb); (try clear hb2); (try clear hk); (try clear hi)))
  go_roundg k1
  case measure => have := HK1.out; omega
  case rel => exact ⟨(wrap64 (x10_1 + t344)), (wrap64 (x11_1 + 1)), qx9_1, qx9_1, H', ⟨by have := HK1.out; omega⟩, ⟨by (with_reducible repeat (first | apply Kd.N_alloc | apply Kd.N_drewN | apply Kd.N_drew)); exact HO_8.out⟩, ⟨qx9_0⟩⟩

/-! ### sleuthlaw44_cutsOf: function 24 -/
def sleuthlaw44_cutsOf.l0 : Nat → Int → Int → List Int → Int → Option (List Int)
 | 0, _, _, _, _ => none
 | k + 1, x0, x1, x5, x6 => if x6 < x1 then (if 0 ≤ (wrap64 (x6 - 1)) then (if (Int.tmod (shr .i64 x0 (wrap64 (x6 - 1))) 2) = 1 then (if x5.length < 17592186044416 then (sleuthlaw44_cutsOf.l0 k x0 x1 (x5 ++ [x6]) (wrap64 (x6 + 1))) else (none)) else (sleuthlaw44_cutsOf.l0 k x0 x1 x5 (wrap64 (x6 + 1)))) else (none)) else (some x5)
def sleuthlaw44_cutsOf.f (k : Nat) (a0 : Int) (a1 : Int) : Option (List Int) := sleuthlaw44_cutsOf.l0 k a0 a1 ([] : List Int) 1
theorem sleuthlaw44_cutsOf.mono_l : ∀ k, (∀ y0 y1 y2 y3, LeO (sleuthlaw44_cutsOf.l0 k y0 y1 y2 y3) (sleuthlaw44_cutsOf.l0 (k + 1) y0 y1 y2 y3))
 | 0 => fun _ _ _ _ r h => by simp [sleuthlaw44_cutsOf.l0] at h
 | k + 1 => by
  have ih0 := sleuthlaw44_cutsOf.mono_l k
  ·intro y0 y1 y2 y3
   unfold sleuthlaw44_cutsOf.l0
   repeat' first
   | (with_reducible exact ih0 _ _ _ _)
   | (with_reducible exact LeO.refl _)
   | (with_reducible exact LeO.none _)
   | (with_reducible refine LeO.ite ?_ ?_)
   | (with_reducible refine LeO.bind ?_ (fun _ => ?_))
   | exact ih0 _ _ _ _
   | exact LeO.none _
   | refine LeO.ite ?_ ?_
   | refine LeO.bind ?_ (fun _ => ?_)
theorem sleuthlaw44_cutsOf.mono : ∀ a0 a1 k, LeO (sleuthlaw44_cutsOf.f k a0 a1) (sleuthlaw44_cutsOf.f (k + 1) a0 a1) := by
 intro a0 a1 k
 have ih0 := sleuthlaw44_cutsOf.mono_l k
 unfold sleuthlaw44_cutsOf.f
 repeat' first
   | (with_reducible exact ih0 _ _ _ _)
   | (with_reducible exact LeO.refl _)
   | (with_reducible exact LeO.none _)
   | (with_reducible refine LeO.ite ?_ ?_)
   | (with_reducible refine LeO.bind ?_ (fun _ => ?_))
   | exact ih0 _ _ _ _
   | exact LeO.none _
   | refine LeO.ite ?_ ?_
   | refine LeO.bind ?_ (fun _ => ?_)
set_option maxHeartbeats 8000000 in
set_option maxRecDepth 100000 in
theorem sleuthlaw44_cutsOf.calls (k : Nat) (a0 : Int) (a1 : Int) (r : List Int) (w : World) (h : sleuthlaw44_cutsOf.f k a0 a1 = some r) :
  Calls Try.prog 24 #[.int .i64 a0, .int .i64 a1] w fun e w' => ∃ v0_ : Value, e = .returned (v0_) ∧ Kd.R (Kd.int .i64) 3 w' w.heap.size (fun _ => True) v0_ r ∧ Below w.heap.size w w' := by
 have HB := Aside0.mk (Below.refl w.heap.size w)
 have H : (sleuthlaw44_cutsOf.l0 k a0 a1 ([] : List Int) 1) = some r := h
 clear h
 have H' := Aside0.mk H
 clear H
 go_enter Try.func24, Try.ntmps24
 go_wp2
 go_loopg [5, 6] k (fun kq v5 v6 w' => ∃ (x5_1 : List Int) (x6_1 : Int), v6 = .int .i64 x6_1 ∧ Aside0 (sleuthlaw44_cutsOf.l0 kq a0 a1 x5_1 x6_1 = some r) ∧ Aside0 (kq ≤ k) ∧ Aside0 (Kd.R (Kd.int .i64) 3 w' w.heap.size (fun _ => True) v5 x5_1) ∧ Aside0 (Below w.heap.size w w'))
 case atStart => exact ⟨(([] : List Int)), (1), qx9_1, H', ⟨Nat.le_refl _⟩, ⟨by first | exact Kd.R_nil _ _ _ _ _ | exact Kd.N_nil _ _ _ _ _ | exact Kd.V_nil _ _ _ _ _ | exact Kd.Q_nil _ _ _ _ _ | exact Kd.S_nil _ _ _ _ _⟩, ⟨qx9_0⟩⟩
 clear H'
 try clear c2
 try clear p2
 obtain ⟨x5_1, x6_1, rfl, HA, HK1, HO_5, HB⟩ := hrel
 cases gk with
 | zero => exact absurd HA.out (by simp [sleuthlaw44_cutsOf.l0])
 | succ k1 =>
  have H := HA.out
  clear HA
  simp only [sleuthlaw44_cutsOf.l0] at H
  by_cases c3 : x6_1 < a1
  rotate_left
  ·rw [if_neg c3] at H
   have c3b0 : decide (x6_1 < a1) = false := decide_eq_false c3
   clear c3
   obtain rfl := Option.some.inj H
   go_wp2
   go_ret
   exact ⟨_, qx9_5, qx9_6, qx9_0⟩
  rw [if_pos c3] at H
  have c3b0 : decide (x6_1 < a1) = true := decide_eq_true c3
  clear c3
  obtain ⟨ji4, hji4⟩ : ∃ j_ : Int, (wrap64 (x6_1 - 1)) = j_ := ⟨_, rfl⟩
  replace H : (if 0 ≤ (ji4) then (if (Int.tmod (shr .i64 a0 (ji4)) 2) = 1 then (if x5_1.length < 17592186044416 then (sleuthlaw44_cutsOf.l0 k1 a0 a1 (x5_1 ++ [x6_1]) (wrap64 (x6_1 + 1))) else (none)) else (sleuthlaw44_cutsOf.l0 k1 a0 a1 x5_1 (wrap64 (x6_1 + 1)))) else (none)) = some r := by first | (rw [hji4] at H; exact H) | (simp only [hji4] at H ⊢; exact H)
  have hji4w : (IntKind.i64.wrap (x6_1 - 1)) = ji4 := (i64_w _).trans hji4
  by_cases c5 : 0 ≤ (ji4)
  rotate_left
  ·rw [if_neg c5] at H
   exact absurd H (by simp)
  rw [if_pos c5] at H
  have c5b0 := eq_true c5
  have c5b1 : decide (0 ≤ (ji4)) = true := decide_eq_true c5
  clear c5
  obtain ⟨ji6, hji6⟩ : ∃ j_ : Int, (shr .i64 a0 (ji4)) = j_ := ⟨_, rfl⟩
  replace H : (if (Int.tmod (ji6) 2) = 1 then (if x5_1.length < 17592186044416 then (sleuthlaw44_cutsOf.l0 k1 a0 a1 (x5_1 ++ [x6_1]) (wrap64 (x6_1 + 1))) else (none)) else (sleuthlaw44_cutsOf.l0 k1 a0 a1 x5_1 (wrap64 (x6_1 + 1)))) = some r := by first | (rw [hji6] at H; exact H) | (simp only [hji6] at H ⊢; exact H)
  have hji6_ : (a0 / 2 ^ min (ji4).toNat 64) = ji6 := hji6
  have hji6z : (ji4) ≤ 64 → (a0 / 2 ^ (ji4).toNat) = ji6 := shr_small hji6
  by_cases c7 : (Int.tmod (ji6) 2) = 1
  rotate_left
  ·rw [if_neg c7] at H
   have c7b0 : ((Int.tmod (ji6) 2) == 1) = false := beq_eq_false_iff_ne.mpr c7
   have c7b1 : ((Int.tmod (ji6) 2) != 1) = true := bne_iff_ne.mpr c7
   have H' := Aside0.mk H
   clear H
   go_wp2
   go_roundg k1
   case measure => have := HK1.out; omega
   case rel => exact ⟨(x5_1), (wrap64 (x6_1 + 1)), qx9_1, H', ⟨by have := HK1.out; omega⟩, ⟨qx9_6⟩, ⟨qx9_0⟩⟩
  rw [if_pos c7] at H
  have c7b0 : ((Int.tmod (ji6) 2) == 1) = true := beq_iff_eq.mpr c7
  have c7b1 : ((Int.tmod (ji6) 2) != 1) = false := bne_eq_false_iff_eq.mpr c7
  clear c7
  by_cases c8 : x5_1.length < 17592186044416
  rotate_left
  ·rw [if_neg c8] at H
   exact absurd H (by simp)
  rw [if_pos c8] at H
  have LMc8 := Aside0.mk c8
  clear c8
  obtain ⟨y345, hy345⟩ : ∃ y_ : List Int, y_ = (x5_1 ++ [x6_1]) := ⟨_, rfl⟩
  replace H : (sleuthlaw44_cutsOf.l0 k1 a0 a1 y345 (wrap64 (x6_1 + 1))) = some r := by first | (rw [hy345]; with_reducible exact H) | (have H2_ := (Option.bind_some _ _).symm.trans H; rw [hy345]; with_reducible exact H2_) | (have H2_ := (Option.bind_some _ _).symm.trans H; with_reducible exact H2_) | with_reducible exact H | (rw [hy345]; exact H) | exact H
  have Ny345 := Aside0.mk hy345
  clear hy345
  have H' := Aside0.mk H
  clear H
  go_wp2_with (first | ((with_reducible refine gate_builtin (b := .append) (xs := #[.tmp 18, .tmp 20]) rfl ?_); at_builtin; refine Kd.R_append (Kd.int .i64) (w0 := w) w.heap.size rfl (.tmp 18) (.tmp 20) 24 3 (.int .i64 0) 8 rfl Try.underlying24 info3 rfl (by decide) (by omega) u5 x5_1 x6_1 [.int .i64 x6_1] (fun _ => True) (fun _ => False) rfl rfl ?aP (fun _ hk => hk.elim) ?aF ?aO ?aB ?aS ?aL ?_; (case aP => exact rfl); (case aB => exact qx9_0); (case aF => exact (fun _ _ => trivial)); (case aO => exact qx9_6); (case aS => exact (below_size qx9_0)); (case aL => have := LMc8.out; omega); intro v346 w9 ho hb hg hat; rw [← Ny345.out] at ho; have n0_ := Aside0.mk (hb); have n1_ := Aside0.mk (ho); clear HB; clear HO_5; have HB := n0_; have HO347 := n1_; clear n0_ n1_; clear ho hb hg hat))
  go_roundg k1
  case measure => have := HK1.out; omega
  case rel => exact ⟨(y345), (wrap64 (x6_1 + 1)), qx9_1, H', ⟨by have := HK1.out; omega⟩, ⟨by (with_reducible repeat (first | apply Kd.R_alloc | apply Kd.R_drewN | apply Kd.R_drew)); exact HO347.out⟩, ⟨qx9_0⟩⟩

end Go.Proofs.Ytiimanpmidnffaa.Q
