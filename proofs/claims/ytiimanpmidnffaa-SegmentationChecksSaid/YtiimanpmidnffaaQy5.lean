-- Laid by myprint.py (a program of this session's, over the kit's printer and with functions proved by hand)
import Derived.Test.YtiimanpmidnffaaQx0
import Derived.Test.YtiimanpmidnffaaQx1
import Derived.Test.YtiimanpmidnffaaQx5
import Derived.Test.YtiimanpmidnffaaQx6
namespace Go.Proofs.Ytiimanpmidnffaa.Q
open Go.RowKit Go.Proofs.YtiimanpmidnffaaW.PrintWords Go.Proofs.YtiimanpmidnffaaW.PrintLast Go.Proofs.YtiimanpmidnffaaW.PrintMore
attribute [local go_sem] max2_int min2_int max_two min_two max_three min_three max_four min_four   -- for this text's walks alone
set_option linter.unusedVariables false
set_option linter.unusedSimpArgs false

theorem qy5_0 {p : Prop} (h : p := by repeat (first | (with_reducible first | exact HB.out | apply below_alloc | apply pw_below_drewN | apply below_drew1) | exact HB.out)) : p := h
theorem qy5_1 {p : Prop} (h : p := by (try simp only [List.map_toArray, List.map_cons, List.map_nil]); first | done | rfl | (simp only [List.length_drop, List.length_take]; rfl)) : p := h
theorem qy5_2 {p : Prop} (h : p := by first | (with_reducible assumption) | assumption) : p := h
theorem qy5_3 {p : Prop} (h : p := by repeat (first | exact HR0.out | (with_reducible refine Kd.C_alloc ?_ _) | (with_reducible refine Kd.C_drewN ?_ _) | (with_reducible refine Kd.C_drew ?_))) : p := h
theorem qy5_4 {p : Prop} (h : p := by first | rfl | (simp; done) | (simp [*]; done)) : p := h
theorem qy5_5 {p : Prop} (h : p := by repeat (first | exact Drawn0.refl _ | apply Drawn0.step)) : p := h
theorem qy5_6 {p : Prop} (h : p := by first | exact Kd.R_nil _ _ _ _ _ | exact Kd.N_nil _ _ _ _ _ | exact Kd.V_nil _ _ _ _ _ | exact Kd.Q_nil _ _ _ _ _ | exact Kd.S_nil _ _ _ _ _) : p := h
theorem qy5_7 {p : Prop} (h : p := by repeat (first | exact HR1.out | (with_reducible refine Kd.C_alloc ?_ _) | (with_reducible refine Kd.C_drewN ?_ _) | (with_reducible refine Kd.C_drew ?_))) : p := h
theorem qy5_8 {p : Prop} (h : p := by (with_reducible repeat (first | apply Kd.R_alloc | apply Kd.R_drewN | apply Kd.R_drew)); exact HO_8.out) : p := h
theorem qy5_9 {p : Prop} (h : p := by repeat (first | (with_reducible exact HR476_0.out) | (with_reducible refine Kd.C_alloc ?_ _) | (with_reducible refine Kd.C_drewN ?_ _) | (with_reducible refine Kd.C_drew ?_) | exact HR476_0.out)) : p := h
theorem qy5_10 {p : Prop} (h : p := by first | rfl | (simp [errW_none, errW_some] <;> rfl) | (simp [*, errW_none, errW_some] <;> rfl)) : p := h
/-! ### sleuthlaw44_check: function 23 -/
def sleuthlaw44_check.l0 : Nat → List Int → Int → Int → Option (Int)
 | 0, _, _, _ => none
 | k + 1, x0, x1, x5 => if x5 < (x0.length : Int) then (if 0 ≤ x5 then (if (rd x0 x5) < (-1099511627776) then (some 2) else (if (rd x0 x5) > 1099511627776 then (some 2) else (sleuthlaw44_check.l0 k x0 x1 (wrap64 (x5 + 1))))) else (none)) else (if x1 < 0 then (some 2) else (if x1 > 1099511627776 then (some 2) else (some 0)))
def sleuthlaw44_check.f (k : Nat) (l0 : List Int) (a1 : Int) : Option (Int) := if (l0.length : Int) = 0 then (some 7) else (if (l0.length : Int) > 1024 then (some 6) else (sleuthlaw44_check.l0 k l0 a1 0))
theorem sleuthlaw44_check.mono_l : ∀ k, (∀ y0 y1 y2, LeO (sleuthlaw44_check.l0 k y0 y1 y2) (sleuthlaw44_check.l0 (k + 1) y0 y1 y2))
 | 0 => fun _ _ _ r h => by simp [sleuthlaw44_check.l0] at h
 | k + 1 => by
  have ih0 := sleuthlaw44_check.mono_l k
  ·intro y0 y1 y2
   unfold sleuthlaw44_check.l0
   repeat' first
   | (with_reducible exact ih0 _ _ _)
   | (with_reducible exact LeO.refl _)
   | (with_reducible exact LeO.none _)
   | (with_reducible refine LeO.ite ?_ ?_)
   | (with_reducible refine LeO.bind ?_ (fun _ => ?_))
   | exact ih0 _ _ _
   | exact LeO.none _
   | refine LeO.ite ?_ ?_
   | refine LeO.bind ?_ (fun _ => ?_)
theorem sleuthlaw44_check.mono : ∀ a0 a1 k, LeO (sleuthlaw44_check.f k a0 a1) (sleuthlaw44_check.f (k + 1) a0 a1) := by
 intro a0 a1 k
 have ih0 := sleuthlaw44_check.mono_l k
 unfold sleuthlaw44_check.f
 repeat' first
   | (with_reducible exact ih0 _ _ _)
   | (with_reducible exact LeO.refl _)
   | (with_reducible exact LeO.none _)
   | (with_reducible refine LeO.ite ?_ ?_)
   | (with_reducible refine LeO.bind ?_ (fun _ => ?_))
   | exact ih0 _ _ _
   | exact LeO.none _
   | refine LeO.ite ?_ ?_
   | refine LeO.bind ?_ (fun _ => ?_)
set_option maxHeartbeats 8000000 in
set_option maxRecDepth 100000 in
theorem sleuthlaw44_check.calls (k : Nat) (A0 : Option Addr) (c0 : Nat) (l0 : List Int) (a1 : Int) (r : Int) (w : World) (hr0 : Kd.C (Kd.int .i64) w A0 l0.length l0) (hc0 : l0.length ≤ c0) (h : sleuthlaw44_check.f k l0 a1 = some r) :
  Calls Try.prog 23 #[.slice A0 l0.length c0, .int .i64 a1] w fun e w' => e = .returned (.int .i64 r) ∧ Drawn0 w w' := by
 have HR0 := Aside0.mk hr0
 have HC0 := Aside0.mk hc0
 clear hr0 hc0
 have H : (if (l0.length : Int) = 0 then (some 7) else (if (l0.length : Int) > 1024 then (some 6) else (sleuthlaw44_check.l0 k l0 a1 0))) = some r := h
 clear h
 by_cases c3 : (l0.length : Int) = 0
 ·rw [if_pos c3] at H
  have c3b0 : ((l0.length : Int) == 0) = true := beq_iff_eq.mpr c3
  have c3b1 : ((l0.length : Int) != 0) = false := bne_eq_false_iff_eq.mpr c3
  clear c3
  obtain rfl := Option.some.inj H
  go_enter Try.func23, Try.ntmps23
  go_wp2
  go_ret
  exact ⟨qy5_4, qy5_5⟩
 ·rw [if_neg c3] at H
  have c3b0 : ((l0.length : Int) == 0) = false := beq_eq_false_iff_ne.mpr c3
  have c3b1 : ((l0.length : Int) != 0) = true := bne_iff_ne.mpr c3
  have c3b2 : ¬ (l0 = []) := fun h_ => c3 (by rw [h_]; rfl)
  by_cases c4 : (l0.length : Int) > 1024
  ·rw [if_pos c4] at H
   have c4b0 : decide (1024 < (l0.length : Int)) = true := decide_eq_true c4
   have c4b1 : decide (1024 < l0.length) = true := decide_eq_true (by omega)
   clear c4
   obtain rfl := Option.some.inj H
   go_enter Try.func23, Try.ntmps23
   go_wp2
   go_ret
   exact ⟨qy5_4, qy5_5⟩
  ·rw [if_neg c4] at H
   have c4b0 : decide (1024 < (l0.length : Int)) = false := decide_eq_false c4
   have c4b1 : decide (1024 < l0.length) = false := decide_eq_false (by omega)
   clear c4
   have H' := Aside0.mk H
   clear H
   go_enter Try.func23, Try.ntmps23
   go_wp2
   go_loopg [5] k (fun kq v5 w' => ∃ (x5_1 : Int), v5 = .int .i64 x5_1 ∧ Aside0 (sleuthlaw44_check.l0 kq l0 a1 x5_1 = some r) ∧ Aside0 (kq ≤ k) ∧ Drawn0 w w')
   case atStart => exact ⟨(0), qy5_4, H', ⟨Nat.le_refl _⟩, qy5_5⟩
   case round =>
    clear H'
    try clear c2
    try clear p2
    try clear c3
    try clear c3b0
    try clear c3b1
    try clear c3b2
    try clear c4
    try clear c4b0
    try clear c4b1
    obtain ⟨x5_1, rfl, HA, HK1, ⟨m1, rfl⟩⟩ := hrel
    cases gk with
    | zero => exact absurd HA.out (by simp [sleuthlaw44_check.l0])
    | succ k1 =>
     have H := HA.out
     clear HA
     simp only [sleuthlaw44_check.l0] at H
     by_cases c5 : x5_1 < (l0.length : Int)
     ·rw [if_pos c5] at H
      have c5b0 : decide (x5_1 < (l0.length : Int)) = true := decide_eq_true c5
      clear c5
      by_cases c6 : 0 ≤ x5_1
      ·rw [if_pos c6] at H
       have c6b0 : decide (0 ≤ x5_1) = true := decide_eq_true c6
       clear c6
       by_cases c7 : (rd l0 x5_1) < (-1099511627776)
       ·rw [if_pos c7] at H
        have c7b0 : decide ((rd l0 x5_1) < (-1099511627776)) = true := decide_eq_true c7
        clear c7
        obtain rfl := Option.some.inj H
        have p439 : 0 ≤ (x5_1 : Int) := of_decide_eq_true qy5_2
        have q439 : x5_1 < (l0.length : Int) := of_decide_eq_true qy5_2
        obtain ⟨ad439, e439, hx439_0⟩ := Kd.at_int HR0.out x5_1 p439 q439
        cases e439
        replace p439 := eq_true p439
        replace q439 := eq_true q439
        go_wp2
        go_ret
        exact ⟨qy5_4, qy5_5⟩
       ·rw [if_neg c7] at H
        have c7b0 : decide ((rd l0 x5_1) < (-1099511627776)) = false := decide_eq_false c7
        clear c7
        by_cases c8 : (rd l0 x5_1) > 1099511627776
        ·rw [if_pos c8] at H
         have c8b0 : decide (1099511627776 < (rd l0 x5_1)) = true := decide_eq_true c8
         clear c8
         obtain rfl := Option.some.inj H
         have p439 : 0 ≤ (x5_1 : Int) := of_decide_eq_true qy5_2
         have q439 : x5_1 < (l0.length : Int) := of_decide_eq_true qy5_2
         obtain ⟨ad439, e439, hx439_0⟩ := Kd.at_int HR0.out x5_1 p439 q439
         cases e439
         replace p439 := eq_true p439
         replace q439 := eq_true q439
         have p440 : 0 ≤ (x5_1 : Int) := of_decide_eq_true qy5_2
         have q440 : x5_1 < (l0.length : Int) := of_decide_eq_true qy5_2
         obtain ⟨ad440, e440, hx440_0⟩ := Kd.at_int HR0.out x5_1 p440 q440
         obtain rfl : ad439 = ad440 := (by injection e440)
         replace p440 := eq_true p440
         replace q440 := eq_true q440
         go_wp2
         go_ret
         exact ⟨qy5_4, qy5_5⟩
        ·rw [if_neg c8] at H
         have c8b0 : decide (1099511627776 < (rd l0 x5_1)) = false := decide_eq_false c8
         clear c8
         have H' := Aside0.mk H
         clear H
         have p439 : 0 ≤ (x5_1 : Int) := of_decide_eq_true qy5_2
         have q439 : x5_1 < (l0.length : Int) := of_decide_eq_true qy5_2
         obtain ⟨ad439, e439, hx439_0⟩ := Kd.at_int HR0.out x5_1 p439 q439
         cases e439
         replace p439 := eq_true p439
         replace q439 := eq_true q439
         have p440 : 0 ≤ (x5_1 : Int) := of_decide_eq_true qy5_2
         have q440 : x5_1 < (l0.length : Int) := of_decide_eq_true qy5_2
         obtain ⟨ad440, e440, hx440_0⟩ := Kd.at_int HR0.out x5_1 p440 q440
         obtain rfl : ad439 = ad440 := (by injection e440)
         replace p440 := eq_true p440
         replace q440 := eq_true q440
         go_wp2
         go_roundg k1
         case measure => have := HK1.out; omega
         case rel => exact ⟨(wrap64 (x5_1 + 1)), qy5_4, H', ⟨by have := HK1.out; omega⟩, qy5_5⟩
      ·rw [if_neg c6] at H
       exact absurd H (by simp)
     ·rw [if_neg c5] at H
      have c5b0 : decide (x5_1 < (l0.length : Int)) = false := decide_eq_false c5
      clear c5
      by_cases c9 : a1 < 0
      ·rw [if_pos c9] at H
       have c9b0 : decide (a1 < 0) = true := decide_eq_true c9
       clear c9
       obtain rfl := Option.some.inj H
       go_wp2
       go_ret
       exact ⟨qy5_4, qy5_5⟩
      ·rw [if_neg c9] at H
       have c9b0 : decide (a1 < 0) = false := decide_eq_false c9
       clear c9
       by_cases c10 : a1 > 1099511627776
       ·rw [if_pos c10] at H
        have c10b0 : decide (1099511627776 < a1) = true := decide_eq_true c10
        clear c10
        obtain rfl := Option.some.inj H
        go_wp2
        go_ret
        exact ⟨qy5_4, qy5_5⟩
       ·rw [if_neg c10] at H
        have c10b0 : decide (1099511627776 < a1) = false := decide_eq_false c10
        clear c10
        obtain rfl := Option.some.inj H
        go_wp2
        go_ret
        exact ⟨qy5_4, qy5_5⟩

-- NOT PRINTED: function 6 (sleuthlaw44_SegmentationRaw)

-- NOT PRINTED: function 7 (sleuthlaw44_SegmentationMoves)

/-! ### segmentation_Levels: function 28 -/
def segmentation_Levels.l0 : Nat → List Int → List (List Int) → Int → Int → Option (List Int × Int)
 | 0, _, _, _, _ => none
 | k + 1, x8, x24, x25, x26 => if x26 < x25 then (if 0 ≤ x26 then (if x26 < (x24.length : Int) then ((segmentation_median.f (rd_L1 x24 x26)).bind fun t477 => (if x8.length < 17592186044416 then (segmentation_Levels.l0 k (x8 ++ [t477]) x24 x25 (wrap64 (x26 + 1))) else (none))) else (none)) else (none)) else (some (x8, 0))
def segmentation_Levels.f (k : Nat) (l0 : List Int) (l1 : List Int) : Option (List Int × Int) := (segmentation_Check.f k l0 0).bind fun t471 => (if t471 = 0 then ((segmentation_checkCuts.f k l0 l1).bind fun t472 => (if t472 = 0 then ((segmentation_parts.f k l0 l1).bind fun t473 => (segmentation_Levels.l0 k ([] : List Int) t473 (t473.length : Int) 0)) else (some (([] : List Int), t472)))) else (some (([] : List Int), t471)))
theorem segmentation_Levels.mono_l : ∀ k, (∀ y0 y1 y2 y3, LeO (segmentation_Levels.l0 k y0 y1 y2 y3) (segmentation_Levels.l0 (k + 1) y0 y1 y2 y3))
 | 0 => fun _ _ _ _ r h => by simp [segmentation_Levels.l0] at h
 | k + 1 => by
  have ih0 := segmentation_Levels.mono_l k
  ·intro y0 y1 y2 y3
   unfold segmentation_Levels.l0
   repeat' first
   | (with_reducible exact ih0 _ _ _ _)
   | (with_reducible exact segmentation_Check.mono _ _ _)
   | (with_reducible exact segmentation_checkCuts.mono _ _ _)
   | (with_reducible exact segmentation_parts.mono _ _ _)
   | (with_reducible exact LeO.refl _)
   | (with_reducible exact LeO.none _)
   | (with_reducible refine LeO.ite ?_ ?_)
   | (with_reducible refine LeO.bind ?_ (fun _ => ?_))
   | exact ih0 _ _ _ _
   | exact segmentation_Check.mono _ _ _
   | exact segmentation_checkCuts.mono _ _ _
   | exact segmentation_parts.mono _ _ _
   | exact LeO.none _
   | refine LeO.ite ?_ ?_
   | refine LeO.bind ?_ (fun _ => ?_)
theorem segmentation_Levels.mono : ∀ a0 a1 k, LeO (segmentation_Levels.f k a0 a1) (segmentation_Levels.f (k + 1) a0 a1) := by
 intro a0 a1 k
 have ih0 := segmentation_Levels.mono_l k
 unfold segmentation_Levels.f
 repeat' first
   | (with_reducible exact ih0 _ _ _ _)
   | (with_reducible exact segmentation_Check.mono _ _ _)
   | (with_reducible exact segmentation_checkCuts.mono _ _ _)
   | (with_reducible exact segmentation_parts.mono _ _ _)
   | (with_reducible exact LeO.refl _)
   | (with_reducible exact LeO.none _)
   | (with_reducible refine LeO.ite ?_ ?_)
   | (with_reducible refine LeO.bind ?_ (fun _ => ?_))
   | exact ih0 _ _ _ _
   | exact segmentation_Check.mono _ _ _
   | exact segmentation_checkCuts.mono _ _ _
   | exact segmentation_parts.mono _ _ _
   | exact LeO.none _
   | refine LeO.ite ?_ ?_
   | refine LeO.bind ?_ (fun _ => ?_)
set_option maxHeartbeats 8000000 in
set_option maxRecDepth 100000 in
theorem segmentation_Levels.calls (k : Nat) (A0 : Option Addr) (c0 : Nat) (l0 : List Int) (A1 : Option Addr) (c1 : Nat) (l1 : List Int) (r1 : List Int) (r2 : Int) (w : World) (hr0 : Kd.C (Kd.int .i64) w A0 l0.length l0) (hc0 : l0.length ≤ c0) (hr1 : Kd.C (Kd.int .i64) w A1 l1.length l1) (hc1 : l1.length ≤ c1) (h : segmentation_Levels.f k l0 l1 = some (r1, r2)) :
  Calls Try.prog 28 #[.slice A0 l0.length c0, .slice A1 l1.length c1] w fun e w' => ∃ v0_ : Value, e = .returned (.tuple #[v0_, .int .i64 r2]) ∧ Kd.R (Kd.int .i64) 3 w' w.heap.size (fun _ => True) v0_ r1 ∧ Below w.heap.size w w' := by
 have HR0 := Aside0.mk hr0
 have HC0 := Aside0.mk hc0
 clear hr0 hc0
 have HR1 := Aside0.mk hr1
 have HC1 := Aside0.mk hc1
 clear hr1 hc1
 have HB := Aside0.mk (Below.refl w.heap.size w)
 have H : ((segmentation_Check.f k l0 0).bind fun t471 => (if t471 = 0 then ((segmentation_checkCuts.f k l0 l1).bind fun t472 => (if t472 = 0 then ((segmentation_parts.f k l0 l1).bind fun t473 => (segmentation_Levels.l0 k ([] : List Int) t473 (t473.length : Int) 0)) else (some (([] : List Int), t472)))) else (some (([] : List Int), t471)))) = some (r1, r2) := h
 clear h
 replace H := Option.bind_eq_some_iff.mp H
 obtain ⟨t471, A30, H⟩ := H
 replace H : (if t471 = 0 then ((segmentation_checkCuts.f k l0 l1).bind fun t472 => (if t472 = 0 then ((segmentation_parts.f k l0 l1).bind fun t473 => (segmentation_Levels.l0 k ([] : List Int) t473 (t473.length : Int) 0)) else (some (([] : List Int), t472)))) else (some (([] : List Int), t471))) = some (r1, r2) := H
 have A3 := Aside0.mk A30
 clear A30
 by_cases c4 : t471 = 0
 ·rw [if_pos c4] at H
  have c4b0 : (t471 == 0) = true := beq_iff_eq.mpr c4
  have c4b1 : (t471 != 0) = false := bne_eq_false_iff_eq.mpr c4
  clear c4
  replace H := Option.bind_eq_some_iff.mp H
  obtain ⟨t472, A50, H⟩ := H
  replace H : (if t472 = 0 then ((segmentation_parts.f k l0 l1).bind fun t473 => (segmentation_Levels.l0 k ([] : List Int) t473 (t473.length : Int) 0)) else (some (([] : List Int), t472))) = some (r1, r2) := H
  have A5 := Aside0.mk A50
  clear A50
  by_cases c6 : t472 = 0
  ·rw [if_pos c6] at H
   have c6b0 : (t472 == 0) = true := beq_iff_eq.mpr c6
   have c6b1 : (t472 != 0) = false := bne_eq_false_iff_eq.mpr c6
   clear c6
   replace H := Option.bind_eq_some_iff.mp H
   obtain ⟨t473, A70, H⟩ := H
   replace H : (segmentation_Levels.l0 k ([] : List Int) t473 (t473.length : Int) 0) = some (r1, r2) := H
   have A7 := Aside0.mk A70
   clear A70
   have H' := Aside0.mk H
   clear H
   go_enter Try.func28, Try.ntmps28
   go_wp2_with (first | ((with_reducible refine gate_callee (f := 36) rfl ?_); refine goesL_ (some 12) rfl rfl Try.func36 (by kernel_rfl) rfl #[.slice A0 l0.length c0, .int .i64 0] rfl qy5_1 ?_; (with_reducible refine (segmentation_Check.calls k _ _ l0 0 t471 _ ?side1 ?side2 A3.out).mono ?_); (case side1 => exact qy5_3); (case side2 => exact HC0.out); rintro e w' ⟨rfl, ⟨nd, rfl⟩⟩; refine ⟨_, rfl, ?_⟩) | ((with_reducible refine gate_callee (f := 41) rfl ?_); refine goesL_ (some 18) rfl rfl Try.func41 (by kernel_rfl) rfl #[.slice A0 l0.length c0, .slice A1 l1.length c1] rfl qy5_1 ?_; (with_reducible refine (segmentation_checkCuts.calls k _ _ l0 _ _ l1 t472 _ ?side1 ?side2 ?side3 ?side4 A5.out).mono ?_); (case side1 => exact qy5_3); (case side2 => exact HC0.out); (case side3 => exact qy5_7); (case side4 => exact HC1.out); rintro e w' ⟨rfl, ⟨nd, rfl⟩⟩; refine ⟨_, rfl, ?_⟩) | ((with_reducible refine gate_callee (f := 42) rfl ?_); refine goesL_ (some 24) rfl rfl Try.func42 (by kernel_rfl) rfl #[.slice A0 l0.length c0, .slice A1 l1.length c1] rfl qy5_1 ?_; (with_reducible refine (segmentation_parts.calls k (fun k_ => k_ < w.heap.size) _ _ l0 _ _ l1 t473 _ ?side1 ?side2 ?side3 A7.out).mono ?_); (case side1 => exact Kd.V_mk HC0.out (Kd.F_below (Kd.C_F (Kd.heap_int .i64) HR0.out) qy5_0)); (case side2 => exact qy5_7); (case side3 => exact HC1.out); rintro e w8 ⟨v474, rfl, ho0, hb⟩; refine ⟨_, rfl, ?_⟩; have n0_ := Aside0.mk (Kd.N_lower (Kd.N_mono (ok' := fun k_ => True) ho0 (fun k_ hk_ => trivial)) (below_size qy5_0)); have n1_ := Aside0.mk (below_step qy5_0 hb); clear HB; have HO475 := n0_; have HB := n1_; clear n0_ n1_; (try clear hb); (try clear hb2); (try clear hk); (try clear hi); (try clear ho0); obtain ⟨Ao9, co9, eo9⟩ := Kd.N_slice HO475.out; subst eo9))
   go_loopg [8, 26] k (fun kq v8 v26 w' => ∃ (x8_1 : List Int) (x26_1 : Int), v26 = .int .i64 x26_1 ∧ Aside0 (segmentation_Levels.l0 kq x8_1 t473 (t473.length : Int) x26_1 = some (r1, r2)) ∧ Aside0 (kq ≤ k) ∧ Aside0 (Kd.R (Kd.int .i64) 3 w' w.heap.size (fun _ => True) v8 x8_1) ∧ Aside0 (Kd.N (Kd.slice 3 (Kd.int .i64)) 24 w' w.heap.size (fun k_ => some k_ ≠ (v8 : Value).ownBlock) (.slice Ao9 t473.length co9) t473) ∧ Aside0 (Below w.heap.size w w'))
   case atStart => exact ⟨(([] : List Int)), (0), qy5_4, H', ⟨Nat.le_refl _⟩, ⟨qy5_6⟩, ⟨by (with_reducible repeat (first | apply Kd.N_alloc | apply Kd.N_drewN | apply Kd.N_drew)); exact Kd.N_mono HO475.out (fun _ hk => (by simp [Value.ownBlock]))⟩, ⟨qy5_0⟩⟩
   case round =>
    clear H'
    try clear c1
    try clear c2
    try clear p2
    try clear c3
    try clear c4
    try clear c4b0
    try clear c4b1
    try clear c6
    try clear c6b0
    try clear c6b1
    obtain ⟨x8_1, x26_1, rfl, HA, HK1, HO_8, HO_24, HB⟩ := hrel
    cases gk with
    | zero => exact absurd HA.out (by simp [segmentation_Levels.l0])
    | succ k1 =>
     have H := HA.out
     clear HA
     simp only [segmentation_Levels.l0] at H
     by_cases c10 : x26_1 < (t473.length : Int)
     ·rw [if_pos c10] at H
      have c10b0 : decide (x26_1 < (t473.length : Int)) = true := decide_eq_true c10
      clear c10
      by_cases c11 : 0 ≤ x26_1
      ·rw [if_pos c11] at H
       have c11b0 : decide (0 ≤ x26_1) = true := decide_eq_true c11
       clear c11
       by_cases c12 : x26_1 < (t473.length : Int)
       ·rw [if_pos c12] at H
        have c12b0 : decide (x26_1 < (t473.length : Int)) = true := decide_eq_true c12
        clear c12
        replace H := Option.bind_eq_some_iff.mp H
        obtain ⟨t477, A130, H⟩ := H
        replace H : (if x8_1.length < 17592186044416 then (segmentation_Levels.l0 k1 (x8_1 ++ [t477]) t473 (t473.length : Int) (wrap64 (x26_1 + 1))) else (none)) = some (r1, r2) := H
        have A13 := Aside0.mk A130
        clear A130
        by_cases c14 : x8_1.length < 17592186044416
        ·rw [if_pos c14] at H
         have LMc14 := Aside0.mk c14
         clear c14
         obtain ⟨y478, hy478⟩ : ∃ y_ : List Int, y_ = (x8_1 ++ [t477]) := ⟨_, rfl⟩
         replace H : (segmentation_Levels.l0 k1 y478 t473 (t473.length : Int) (wrap64 (x26_1 + 1))) = some (r1, r2) := by first | (rw [hy478]; with_reducible exact H) | (have H2_ := (Option.bind_some _ _).symm.trans H; rw [hy478]; with_reducible exact H2_) | (have H2_ := (Option.bind_some _ _).symm.trans H; with_reducible exact H2_) | with_reducible exact H | (rw [hy478]; exact H) | exact H
         have Ny478 := Aside0.mk hy478
         clear hy478
         have H' := Aside0.mk H
         clear H
         have p476 : 0 ≤ (x26_1 : Int) := of_decide_eq_true qy5_2
         have q476 : x26_1 < (t473.length : Int) := of_decide_eq_true qy5_2
         obtain ⟨ad476, A476_0, c476_0, e476, hx476_0, hl476_0, hi476_0⟩ := at_L1 (Kd.N_reads' HO_24.out).2.2 x26_1 p476 q476
         cases e476
         obtain ⟨ce476, hce476, hMe476, hcc476⟩ := Kd.N_get HO_24.out [] x26_1 p476 (by first | exact q476 | exact of_decide_eq_true qy5_2 | (have e_ := (Kd.N_reads' HO_24.out).1; omega))
         obtain ⟨ua476_0, uc476_0, rfl, ul476_0, ge476_0⟩ := Kd.FK_slice_open hMe476
         have hv476_0 := hcc476 0 _ rfl
         rw [Nat.add_zero, show ((Kd.slice 3 (Kd.int .i64))).sz = 1 from rfl, Nat.mul_one] at hv476_0
         replace hv476_0 := Option.some.inj (hv476_0.symm.trans hx476_0)
         injection hv476_0 with hva_ hvn_ hvc_
         rw [hva_] at ge476_0
         rw [hvc_] at ul476_0
         have HL476_0 := Aside0.mk (show Kd.V (Kd.int .i64) 3 _ w.heap.size _ _ (rd_L1 t473 x26_1) from Kd.V_mk ul476_0 ge476_0)
         clear hva_ hvn_ hvc_ ge476_0 ul476_0
         clear hcc476 hce476
         have HR476_0 := Aside0.mk hi476_0
         have HC476_0 := Aside0.mk hl476_0
         clear hi476_0 hl476_0
         replace p476 := eq_true p476
         replace q476 := eq_true q476
         go_wp2_with (first | ((with_reducible refine gate_callee (f := 44) rfl ?_); refine goesL_ (some 32) rfl rfl Try.func44 (by kernel_rfl) rfl #[.slice A476_0 (rd_L1 t473 x26_1).length c476_0] rfl qy5_1 ?_; (with_reducible refine (segmentation_median.calls _ _ (rd_L1 t473 x26_1) t477 _ ?side1 ?side2 A13.out).mono ?_); (case side1 => repeat (first | exact qy5_9 | (with_reducible refine Kd.C_alloc ?_ _) | (with_reducible refine Kd.C_drewN ?_ _) | (with_reducible refine Kd.C_drew ?_))); (case side2 => exact HC476_0.out); rintro e w15 ⟨rfl, hb⟩; refine ⟨_, rfl, ?_⟩; have n0_ := Aside0.mk (Kd.R_below qy5_8 hb); have n1_ := Aside0.mk (Kd.N_below (by (with_reducible repeat (first | apply Kd.N_alloc | apply Kd.N_drewN | apply Kd.N_drew)); exact HO_24.out) hb); have n2_ := Aside0.mk (Kd.V_below (by (with_reducible repeat (first | apply Kd.V_alloc | apply Kd.V_drewN | apply Kd.V_drew)); exact HL476_0.out) hb); have n3_ := Aside0.mk (Kd.C_below qy5_9 hb); have n4_ := Aside0.mk (below_step qy5_0 hb); clear HO_8; clear HO_24; clear HL476_0; clear HR476_0; clear HB; have HO_8 := n0_; have HO_24 := n1_; have HL476_0 := n2_; have HR476_0 := n3_; have HB := n4_; clear n0_ n1_ n2_ n3_ n4_; (try clear hb); (try clear hb2); (try clear hk); (try clear hi)) | ((with_reducible refine gate_builtin (b := .append) (xs := #[.tmp 30, .tmp 33]) rfl ?_); at_builtin; refine Kd.R_append (Kd.int .i64) (w0 := w) w.heap.size rfl (.tmp 30) (.tmp 33) 24 3 (.int .i64 0) 8 rfl Try.underlying24 info3 rfl (by decide) (by omega) u8 x8_1 t477 [.int .i64 t477] (fun _ => True) (fun _ => False) rfl rfl ?aP (fun _ hk => hk.elim) ?aF ?aO ?aB ?aS ?aL ?_; (case aP => exact rfl); (case aB => exact qy5_0); (case aF => exact (fun _ _ => trivial)); (case aO => exact qy5_8); (case aS => exact (below_size qy5_0)); (case aL => have := LMc14.out; omega); intro v479 w16 ho hb hg hat; rw [← Ny478.out] at ho; have n0_ := Aside0.mk (Kd.N_afterv (ok := (fun _ => True)) (by (with_reducible repeat (first | apply Kd.N_alloc | apply Kd.N_drewN | apply Kd.N_drew)); exact Kd.N_mono HO_24.out (fun _ hk => ⟨trivial, hk⟩)) hg hat); have n1_ := Aside0.mk (Kd.V_afterv (ok := (fun k_ => some k_ ≠ (.slice (some ad476) t473.length co9 : Value).ownBlock)) (by (with_reducible repeat (first | apply Kd.V_alloc | apply Kd.V_drewN | apply Kd.V_drew)); exact Kd.V_mono HL476_0.out (fun _ hk => ⟨hk.2, hk.1⟩)) hg hat); have n2_ := Aside0.mk (hb); have n3_ := Aside0.mk (ho); clear HO_24; clear HL476_0; clear HB; clear HO_8; have HO_24 := n0_; have HL476_0 := n1_; have HB := n2_; have HO480 := n3_; clear n0_ n1_ n2_ n3_; clear ho hb hg hat))
         go_roundg k1
         case measure => have := HK1.out; omega
         case rel => exact ⟨(y478), (wrap64 (x26_1 + 1)), qy5_4, H', ⟨by have := HK1.out; omega⟩, ⟨by (with_reducible repeat (first | apply Kd.R_alloc | apply Kd.R_drewN | apply Kd.R_drew)); exact HO480.out⟩, ⟨by (with_reducible repeat (first | apply Kd.N_alloc | apply Kd.N_drewN | apply Kd.N_drew)); exact Kd.N_mono HO_24.out (fun _ hk => hk.2)⟩, ⟨qy5_0⟩⟩
        ·rw [if_neg c14] at H
         exact absurd H (by simp)
       ·rw [if_neg c12] at H
        exact absurd H (by simp)
      ·rw [if_neg c11] at H
       exact absurd H (by simp)
     ·rw [if_neg c10] at H
      have c10b0 : decide (x26_1 < (t473.length : Int)) = false := decide_eq_false c10
      clear c10
      simp only [Option.some.injEq, Prod.mk.injEq] at H
      obtain ⟨rfl, rfl⟩ := H
      go_wp2
      go_ret2
      exact ⟨_, qy5_10, qy5_8, qy5_0⟩
  ·rw [if_neg c6] at H
   have c6b0 : (t472 == 0) = false := beq_eq_false_iff_ne.mpr c6
   have c6b1 : (t472 != 0) = true := bne_iff_ne.mpr c6
   simp only [Option.some.injEq, Prod.mk.injEq] at H
   obtain ⟨rfl, rfl⟩ := H
   go_enter Try.func28, Try.ntmps28
   go_wp2_with (first | ((with_reducible refine gate_callee (f := 36) rfl ?_); refine goesL_ (some 12) rfl rfl Try.func36 (by kernel_rfl) rfl #[.slice A0 l0.length c0, .int .i64 0] rfl qy5_1 ?_; (with_reducible refine (segmentation_Check.calls k _ _ l0 0 t471 _ ?side1 ?side2 A3.out).mono ?_); (case side1 => exact qy5_3); (case side2 => exact HC0.out); rintro e w' ⟨rfl, ⟨nd, rfl⟩⟩; refine ⟨_, rfl, ?_⟩) | ((with_reducible refine gate_callee (f := 41) rfl ?_); refine goesL_ (some 18) rfl rfl Try.func41 (by kernel_rfl) rfl #[.slice A0 l0.length c0, .slice A1 l1.length c1] rfl qy5_1 ?_; (with_reducible refine (segmentation_checkCuts.calls k _ _ l0 _ _ l1 t472 _ ?side1 ?side2 ?side3 ?side4 A5.out).mono ?_); (case side1 => exact qy5_3); (case side2 => exact HC0.out); (case side3 => exact qy5_7); (case side4 => exact HC1.out); rintro e w' ⟨rfl, ⟨nd, rfl⟩⟩; refine ⟨_, rfl, ?_⟩))
   go_ret2
   exact ⟨_, qy5_10, qy5_6, qy5_0⟩
 ·rw [if_neg c4] at H
  have c4b0 : (t471 == 0) = false := beq_eq_false_iff_ne.mpr c4
  have c4b1 : (t471 != 0) = true := bne_iff_ne.mpr c4
  simp only [Option.some.injEq, Prod.mk.injEq] at H
  obtain ⟨rfl, rfl⟩ := H
  go_enter Try.func28, Try.ntmps28
  go_wp2_with (first | ((with_reducible refine gate_callee (f := 36) rfl ?_); refine goesL_ (some 12) rfl rfl Try.func36 (by kernel_rfl) rfl #[.slice A0 l0.length c0, .int .i64 0] rfl qy5_1 ?_; (with_reducible refine (segmentation_Check.calls k _ _ l0 0 t471 _ ?side1 ?side2 A3.out).mono ?_); (case side1 => exact qy5_3); (case side2 => exact HC0.out); rintro e w' ⟨rfl, ⟨nd, rfl⟩⟩; refine ⟨_, rfl, ?_⟩))
  go_ret2
  exact ⟨_, qy5_10, qy5_6, qy5_0⟩
end Go.Proofs.Ytiimanpmidnffaa.Q
