-- Laid by myprint.py (a program of this session's, over the kit's printer and with functions proved by hand)
import Derived.Test.YtiimanpmidnffaaQx0
import Derived.Test.YtiimanpmidnffaaQx1
import Derived.Test.YtiimanpmidnffaaQx6
namespace Go.Proofs.Ytiimanpmidnffaa.Q
open Go.RowKit Go.Proofs.YtiimanpmidnffaaW.PrintWords Go.Proofs.YtiimanpmidnffaaW.PrintLast Go.Proofs.YtiimanpmidnffaaW.PrintMore
attribute [local go_sem] max2_int min2_int max_two min_two max_three min_three max_four min_four   -- for this text's walks alone
set_option linter.unusedVariables false
set_option linter.unusedSimpArgs false

theorem qy8_0 {p : Prop} (h : p := by repeat (first | exact HR0.out | (with_reducible refine Kd.C_alloc ?_ _) | (with_reducible refine Kd.C_drewN ?_ _) | (with_reducible refine Kd.C_drew ?_))) : p := h
theorem qy8_1 {p : Prop} (h : p := by (try simp only [List.map_toArray, List.map_cons, List.map_nil]); first | done | rfl | (simp only [List.length_drop, List.length_take]; rfl)) : p := h
theorem qy8_2 {p : Prop} (h : p := by repeat (first | (with_reducible first | exact HB.out | apply below_alloc | apply pw_below_drewN | apply below_drew1) | exact HB.out)) : p := h
theorem qy8_3 {p : Prop} (h : p := by (try simp only [List.map_toArray, List.map_cons, List.map_nil]); first | done | (rw [show ((l0.take (a2 : Int).toNat).drop (a1 : Int).toNat).length = (a2.toNat - a1.toNat) from (by rw [List.length_drop, List.length_take]; have h_ : (a2 : Int) ≤ (l0.length : Int) := of_decide_eq_true (by first | (with_reducible assumption) | assumption); omega)] <;> rfl) | rfl | (simp only [List.length_drop, List.length_take]; rfl)) : p := h
theorem qy8_4 {p : Prop} (h : p := by first | rfl | (simp [errW_none, errW_some] <;> rfl) | (simp [*, errW_none, errW_some] <;> rfl)) : p := h
theorem qy8_5 {p : Prop} (h : p := by first | (with_reducible assumption) | assumption) : p := h
theorem qy8_6 {p : Prop} (h : p := by repeat (first | exact Drawn0.refl _ | apply Drawn0.step)) : p := h
theorem qy8_7 {p : Prop} (h : p := by first | rfl | (simp; done) | (simp [*]; done)) : p := h
/-! ### segmentation_checkPart: function 45 -/
def segmentation_checkPart.f (k : Nat) (l0 : List Int) (a1 : Int) (a2 : Int) : Option (Int) := (segmentation_Check.f k l0 0).bind fun t499 => (if t499 = 0 then (if a1 < 0 then (some 2) else (if a1 ≥ a2 then (some 2) else (if a2 > (l0.length : Int) then (some 2) else (some 0)))) else (some t499))
theorem segmentation_checkPart.mono : ∀ a0 a1 a2 k, LeO (segmentation_checkPart.f k a0 a1 a2) (segmentation_checkPart.f (k + 1) a0 a1 a2) := by
 intro a0 a1 a2 k
 unfold segmentation_checkPart.f
 repeat' first
   | (with_reducible exact segmentation_Check.mono _ _ _)
   | (with_reducible exact LeO.refl _)
   | (with_reducible exact LeO.none _)
   | (with_reducible refine LeO.ite ?_ ?_)
   | (with_reducible refine LeO.bind ?_ (fun _ => ?_))
   | exact segmentation_Check.mono _ _ _
   | exact LeO.none _
   | refine LeO.ite ?_ ?_
   | refine LeO.bind ?_ (fun _ => ?_)
set_option maxHeartbeats 8000000 in
set_option maxRecDepth 100000 in
theorem segmentation_checkPart.calls (k : Nat) (A0 : Option Addr) (c0 : Nat) (l0 : List Int) (a1 : Int) (a2 : Int) (r : Int) (w : World) (hr0 : Kd.C (Kd.int .i64) w A0 l0.length l0) (hc0 : l0.length ≤ c0) (h : segmentation_checkPart.f k l0 a1 a2 = some r) :
  Calls Try.prog 45 #[.slice A0 l0.length c0, .int .i64 a1, .int .i64 a2] w fun e w' => e = .returned (.int .i64 r) ∧ Drawn0 w w' := by
 have HR0 := Aside0.mk hr0
 have HC0 := Aside0.mk hc0
 clear hr0 hc0
 have H : ((segmentation_Check.f k l0 0).bind fun t499 => (if t499 = 0 then (if a1 < 0 then (some 2) else (if a1 ≥ a2 then (some 2) else (if a2 > (l0.length : Int) then (some 2) else (some 0)))) else (some t499))) = some r := h
 clear h
 replace H := Option.bind_eq_some_iff.mp H
 obtain ⟨t499, A40, H⟩ := H
 replace H : (if t499 = 0 then (if a1 < 0 then (some 2) else (if a1 ≥ a2 then (some 2) else (if a2 > (l0.length : Int) then (some 2) else (some 0)))) else (some t499)) = some r := H
 have A4 := Aside0.mk A40
 clear A40
 by_cases c5 : t499 = 0
 ·rw [if_pos c5] at H
  have c5b0 : (t499 == 0) = true := beq_iff_eq.mpr c5
  have c5b1 : (t499 != 0) = false := bne_eq_false_iff_eq.mpr c5
  clear c5
  by_cases c6 : a1 < 0
  ·rw [if_pos c6] at H
   have c6b0 : decide (a1 < 0) = true := decide_eq_true c6
   clear c6
   obtain rfl := Option.some.inj H
   go_enter Try.func45, Try.ntmps45
   go_wp2_with (first | ((with_reducible refine gate_callee (f := 36) rfl ?_); refine goesL_ (some 9) rfl rfl Try.func36 (by kernel_rfl) rfl #[.slice A0 l0.length c0, .int .i64 0] rfl qy8_1 ?_; (with_reducible refine (segmentation_Check.calls k _ _ l0 0 t499 _ ?side1 ?side2 A4.out).mono ?_); (case side1 => exact qy8_0); (case side2 => exact HC0.out); rintro e w' ⟨rfl, ⟨nd, rfl⟩⟩; refine ⟨_, rfl, ?_⟩))
   go_ret
   exact ⟨qy8_7, qy8_6⟩
  ·rw [if_neg c6] at H
   have c6b0 : decide (a1 < 0) = false := decide_eq_false c6
   clear c6
   by_cases c7 : a1 ≥ a2
   ·rw [if_pos c7] at H
    have c7b0 : decide (a2 ≤ a1) = true := decide_eq_true c7
    clear c7
    obtain rfl := Option.some.inj H
    go_enter Try.func45, Try.ntmps45
    go_wp2_with (first | ((with_reducible refine gate_callee (f := 36) rfl ?_); refine goesL_ (some 9) rfl rfl Try.func36 (by kernel_rfl) rfl #[.slice A0 l0.length c0, .int .i64 0] rfl qy8_1 ?_; (with_reducible refine (segmentation_Check.calls k _ _ l0 0 t499 _ ?side1 ?side2 A4.out).mono ?_); (case side1 => exact qy8_0); (case side2 => exact HC0.out); rintro e w' ⟨rfl, ⟨nd, rfl⟩⟩; refine ⟨_, rfl, ?_⟩))
    go_ret
    exact ⟨qy8_7, qy8_6⟩
   ·rw [if_neg c7] at H
    have c7b0 : decide (a2 ≤ a1) = false := decide_eq_false c7
    clear c7
    by_cases c8 : a2 > (l0.length : Int)
    ·rw [if_pos c8] at H
     have c8b0 : decide ((l0.length : Int) < a2) = true := decide_eq_true c8
     clear c8
     obtain rfl := Option.some.inj H
     go_enter Try.func45, Try.ntmps45
     go_wp2_with (first | ((with_reducible refine gate_callee (f := 36) rfl ?_); refine goesL_ (some 9) rfl rfl Try.func36 (by kernel_rfl) rfl #[.slice A0 l0.length c0, .int .i64 0] rfl qy8_1 ?_; (with_reducible refine (segmentation_Check.calls k _ _ l0 0 t499 _ ?side1 ?side2 A4.out).mono ?_); (case side1 => exact qy8_0); (case side2 => exact HC0.out); rintro e w' ⟨rfl, ⟨nd, rfl⟩⟩; refine ⟨_, rfl, ?_⟩))
     go_ret
     exact ⟨qy8_7, qy8_6⟩
    ·rw [if_neg c8] at H
     have c8b0 : decide ((l0.length : Int) < a2) = false := decide_eq_false c8
     clear c8
     obtain rfl := Option.some.inj H
     go_enter Try.func45, Try.ntmps45
     go_wp2_with (first | ((with_reducible refine gate_callee (f := 36) rfl ?_); refine goesL_ (some 9) rfl rfl Try.func36 (by kernel_rfl) rfl #[.slice A0 l0.length c0, .int .i64 0] rfl qy8_1 ?_; (with_reducible refine (segmentation_Check.calls k _ _ l0 0 t499 _ ?side1 ?side2 A4.out).mono ?_); (case side1 => exact qy8_0); (case side2 => exact HC0.out); rintro e w' ⟨rfl, ⟨nd, rfl⟩⟩; refine ⟨_, rfl, ?_⟩))
     go_ret
     exact ⟨qy8_7, qy8_6⟩
 ·rw [if_neg c5] at H
  have c5b0 : (t499 == 0) = false := beq_eq_false_iff_ne.mpr c5
  have c5b1 : (t499 != 0) = true := bne_iff_ne.mpr c5
  obtain rfl := Option.some.inj H
  go_enter Try.func45, Try.ntmps45
  go_wp2_with (first | ((with_reducible refine gate_callee (f := 36) rfl ?_); refine goesL_ (some 9) rfl rfl Try.func36 (by kernel_rfl) rfl #[.slice A0 l0.length c0, .int .i64 0] rfl qy8_1 ?_; (with_reducible refine (segmentation_Check.calls k _ _ l0 0 t499 _ ?side1 ?side2 A4.out).mono ?_); (case side1 => exact qy8_0); (case side2 => exact HC0.out); rintro e w' ⟨rfl, ⟨nd, rfl⟩⟩; refine ⟨_, rfl, ?_⟩))
  go_ret
  exact ⟨qy8_7, qy8_6⟩

/-! ### segmentation_Median: function 31 -/
def segmentation_Median.f (k : Nat) (l0 : List Int) (a1 : Int) (a2 : Int) : Option (Int × Int) := (segmentation_checkPart.f k l0 a1 a2).bind fun t500 => (if t500 = 0 then (if 0 ≤ a1 then (if a1 ≤ a2 then (if a2 ≤ (l0.length : Int) then ((segmentation_median.f ((l0.take (a2 : Int).toNat).drop (a1 : Int).toNat)).bind fun t502 => (some (t502, 0))) else (none)) else (none)) else (none)) else (some (0, t500)))
theorem segmentation_Median.mono : ∀ a0 a1 a2 k, LeO (segmentation_Median.f k a0 a1 a2) (segmentation_Median.f (k + 1) a0 a1 a2) := by
 intro a0 a1 a2 k
 unfold segmentation_Median.f
 repeat' first
   | (with_reducible exact segmentation_checkPart.mono _ _ _ _)
   | (with_reducible exact LeO.refl _)
   | (with_reducible exact LeO.none _)
   | (with_reducible refine LeO.ite ?_ ?_)
   | (with_reducible refine LeO.bind ?_ (fun _ => ?_))
   | exact segmentation_checkPart.mono _ _ _ _
   | exact LeO.none _
   | refine LeO.ite ?_ ?_
   | refine LeO.bind ?_ (fun _ => ?_)
set_option maxHeartbeats 8000000 in
set_option maxRecDepth 100000 in
theorem segmentation_Median.calls (k : Nat) (A0 : Option Addr) (c0 : Nat) (l0 : List Int) (a1 : Int) (a2 : Int) (r1 : Int) (r2 : Int) (w : World) (hr0 : Kd.C (Kd.int .i64) w A0 l0.length l0) (hc0 : l0.length ≤ c0) (h : segmentation_Median.f k l0 a1 a2 = some (r1, r2)) :
  Calls Try.prog 31 #[.slice A0 l0.length c0, .int .i64 a1, .int .i64 a2] w fun e w' => e = .returned (.tuple #[.int .i64 r1, .int .i64 r2]) ∧ Below w.heap.size w w' := by
 have HR0 := Aside0.mk hr0
 have HC0 := Aside0.mk hc0
 clear hr0 hc0
 have HB := Aside0.mk (Below.refl w.heap.size w)
 have H : ((segmentation_checkPart.f k l0 a1 a2).bind fun t500 => (if t500 = 0 then (if 0 ≤ a1 then (if a1 ≤ a2 then (if a2 ≤ (l0.length : Int) then ((segmentation_median.f ((l0.take (a2 : Int).toNat).drop (a1 : Int).toNat)).bind fun t502 => (some (t502, 0))) else (none)) else (none)) else (none)) else (some (0, t500)))) = some (r1, r2) := h
 clear h
 replace H := Option.bind_eq_some_iff.mp H
 obtain ⟨t500, A40, H⟩ := H
 replace H : (if t500 = 0 then (if 0 ≤ a1 then (if a1 ≤ a2 then (if a2 ≤ (l0.length : Int) then ((segmentation_median.f ((l0.take (a2 : Int).toNat).drop (a1 : Int).toNat)).bind fun t502 => (some (t502, 0))) else (none)) else (none)) else (none)) else (some (0, t500))) = some (r1, r2) := H
 have A4 := Aside0.mk A40
 clear A40
 by_cases c5 : t500 = 0
 ·rw [if_pos c5] at H
  have c5b0 : (t500 == 0) = true := beq_iff_eq.mpr c5
  have c5b1 : (t500 != 0) = false := bne_eq_false_iff_eq.mpr c5
  clear c5
  by_cases c6 : 0 ≤ a1
  ·rw [if_pos c6] at H
   have c6b0 := eq_true c6
   have c6b1 : decide (0 ≤ a1) = true := decide_eq_true c6
   clear c6
   by_cases c7 : a1 ≤ a2
   ·rw [if_pos c7] at H
    have c7b0 := eq_true c7
    have c7b1 : decide (a1 ≤ a2) = true := decide_eq_true c7
    clear c7
    by_cases c8 : a2 ≤ (l0.length : Int)
    ·rw [if_pos c8] at H
     have c8b0 := eq_true c8
     have c8b1 : decide (a2 ≤ (l0.length : Int)) = true := decide_eq_true c8
     clear c8
     replace H := Option.bind_eq_some_iff.mp H
     obtain ⟨t502, A90, H⟩ := H
     replace H : (some (t502, 0)) = some (r1, r2) := H
     have A9 := Aside0.mk A90
     clear A90
     simp only [Option.some.injEq, Prod.mk.injEq] at H
     obtain ⟨rfl, rfl⟩ := H
     go_enter Try.func31, Try.ntmps31
     go_wp2_with (first | ((with_reducible refine gate_callee (f := 45) rfl ?_); refine goesL_ (some 12) rfl rfl Try.func45 (by kernel_rfl) rfl #[.slice A0 l0.length c0, .int .i64 a1, .int .i64 a2] rfl qy8_1 ?_; (with_reducible refine (segmentation_checkPart.calls k _ _ l0 a1 a2 t500 _ ?side1 ?side2 A4.out).mono ?_); (case side1 => exact qy8_0); (case side2 => exact HC0.out); rintro e w' ⟨rfl, ⟨nd, rfl⟩⟩; refine ⟨_, rfl, ?_⟩; obtain ⟨i010, hi010, _, hsz10, _⟩ := info_parts info3; obtain ⟨A10, hcut10, hA10, hC10⟩ := print_mid_of (P := Try.prog) (Value.int .i64) 0 24 3 .i64 .i64 Try.underlying24 hi010 hsz10 A0 c0 l0 a1 a2 (of_decide_eq_true qy8_5) (by first | omega | exact of_decide_eq_true qy8_5) (of_decide_eq_true qy8_5) HC0.out; have HR501 := Aside0.mk (Kd.C_of_reads (h1 := fun _ => rfl) (hA10 _ (Kd.reads_of_C HR0.out))); have HC501 := Aside0.mk hC10; clear hA10 hC10 hi010 hsz10) | ((with_reducible refine gate_callee (f := 44) rfl ?_); refine goesL_ (some 20) rfl rfl Try.func44 (by kernel_rfl) rfl #[.slice A10 ((l0.take (a2 : Int).toNat).drop (a1 : Int).toNat).length (c0 - a1.toNat)] rfl qy8_3 ?_; (with_reducible refine (segmentation_median.calls _ _ ((l0.take (a2 : Int).toNat).drop (a1 : Int).toNat) t502 _ ?side1 ?side2 A9.out).mono ?_); (case side1 => repeat (first | exact HR501.out | (with_reducible refine Kd.C_alloc ?_ _) | (with_reducible refine Kd.C_drewN ?_ _) | (with_reducible refine Kd.C_drew ?_))); (case side2 => exact HC501.out); rintro e w11 ⟨rfl, hb⟩; refine ⟨_, rfl, ?_⟩; have n0_ := Aside0.mk (below_step qy8_2 hb); clear HB; have HB := n0_; clear n0_; (try clear hb); (try clear hb2); (try clear hk); (try clear hi)))
     go_ret2
     exact ⟨qy8_4, qy8_2⟩
    ·rw [if_neg c8] at H
     exact absurd H (by simp)
   ·rw [if_neg c7] at H
    exact absurd H (by simp)
  ·rw [if_neg c6] at H
   exact absurd H (by simp)
 ·rw [if_neg c5] at H
  have c5b0 : (t500 == 0) = false := beq_eq_false_iff_ne.mpr c5
  have c5b1 : (t500 != 0) = true := bne_iff_ne.mpr c5
  simp only [Option.some.injEq, Prod.mk.injEq] at H
  obtain ⟨rfl, rfl⟩ := H
  go_enter Try.func31, Try.ntmps31
  go_wp2_with (first | ((with_reducible refine gate_callee (f := 45) rfl ?_); refine goesL_ (some 12) rfl rfl Try.func45 (by kernel_rfl) rfl #[.slice A0 l0.length c0, .int .i64 a1, .int .i64 a2] rfl qy8_1 ?_; (with_reducible refine (segmentation_checkPart.calls k _ _ l0 a1 a2 t500 _ ?side1 ?side2 A4.out).mono ?_); (case side1 => exact qy8_0); (case side2 => exact HC0.out); rintro e w' ⟨rfl, ⟨nd, rfl⟩⟩; refine ⟨_, rfl, ?_⟩))
  go_ret2
  exact ⟨qy8_4, qy8_2⟩

/-! ### segmentation_Cost: function 32 -/
def segmentation_Cost.f (k : Nat) (l0 : List Int) (a1 : Int) (a2 : Int) : Option (Int × Int) := (segmentation_checkPart.f k l0 a1 a2).bind fun t503 => (if t503 = 0 then (if 0 ≤ a1 then (if a1 ≤ a2 then (if a2 ≤ (l0.length : Int) then ((segmentation_cost.f k ((l0.take (a2 : Int).toNat).drop (a1 : Int).toNat)).bind fun t505 => (some (t505, 0))) else (none)) else (none)) else (none)) else (some (0, t503)))
theorem segmentation_Cost.mono : ∀ a0 a1 a2 k, LeO (segmentation_Cost.f k a0 a1 a2) (segmentation_Cost.f (k + 1) a0 a1 a2) := by
 intro a0 a1 a2 k
 unfold segmentation_Cost.f
 repeat' first
   | (with_reducible exact segmentation_checkPart.mono _ _ _ _)
   | (with_reducible exact segmentation_cost.mono _ _)
   | (with_reducible exact LeO.refl _)
   | (with_reducible exact LeO.none _)
   | (with_reducible refine LeO.ite ?_ ?_)
   | (with_reducible refine LeO.bind ?_ (fun _ => ?_))
   | exact segmentation_checkPart.mono _ _ _ _
   | exact segmentation_cost.mono _ _
   | exact LeO.none _
   | refine LeO.ite ?_ ?_
   | refine LeO.bind ?_ (fun _ => ?_)
set_option maxHeartbeats 8000000 in
set_option maxRecDepth 100000 in
theorem segmentation_Cost.calls (k : Nat) (A0 : Option Addr) (c0 : Nat) (l0 : List Int) (a1 : Int) (a2 : Int) (r1 : Int) (r2 : Int) (w : World) (hr0 : Kd.C (Kd.int .i64) w A0 l0.length l0) (hc0 : l0.length ≤ c0) (h : segmentation_Cost.f k l0 a1 a2 = some (r1, r2)) :
  Calls Try.prog 32 #[.slice A0 l0.length c0, .int .i64 a1, .int .i64 a2] w fun e w' => e = .returned (.tuple #[.int .i64 r1, .int .i64 r2]) ∧ Below w.heap.size w w' := by
 have HR0 := Aside0.mk hr0
 have HC0 := Aside0.mk hc0
 clear hr0 hc0
 have HB := Aside0.mk (Below.refl w.heap.size w)
 have H : ((segmentation_checkPart.f k l0 a1 a2).bind fun t503 => (if t503 = 0 then (if 0 ≤ a1 then (if a1 ≤ a2 then (if a2 ≤ (l0.length : Int) then ((segmentation_cost.f k ((l0.take (a2 : Int).toNat).drop (a1 : Int).toNat)).bind fun t505 => (some (t505, 0))) else (none)) else (none)) else (none)) else (some (0, t503)))) = some (r1, r2) := h
 clear h
 replace H := Option.bind_eq_some_iff.mp H
 obtain ⟨t503, A40, H⟩ := H
 replace H : (if t503 = 0 then (if 0 ≤ a1 then (if a1 ≤ a2 then (if a2 ≤ (l0.length : Int) then ((segmentation_cost.f k ((l0.take (a2 : Int).toNat).drop (a1 : Int).toNat)).bind fun t505 => (some (t505, 0))) else (none)) else (none)) else (none)) else (some (0, t503))) = some (r1, r2) := H
 have A4 := Aside0.mk A40
 clear A40
 by_cases c5 : t503 = 0
 ·rw [if_pos c5] at H
  have c5b0 : (t503 == 0) = true := beq_iff_eq.mpr c5
  have c5b1 : (t503 != 0) = false := bne_eq_false_iff_eq.mpr c5
  clear c5
  by_cases c6 : 0 ≤ a1
  ·rw [if_pos c6] at H
   have c6b0 := eq_true c6
   have c6b1 : decide (0 ≤ a1) = true := decide_eq_true c6
   clear c6
   by_cases c7 : a1 ≤ a2
   ·rw [if_pos c7] at H
    have c7b0 := eq_true c7
    have c7b1 : decide (a1 ≤ a2) = true := decide_eq_true c7
    clear c7
    by_cases c8 : a2 ≤ (l0.length : Int)
    ·rw [if_pos c8] at H
     have c8b0 := eq_true c8
     have c8b1 : decide (a2 ≤ (l0.length : Int)) = true := decide_eq_true c8
     clear c8
     replace H := Option.bind_eq_some_iff.mp H
     obtain ⟨t505, A90, H⟩ := H
     replace H : (some (t505, 0)) = some (r1, r2) := H
     have A9 := Aside0.mk A90
     clear A90
     simp only [Option.some.injEq, Prod.mk.injEq] at H
     obtain ⟨rfl, rfl⟩ := H
     go_enter Try.func32, Try.ntmps32
     go_wp2_with (first | ((with_reducible refine gate_callee (f := 45) rfl ?_); refine goesL_ (some 12) rfl rfl Try.func45 (by kernel_rfl) rfl #[.slice A0 l0.length c0, .int .i64 a1, .int .i64 a2] rfl qy8_1 ?_; (with_reducible refine (segmentation_checkPart.calls k _ _ l0 a1 a2 t503 _ ?side1 ?side2 A4.out).mono ?_); (case side1 => exact qy8_0); (case side2 => exact HC0.out); rintro e w' ⟨rfl, ⟨nd, rfl⟩⟩; refine ⟨_, rfl, ?_⟩; obtain ⟨i010, hi010, _, hsz10, _⟩ := info_parts info3; obtain ⟨A10, hcut10, hA10, hC10⟩ := print_mid_of (P := Try.prog) (Value.int .i64) 0 24 3 .i64 .i64 Try.underlying24 hi010 hsz10 A0 c0 l0 a1 a2 (of_decide_eq_true qy8_5) (by first | omega | exact of_decide_eq_true qy8_5) (of_decide_eq_true qy8_5) HC0.out; have HR504 := Aside0.mk (Kd.C_of_reads (h1 := fun _ => rfl) (hA10 _ (Kd.reads_of_C HR0.out))); have HC504 := Aside0.mk hC10; clear hA10 hC10 hi010 hsz10) | ((with_reducible refine gate_callee (f := 43) rfl ?_); refine goesL_ (some 20) rfl rfl Try.func43 (by kernel_rfl) rfl #[.slice A10 ((l0.take (a2 : Int).toNat).drop (a1 : Int).toNat).length (c0 - a1.toNat)] rfl qy8_3 ?_; (with_reducible refine (segmentation_cost.calls k _ _ ((l0.take (a2 : Int).toNat).drop (a1 : Int).toNat) t505 _ ?side1 ?side2 A9.out).mono ?_); (case side1 => repeat (first | exact HR504.out | (with_reducible refine Kd.C_alloc ?_ _) | (with_reducible refine Kd.C_drewN ?_ _) | (with_reducible refine Kd.C_drew ?_))); (case side2 => exact HC504.out); rintro e w11 ⟨rfl, hb⟩; refine ⟨_, rfl, ?_⟩; have n0_ := Aside0.mk (below_step qy8_2 hb); clear HB; have HB := n0_; clear n0_; (try clear hb); (try clear hb2); (try clear hk); (try clear hi)))
     go_ret2
     exact ⟨qy8_4, qy8_2⟩
    ·rw [if_neg c8] at H
     exact absurd H (by simp)
   ·rw [if_neg c7] at H
    exact absurd H (by simp)
  ·rw [if_neg c6] at H
   exact absurd H (by simp)
 ·rw [if_neg c5] at H
  have c5b0 : (t503 == 0) = false := beq_eq_false_iff_ne.mpr c5
  have c5b1 : (t503 != 0) = true := bne_iff_ne.mpr c5
  simp only [Option.some.injEq, Prod.mk.injEq] at H
  obtain ⟨rfl, rfl⟩ := H
  go_enter Try.func32, Try.ntmps32
  go_wp2_with (first | ((with_reducible refine gate_callee (f := 45) rfl ?_); refine goesL_ (some 12) rfl rfl Try.func45 (by kernel_rfl) rfl #[.slice A0 l0.length c0, .int .i64 a1, .int .i64 a2] rfl qy8_1 ?_; (with_reducible refine (segmentation_checkPart.calls k _ _ l0 a1 a2 t503 _ ?side1 ?side2 A4.out).mono ?_); (case side1 => exact qy8_0); (case side2 => exact HC0.out); rintro e w' ⟨rfl, ⟨nd, rfl⟩⟩; refine ⟨_, rfl, ?_⟩))
  go_ret2
  exact ⟨qy8_4, qy8_2⟩

-- NOT PRINTED: function 10 (sleuthlaw44_SegmentationCosts)
end Go.Proofs.Ytiimanpmidnffaa.Q
