-- Laid by myprint.py (a program of this session's, over the kit's printer and with functions proved by hand)
import Derived.Test.YtiimanpmidnffaaQx0
import Derived.Test.YtiimanpmidnffaaQx1
namespace Go.Proofs.Ytiimanpmidnffaa.Q
open Go.RowKit Go.Proofs.YtiimanpmidnffaaW.PrintWords Go.Proofs.YtiimanpmidnffaaW.PrintLast Go.Proofs.YtiimanpmidnffaaW.PrintMore
attribute [local go_sem] max2_int min2_int max_two min_two max_three min_three max_four min_four   -- for this text's walks alone
set_option linter.unusedVariables false
set_option linter.unusedSimpArgs false

theorem qx2_0 {p : Prop} (h : p := by repeat (first | (with_reducible first | exact HB.out | apply below_alloc | apply pw_below_drewN | apply below_drew1) | exact HB.out)) : p := h
theorem qx2_1 {p : Prop} (h : p := by (try simp only [List.map_toArray, List.map_cons, List.map_nil]); first | done | rfl | (simp only [List.length_drop, List.length_take]; rfl)) : p := h
theorem qx2_2 {p : Prop} (h : p := by repeat (first | (with_reducible first | exact HB.out | apply below_alloc | apply pw_below_drewN | apply below_drew1 | refine below_set ?_ GE154.out | refine below_set ?_ GE155.out | refine below_set ?_ GE156.out) | exact HB.out)) : p := h
theorem qx2_3 {p : Prop} (h : p := by (with_reducible repeat (first | apply Kd.R_alloc | apply Kd.R_drewN | apply Kd.R_drew)); exact HO_5.out) : p := h
theorem qx2_4 {p : Prop} (h : p := by (with_reducible repeat (first | refine blk_drewN ?_ _ | refine blk_drew ?_ | refine blk_alloc ?_ _)); exact BK154.out) : p := h
theorem qx2_5 {p : Prop} (h : p := by first | (with_reducible assumption) | assumption) : p := h
theorem qx2_6 {p : Prop} (h : p := by repeat (first | (with_reducible first | exact HB.out | apply below_alloc | apply pw_below_drewN | apply below_drew1 | refine below_set ?_ GE154.out | refine below_set ?_ GE155.out) | exact HB.out)) : p := h
theorem qx2_7 {p : Prop} (h : p := by (with_reducible repeat (first | apply Kd.R_alloc | apply Kd.R_drewN | apply Kd.R_drew)); exact HO_6.out) : p := h
theorem qx2_8 {p : Prop} (h : p := by (with_reducible repeat (first | apply Kd.R_alloc | apply Kd.R_drewN | apply Kd.R_drew)); exact HO_7.out) : p := h
theorem qx2_9 {p : Prop} (h : p := by first | rfl | (simp; done) | (simp [*]; done)) : p := h
theorem qx2_10 {p : Prop} (h : p := by repeat (first | (with_reducible first | exact HB.out | apply below_alloc | apply pw_below_drewN | apply below_drew1 | refine below_set ?_ GE154.out) | exact HB.out)) : p := h
theorem qx2_11 {p : Prop} (h : p := by (with_reducible repeat (first | refine blk_drewN ?_ _ | refine blk_drew ?_ | refine blk_alloc ?_ _)); exact BK155.out) : p := h
theorem qx2_12 {p : Prop} (h : p := by (with_reducible repeat (first | apply Kd.V_alloc | apply Kd.V_drewN | apply Kd.V_drew)); exact HO0_1.out) : p := h
theorem qx2_13 {p : Prop} (h : p := by (with_reducible repeat (first | apply Kd.V_alloc | apply Kd.V_drewN | apply Kd.V_drew)); exact (Kd.V_mono (Kd.V_far (p := ⟨gb156, 1, none⟩) (Kd.V_far (p := ⟨gb156, 0, none⟩) (Kd.V_mono HO0_1.out (fun k_ hk => (⟨hk, hk.2⟩ : _ ∧ k_ ≠ gb156))) (fun _ hk => hk.2) (.int .i64 (wrap64 (a0_0 + a2)))) (fun _ hk => hk.2) (.slice A0_1 l0_1.length c0_1)) (fun _ h_ => h_.1))) : p := h
theorem qx2_14 {p : Prop} (h : p := by first | (go_simp; done) | (go_simp; rfl)) : p := h
theorem qx2_15 {p : Prop} (h : p := by (with_reducible repeat (first | apply Kd.R_alloc | apply Kd.R_drewN | apply Kd.R_drew)); exact Kd.R_mono HO_5.out (fun _ hk => ⟨hk.2, hk.1⟩)) : p := h
theorem qx2_16 {p : Prop} (h : p := by repeat (first | exact Drawn0.refl _ | apply Drawn0.step)) : p := h
theorem qx2_17 {p : Prop} (h : p := by (with_reducible repeat (first | apply Kd.R_alloc | apply Kd.R_drewN | apply Kd.R_drew)); exact HO134.out) : p := h
theorem qx2_18 {p : Prop} (h : p := by first | rfl | (simp [errW_none, errW_some] <;> rfl) | (simp [*, errW_none, errW_some] <;> rfl)) : p := h
theorem qx2_19 {p : Prop} (h : p := by (with_reducible repeat (first | apply Kd.R_alloc | apply Kd.R_drewN | apply Kd.R_drew)); exact Kd.R_mono HO134.out (fun _ hk => ⟨hk.2, hk.1⟩)) : p := h
theorem qx2_20 {p : Prop} (h : p := by (with_reducible repeat (first | apply Kd.R_alloc | apply Kd.R_drewN | apply Kd.R_drew)); exact Kd.R_mono HO140.out (fun _ hk => ⟨hk.2, hk.1⟩)) : p := h
theorem qx2_21 {p : Prop} (h : p := by (with_reducible repeat (first | apply Kd.R_alloc | apply Kd.R_drewN | apply Kd.R_drew)); exact Kd.R_mono HO146.out (fun _ hk => ⟨hk.2, hk.1⟩)) : p := h
theorem qx2_22 {p : Prop} (h : p := by (with_reducible repeat (first | apply Kd.R_alloc | apply Kd.R_drewN | apply Kd.R_drew)); exact Kd.R_mono HO149.out (fun _ hk => ⟨hk.2, hk.1⟩)) : p := h
theorem qx2_23 {p : Prop} (h : p := by (with_reducible repeat (first | apply Kd.R_alloc | apply Kd.R_drewN | apply Kd.R_drew)); exact Kd.R_mono HO_6.out (fun _ hk => ⟨hk.2, hk.1⟩)) : p := h
theorem qx2_24 {p : Prop} (h : p := by (with_reducible repeat (first | apply Kd.R_alloc | apply Kd.R_drewN | apply Kd.R_drew)); exact Kd.R_mono HO_7.out (fun _ hk => ⟨hk.2, hk.1⟩)) : p := h
theorem qx2_25 {p : Prop} (h : p := by first | exact Kd.R_nil _ _ _ _ _ | exact Kd.N_nil _ _ _ _ _ | exact Kd.V_nil _ _ _ _ _ | exact Kd.Q_nil _ _ _ _ _ | exact Kd.S_nil _ _ _ _ _) : p := h
/-! ### segmentation_costs: function 40 -/
mutual
def segmentation_costs.l0 : Nat → List Int → List Int → List Int → List Int → Int → Int → Int → Option (List Int)
 | 0, _, _, _, _, _, _, _ => none
 | k + 1, x0, x5, x6, x7, x8, x9, x10 => if x10 ≥ 0 then (if 0 ≤ x10 then (if x10 < (x0.length : Int) then (if (x6.length : Int) > 0 then (if 0 ≤ (wrap64 ((x6.length : Int) - 1)) then (if (wrap64 ((x6.length : Int) - 1)) < (x6.length : Int) then (segmentation_costs.j1 k x0 x5 x6 x7 x8 x9 x10 (rd x0 x10) (decide ((rd x0 x10) > (rd x6 (wrap64 ((x6.length : Int) - 1)))))) else (none)) else (none)) else (segmentation_costs.j1 k x0 x5 x6 x7 x8 x9 x10 (rd x0 x10) false)) else (none)) else (none)) else (some x5)
def segmentation_costs.j1 : Nat → List Int → List Int → List Int → List Int → Int → Int → Int → Int → Bool → Option (List Int)
 | 0, _, _, _, _, _, _, _, _, _ => none
 | k + 1, x0, x5, x6, x7, x8, x9, x10, x11, x43 => if x43 = true then ((slices_BinarySearch_int_int.f k x7 x11).bind fun bt115 => ((slices_Insert_int_int.f x7 bt115.1 (([x11] : List Int))).bind fun t120 => (segmentation_costs.j2 k x0 x5 x6 t120 x8 (wrap64 (x9 + x11)) x10))) else ((slices_BinarySearch_int_int.f k x6 x11).bind fun bt123 => ((slices_Insert_int_int.f x6 bt123.1 (([x11] : List Int))).bind fun t128 => (segmentation_costs.j2 k x0 x5 t128 x7 (wrap64 (x8 + x11)) x9 x10)))
def segmentation_costs.j2 : Nat → List Int → List Int → List Int → List Int → Int → Int → Int → Option (List Int)
 | 0, _, _, _, _, _, _, _ => none
 | k + 1, x0, x5, x6, x7, x8, x9, x10 => if (x6.length : Int) > (wrap64 ((x7.length : Int) + 1)) then (if 0 ≤ (wrap64 ((x6.length : Int) - 1)) then (if (wrap64 ((x6.length : Int) - 1)) < (x6.length : Int) then (if (wrap64 ((x6.length : Int) - 1)) ≤ (x6.length : Int) then ((some (x6.take ((wrap64 ((x6.length : Int) - 1)) : Int).toNat : List Int)).bind fun y132 => ((slices_Insert_int_int.f x7 0 (([rd x6 (wrap64 ((x6.length : Int) - 1))] : List Int))).bind fun t138 => (if 0 ≤ (wrap64 ((y132.length : Int) - 1)) then (if (wrap64 ((y132.length : Int) - 1)) < (y132.length : Int) then (if 0 ≤ x10 then (if x10 < (x5.length : Int) then (segmentation_costs.l0 k x0 (x5.set (x10 : Int).toNat (wrap64 ((wrap64 ((wrap64 ((wrap64 ((rd y132 (wrap64 ((y132.length : Int) - 1))) * (y132.length : Int))) - (wrap64 (x8 - (rd x6 (wrap64 ((x6.length : Int) - 1))))))) + (wrap64 (x9 + (rd x6 (wrap64 ((x6.length : Int) - 1))))))) - (wrap64 ((rd y132 (wrap64 ((y132.length : Int) - 1))) * (t138.length : Int)))))) y132 t138 (wrap64 (x8 - (rd x6 (wrap64 ((x6.length : Int) - 1))))) (wrap64 (x9 + (rd x6 (wrap64 ((x6.length : Int) - 1))))) (wrap64 (x10 - 1))) else (none)) else (none)) else (none)) else (none)))) else (none)) else (none)) else (none)) else (if (x6.length : Int) < (x7.length : Int) then (if 0 < (x7.length : Int) then ((slices_Delete_int_int.f x7 0 1).bind fun t144 => (if x6.length < 17592186044416 then ((some (x6 ++ [rd x7 0] : List Int)).bind fun y147 => (if 0 ≤ (wrap64 ((y147.length : Int) - 1)) then (if (wrap64 ((y147.length : Int) - 1)) < (y147.length : Int) then (if 0 ≤ x10 then (if x10 < (x5.length : Int) then (segmentation_costs.l0 k x0 (x5.set (x10 : Int).toNat (wrap64 ((wrap64 ((wrap64 ((wrap64 ((rd y147 (wrap64 ((y147.length : Int) - 1))) * (y147.length : Int))) - (wrap64 (x8 + (rd x7 0))))) + (wrap64 (x9 - (rd x7 0))))) - (wrap64 ((rd y147 (wrap64 ((y147.length : Int) - 1))) * (t144.length : Int)))))) y147 t144 (wrap64 (x8 + (rd x7 0))) (wrap64 (x9 - (rd x7 0))) (wrap64 (x10 - 1))) else (none)) else (none)) else (none)) else (none))) else (none))) else (none)) else (if 0 ≤ (wrap64 ((x6.length : Int) - 1)) then (if (wrap64 ((x6.length : Int) - 1)) < (x6.length : Int) then (if 0 ≤ x10 then (if x10 < (x5.length : Int) then (segmentation_costs.l0 k x0 (x5.set (x10 : Int).toNat (wrap64 ((wrap64 ((wrap64 ((wrap64 ((rd x6 (wrap64 ((x6.length : Int) - 1))) * (x6.length : Int))) - x8)) + x9)) - (wrap64 ((rd x6 (wrap64 ((x6.length : Int) - 1))) * (x7.length : Int)))))) x6 x7 x8 x9 (wrap64 (x10 - 1))) else (none)) else (none)) else (none)) else (none)))
end
def segmentation_costs.f (k : Nat) (l0 : List Int) (a1 : Int) : Option (List Int) := if 0 ≤ a1 then (if (a1 : Int).toNat ≤ 35184372088832 then (segmentation_costs.l0 k l0 (List.replicate (a1 : Int).toNat 0) ([] : List Int) ([] : List Int) 0 0 (wrap64 (a1 - 1))) else (none)) else (none)
theorem segmentation_costs.mono_l : ∀ k, (∀ y0 y1 y2 y3 y4 y5 y6, LeO (segmentation_costs.l0 k y0 y1 y2 y3 y4 y5 y6) (segmentation_costs.l0 (k + 1) y0 y1 y2 y3 y4 y5 y6)) ∧ (∀ y0 y1 y2 y3 y4 y5 y6 y7 y8, LeO (segmentation_costs.j1 k y0 y1 y2 y3 y4 y5 y6 y7 y8) (segmentation_costs.j1 (k + 1) y0 y1 y2 y3 y4 y5 y6 y7 y8)) ∧ (∀ y0 y1 y2 y3 y4 y5 y6, LeO (segmentation_costs.j2 k y0 y1 y2 y3 y4 y5 y6) (segmentation_costs.j2 (k + 1) y0 y1 y2 y3 y4 y5 y6))
 | 0 => ⟨fun _ _ _ _ _ _ _ r h => by simp [segmentation_costs.l0] at h, fun _ _ _ _ _ _ _ _ _ r h => by simp [segmentation_costs.j1] at h, fun _ _ _ _ _ _ _ r h => by simp [segmentation_costs.j2] at h⟩
 | k + 1 => by
  obtain ⟨ih0, ih1, ih2⟩ := segmentation_costs.mono_l k
  refine ⟨?_, ?_, ?_⟩
  ·intro y0 y1 y2 y3 y4 y5 y6
   unfold segmentation_costs.l0
   repeat' first
   | (with_reducible exact ih0 _ _ _ _ _ _ _)
   | (with_reducible exact ih1 _ _ _ _ _ _ _ _ _)
   | (with_reducible exact ih2 _ _ _ _ _ _ _)
   | (with_reducible exact slices_BinarySearch_int_int.mono _ _ _)
   | (with_reducible exact LeO.refl _)
   | (with_reducible exact LeO.none _)
   | (with_reducible refine LeO.ite ?_ ?_)
   | (with_reducible refine LeO.bind ?_ (fun _ => ?_))
   | exact ih0 _ _ _ _ _ _ _
   | exact ih1 _ _ _ _ _ _ _ _ _
   | exact ih2 _ _ _ _ _ _ _
   | exact slices_BinarySearch_int_int.mono _ _ _
   | exact LeO.none _
   | refine LeO.ite ?_ ?_
   | refine LeO.bind ?_ (fun _ => ?_)
  ·intro y0 y1 y2 y3 y4 y5 y6 y7 y8
   unfold segmentation_costs.j1
   repeat' first
   | (with_reducible exact ih0 _ _ _ _ _ _ _)
   | (with_reducible exact ih1 _ _ _ _ _ _ _ _ _)
   | (with_reducible exact ih2 _ _ _ _ _ _ _)
   | (with_reducible exact slices_BinarySearch_int_int.mono _ _ _)
   | (with_reducible exact LeO.refl _)
   | (with_reducible exact LeO.none _)
   | (with_reducible refine LeO.ite ?_ ?_)
   | (with_reducible refine LeO.bind ?_ (fun _ => ?_))
   | exact ih0 _ _ _ _ _ _ _
   | exact ih1 _ _ _ _ _ _ _ _ _
   | exact ih2 _ _ _ _ _ _ _
   | exact slices_BinarySearch_int_int.mono _ _ _
   | exact LeO.none _
   | refine LeO.ite ?_ ?_
   | refine LeO.bind ?_ (fun _ => ?_)
  ·intro y0 y1 y2 y3 y4 y5 y6
   unfold segmentation_costs.j2
   repeat' first
   | (with_reducible exact ih0 _ _ _ _ _ _ _)
   | (with_reducible exact ih1 _ _ _ _ _ _ _ _ _)
   | (with_reducible exact ih2 _ _ _ _ _ _ _)
   | (with_reducible exact slices_BinarySearch_int_int.mono _ _ _)
   | (with_reducible exact LeO.refl _)
   | (with_reducible exact LeO.none _)
   | (with_reducible refine LeO.ite ?_ ?_)
   | (with_reducible refine LeO.bind ?_ (fun _ => ?_))
   | exact ih0 _ _ _ _ _ _ _
   | exact ih1 _ _ _ _ _ _ _ _ _
   | exact ih2 _ _ _ _ _ _ _
   | exact slices_BinarySearch_int_int.mono _ _ _
   | exact LeO.none _
   | refine LeO.ite ?_ ?_
   | refine LeO.bind ?_ (fun _ => ?_)
theorem segmentation_costs.mono : ∀ a0 a1 k, LeO (segmentation_costs.f k a0 a1) (segmentation_costs.f (k + 1) a0 a1) := by
 intro a0 a1 k
 obtain ⟨ih0, ih1, ih2⟩ := segmentation_costs.mono_l k
 unfold segmentation_costs.f
 repeat' first
   | (with_reducible exact ih0 _ _ _ _ _ _ _)
   | (with_reducible exact ih1 _ _ _ _ _ _ _ _ _)
   | (with_reducible exact ih2 _ _ _ _ _ _ _)
   | (with_reducible exact slices_BinarySearch_int_int.mono _ _ _)
   | (with_reducible exact LeO.refl _)
   | (with_reducible exact LeO.none _)
   | (with_reducible refine LeO.ite ?_ ?_)
   | (with_reducible refine LeO.bind ?_ (fun _ => ?_))
   | exact ih0 _ _ _ _ _ _ _
   | exact ih1 _ _ _ _ _ _ _ _ _
   | exact ih2 _ _ _ _ _ _ _
   | exact slices_BinarySearch_int_int.mono _ _ _
   | exact LeO.none _
   | refine LeO.ite ?_ ?_
   | refine LeO.bind ?_ (fun _ => ?_)
set_option maxHeartbeats 8000000 in
set_option maxRecDepth 100000 in
theorem segmentation_costs.calls (k : Nat) (A0 : Option Addr) (c0 : Nat) (l0 : List Int) (a1 : Int) (r : List Int) (w : World) (hr0 : Kd.C (Kd.int .i64) w A0 l0.length l0) (hc0 : l0.length ≤ c0) (h : segmentation_costs.f k l0 a1 = some r) :
  Calls Try.prog 40 #[.slice A0 l0.length c0, .int .i64 a1] w fun e w' => ∃ v0_ : Value, e = .returned (v0_) ∧ Kd.R (Kd.int .i64) 3 w' w.heap.size (fun _ => True) v0_ r ∧ Below w.heap.size w w' := by
 have HR0 := Aside0.mk hr0
 have HC0 := Aside0.mk hc0
 clear hr0 hc0
 have HB := Aside0.mk (Below.refl w.heap.size w)
 have H : (if 0 ≤ a1 then (if (a1 : Int).toNat ≤ 35184372088832 then (segmentation_costs.l0 k l0 (List.replicate (a1 : Int).toNat 0) ([] : List Int) ([] : List Int) 0 0 (wrap64 (a1 - 1))) else (none)) else (none)) = some r := h
 clear h
 by_cases c3 : 0 ≤ a1
 rotate_left
 ·rw [if_neg c3] at H
  exact absurd H (by simp)
 rw [if_pos c3] at H
 have c3b0 := eq_true c3
 have c3b1 : decide (0 ≤ a1) = true := decide_eq_true c3
 clear c3
 by_cases c4 : (a1 : Int).toNat ≤ 35184372088832
 rotate_left
 ·rw [if_neg c4] at H
  exact absurd H (by simp)
 rw [if_pos c4] at H
 have c4b0 := eq_true c4
 have c4b1 : decide ((a1 : Int).toNat ≤ 35184372088832) = true := decide_eq_true c4
 clear c4
 obtain ⟨y110, hy110⟩ : ∃ y_ : List Int, y_ = (List.replicate (a1 : Int).toNat 0) := ⟨_, rfl⟩
 replace H : (segmentation_costs.l0 k l0 y110 ([] : List Int) ([] : List Int) 0 0 (wrap64 (a1 - 1))) = some r := by first | (rw [hy110]; with_reducible exact H) | (have H2_ := (Option.bind_some _ _).symm.trans H; rw [hy110]; with_reducible exact H2_) | (have H2_ := (Option.bind_some _ _).symm.trans H; with_reducible exact H2_) | with_reducible exact H | (rw [hy110]; exact H) | exact H
 have Ny110 := Aside0.mk hy110
 clear hy110
 have H' := Aside0.mk H
 clear H
 go_enter Try.func40, Try.ntmps40
 go_wp2_with (first | ((with_reducible refine gate_dst (N := 20) rfl ?_); (try (refine gate_guard (by rfl) ?_; dsimp only)); refine Kd.R_make (Kd.int .i64) _ 3 rfl (N := 20) rfl 24 _ _ rfl a1 rfl rfl Try.underlying24 (.int .i64 0) 8 info3 rfl (by decide) (by omega) 0 (ok := fun _ => True) (okp := fun _ => True) rfl (fun _ hk => hk) trivial (of_decide_eq_true qx2_5) (Nat.le_trans (Nat.mul_le_mul_right _ (of_decide_eq_true qx2_5 : a1.toNat ≤ 35184372088832)) (by omega)) (Below.refl _ _) (Nat.le_refl _) ?_; intro v111 w5 ho6 hb hg_ hnew_; clear hg_ hnew_; (first | rw [← Ny110.out] at ho6 | (simp only [Int.reduceToNat] at ho6; rw [← Ny110.out] at ho6)); have n0_ := Aside0.mk (Kd.R_lower ho6 (below_size qx2_0)); have n1_ := Aside0.mk (below_step qx2_0 hb); clear HB; have HO112 := n0_; have HB := n1_; clear n0_ n1_; clear hb ho6))
 go_loopg [6, 7, 8, 9, 10] k (fun kq v6 v7 v8 v9 v10 w' => ∃ (x5_1 : List Int) (x6_1 : List Int) (x7_1 : List Int) (x8_1 : Int) (x9_1 : Int) (x10_1 : Int), v8 = .int .i64 x8_1 ∧ v9 = .int .i64 x9_1 ∧ v10 = .int .i64 x10_1 ∧ Aside0 (segmentation_costs.l0 kq l0 x5_1 x6_1 x7_1 x8_1 x9_1 x10_1 = some r) ∧ Aside0 (kq ≤ k) ∧ Aside0 (Kd.R (Kd.int .i64) 3 w' w.heap.size (fun k_ => some k_ ≠ (v6 : Value).ownBlock ∧ some k_ ≠ (v7 : Value).ownBlock) v111 x5_1) ∧ Aside0 (Kd.R (Kd.int .i64) 3 w' w.heap.size (fun k_ => some k_ ≠ (v111 : Value).ownBlock ∧ some k_ ≠ (v7 : Value).ownBlock) v6 x6_1) ∧ Aside0 (Kd.R (Kd.int .i64) 3 w' w.heap.size (fun k_ => some k_ ≠ (v111 : Value).ownBlock ∧ some k_ ≠ (v6 : Value).ownBlock) v7 x7_1) ∧ Aside0 (Below w.heap.size w w'))
 case atStart => exact ⟨(y110), (([] : List Int)), (([] : List Int)), (0), (0), (wrap64 (a1 - 1)), qx2_9, qx2_9, qx2_9, H', ⟨Nat.le_refl _⟩, ⟨by (with_reducible repeat (first | apply Kd.R_alloc | apply Kd.R_drewN | apply Kd.R_drew)); exact Kd.R_mono HO112.out (fun _ hk => ⟨(by simp [Value.ownBlock]), (by simp [Value.ownBlock])⟩)⟩, ⟨qx2_25⟩, ⟨qx2_25⟩, ⟨qx2_0⟩⟩
 clear H'
 try clear p2
 try clear c3
 try clear c3b0
 try clear c3b1
 try clear c4
 try clear c4b0
 try clear c4b1
 try clear p6
 obtain ⟨x5_1, x6_1, x7_1, x8_1, x9_1, x10_1, rfl, rfl, rfl, HA, HK1, HO_5, HO_6, HO_7, HB⟩ := hrel
 cases gk with
 | zero => exact absurd HA.out (by simp [segmentation_costs.l0])
 | succ k1 =>
  have H := HA.out
  clear HA
  simp only [segmentation_costs.l0] at H
  by_cases c7 : x10_1 ≥ 0
  rotate_left
  ·rw [if_neg c7] at H
   have c7b0 : decide (0 ≤ x10_1) = false := decide_eq_false c7
   clear c7
   obtain rfl := Option.some.inj H
   go_wp2
   go_ret
   exact ⟨_, qx2_18, by (with_reducible repeat (first | apply Kd.R_alloc | apply Kd.R_drewN | apply Kd.R_drew)); exact Kd.R_mono HO_5.out (fun _ hk => trivial), qx2_0⟩
  rw [if_pos c7] at H
  have c7b0 : decide (0 ≤ x10_1) = true := decide_eq_true c7
  clear c7
  by_cases c8 : 0 ≤ x10_1
  rotate_left
  ·rw [if_neg c8] at H
   exact absurd H (by simp)
  rw [if_pos c8] at H
  have c8b0 : decide (0 ≤ x10_1) = true := decide_eq_true c8
  clear c8
  by_cases c9 : x10_1 < (l0.length : Int)
  rotate_left
  ·rw [if_neg c9] at H
   exact absurd H (by simp)
  rw [if_pos c9] at H
  have c9b0 : decide (x10_1 < (l0.length : Int)) = true := decide_eq_true c9
  clear c9
  have HC10 := Aside0.mk H
  clear H
  have p113 : 0 ≤ (x10_1 : Int) := of_decide_eq_true qx2_5
  have q113 : x10_1 < (l0.length : Int) := of_decide_eq_true qx2_5
  obtain ⟨ad113, e113, hx113_0⟩ := Kd.at_int HR0.out x10_1 p113 q113
  cases e113
  replace hx113_0 := (HB.out.cell (World.block_lt_of_cell? w _ hx113_0)).trans hx113_0
  replace p113 := eq_true p113
  replace q113 := eq_true q113
  go_upto_region 8 with (fail)
  go_cut [43] (fun v43 wc => ∃ (kq : Nat) (x43_9 : Bool), v43 = .bool x43_9 ∧ Aside0 (segmentation_costs.j1 kq l0 x5_1 x6_1 x7_1 x8_1 x9_1 x10_1 (rd l0 x10_1) x43_9 = some r) ∧ Aside0 (kq ≤ k1) ∧ Aside0 (Kd.R (Kd.int .i64) 3 wc w.heap.size (fun k_ => some k_ ≠ (u6 : Value).ownBlock ∧ some k_ ≠ (u7 : Value).ownBlock) v111 x5_1) ∧ Aside0 (Kd.R (Kd.int .i64) 3 wc w.heap.size (fun k_ => some k_ ≠ (v111 : Value).ownBlock ∧ some k_ ≠ (u7 : Value).ownBlock) u6 x6_1) ∧ Aside0 (Kd.R (Kd.int .i64) 3 wc w.heap.size (fun k_ => some k_ ≠ (v111 : Value).ownBlock ∧ some k_ ≠ (u6 : Value).ownBlock) u7 x7_1) ∧ Aside0 (Below w.heap.size w wc))
  case first =>
   have H := HC10.out
   clear HC10
   by_cases c11 : (x6_1.length : Int) > 0
   rotate_left
   ·rw [if_neg c11] at H
    have c11b0 : decide (0 < (x6_1.length : Int)) = false := decide_eq_false c11
    have c11b1 : decide (0 < x6_1.length) = false := decide_eq_false (by omega)
    clear c11
    (first | rw [c11b0] | (simp only [i64_w, i32_w]; rw [c11b0]) | skip)
    have H' := Aside0.mk H
    clear H
    obtain ⟨Ao16, co16, eo16⟩ := Kd.R_slice HO_6.out
    subst eo16
    go_wp2
    go_meet
    case rel => exact ⟨_, (false), qx2_9, H', ⟨by have := HK1.out; first | omega | exact Nat.le_refl _⟩, ⟨qx2_3⟩, ⟨qx2_7⟩, ⟨qx2_8⟩, ⟨qx2_0⟩⟩
   rw [if_pos c11] at H
   have c11b0 : decide (0 < (x6_1.length : Int)) = true := decide_eq_true c11
   have c11b1 : decide (0 < x6_1.length) = true := decide_eq_true (by omega)
   clear c11
   (first | rw [c11b0] | (simp only [i64_w, i32_w]; rw [c11b0]) | skip)
   obtain ⟨ji12, hji12⟩ : ∃ j_ : Int, (wrap64 ((x6_1.length : Int) - 1)) = j_ := ⟨_, rfl⟩
   replace H : (if 0 ≤ (ji12) then (if (ji12) < (x6_1.length : Int) then (segmentation_costs.j1 k1 l0 x5_1 x6_1 x7_1 x8_1 x9_1 x10_1 (rd l0 x10_1) (decide ((rd l0 x10_1) > (rd x6_1 (ji12))))) else (none)) else (none)) = some r := by first | (rw [hji12] at H; exact H) | (simp only [hji12] at H ⊢; exact H)
   have hji12w : (IntKind.i64.wrap ((x6_1.length : Int) - 1)) = ji12 := (i64_w _).trans hji12
   by_cases c13 : 0 ≤ (ji12)
   rotate_left
   ·rw [if_neg c13] at H
    exact absurd H (by simp)
   rw [if_pos c13] at H
   have c13b0 : decide (0 ≤ (ji12)) = true := decide_eq_true c13
   clear c13
   by_cases c14 : (ji12) < (x6_1.length : Int)
   rotate_left
   ·rw [if_neg c14] at H
    exact absurd H (by simp)
   rw [if_pos c14] at H
   have c14b0 : decide ((ji12) < (x6_1.length : Int)) = true := decide_eq_true c14
   clear c14
   have H' := Aside0.mk H
   clear H
   obtain ⟨Ao15, co15, eo15⟩ := Kd.R_slice HO_6.out
   subst eo15
   have p114 : 0 ≤ ((ji12) : Int) := of_decide_eq_true qx2_5
   have q114 : (ji12) < (x6_1.length : Int) := of_decide_eq_true qx2_5
   obtain ⟨ad114, e114, hx114_0⟩ := Kd.at_int (Kd.R_reads' HO_6.out).2.2 (ji12) p114 q114
   cases e114
   replace p114 := eq_true p114
   replace q114 := eq_true q114
   go_wp2
   go_meet
   case rel => exact ⟨_, (decide ((rd l0 x10_1) > (rd x6_1 (ji12)))), (by first | rfl | (simp; done) | (simp only [← hji12] <;> (first | rfl | simp)) | (simp [*]; done)), H', ⟨by have := HK1.out; first | omega | exact Nat.le_refl _⟩, ⟨qx2_3⟩, ⟨qx2_7⟩, ⟨qx2_8⟩, ⟨qx2_0⟩⟩
  clear HC10
  try clear c1
  try clear p1
  try clear q1
  try clear hx1
  try clear p2
  try clear c3
  try clear c3b0
  try clear c3b1
  try clear c4
  try clear c4b0
  try clear c4b1
  try clear p6
  try clear c7
  try clear c7b0
  try clear c8
  try clear c8b0
  try clear c9
  try clear c9b0
  try clear c11
  try clear c11b0
  try clear c11b1
  try clear p11
  try clear q11
  try clear hx11
  try clear c13
  try clear c13b0
  try clear c14
  try clear c14b0
  try clear hx113_0
  try clear hx114_0
  try clear p113
  try clear p114
  try clear p2
  try clear p6
  try clear q113
  try clear q114
  obtain ⟨kq, x43_9, rfl, HA, HJ9, HO_5, HO_6, HO_7, HB⟩ := hcut
  cases kq with
  | zero => exact absurd HA.out (by simp [segmentation_costs.j1])
  | succ kj9 =>
   have H := HA.out
   clear HA
   simp only [segmentation_costs.j1] at H
   have HC17 := Aside0.mk H
   clear H
   go_upto_if 43 with (fail)
   go_cut [6, 7, 8, 9] (fun v6 v7 v8 v9 wc => ∃ (kq : Nat) (x6_16 : List Int) (x7_16 : List Int) (x8_16 : Int) (x9_16 : Int), v8 = .int .i64 x8_16 ∧ v9 = .int .i64 x9_16 ∧ Aside0 (segmentation_costs.j2 kq l0 x5_1 x6_16 x7_16 x8_16 x9_16 x10_1 = some r) ∧ Aside0 (kq ≤ kj9) ∧ Aside0 (Kd.R (Kd.int .i64) 3 wc w.heap.size (fun k_ => some k_ ≠ (v6 : Value).ownBlock ∧ some k_ ≠ (v7 : Value).ownBlock) v111 x5_1) ∧ Aside0 (Kd.R (Kd.int .i64) 3 wc w.heap.size (fun k_ => some k_ ≠ (v111 : Value).ownBlock ∧ some k_ ≠ (v7 : Value).ownBlock) v6 x6_16) ∧ Aside0 (Kd.R (Kd.int .i64) 3 wc w.heap.size (fun k_ => some k_ ≠ (v111 : Value).ownBlock ∧ some k_ ≠ (v6 : Value).ownBlock) v7 x7_16) ∧ Aside0 (Below w.heap.size w wc))
   case first =>
    have H := HC17.out
    clear HC17
    by_cases c18 : x43_9 = true
    ·subst c18
     have H1 : ((slices_BinarySearch_int_int.f kj9 x7_1 (rd l0 x10_1)).bind fun bt115 => ((slices_Insert_int_int.f x7_1 bt115.1 (([(rd l0 x10_1)] : List Int))).bind fun t120 => (segmentation_costs.j2 kj9 l0 x5_1 x6_1 t120 x8_1 (wrap64 (x9_1 + (rd l0 x10_1))) x10_1))) = some r := by rw [if_pos rfl] at H; exact H
     clear H
     have H := H1
     clear H1
     replace H := Option.bind_eq_some_iff.mp H
     obtain ⟨⟨t115, t116⟩, A190, H⟩ := H
     replace H : ((slices_Insert_int_int.f x7_1 t115 (([(rd l0 x10_1)] : List Int))).bind fun t120 => (segmentation_costs.j2 kj9 l0 x5_1 x6_1 t120 x8_1 (wrap64 (x9_1 + (rd l0 x10_1))) x10_1)) = some r := H
     have A19 := Aside0.mk A190
     clear A190
     obtain ⟨y117, hy117⟩ : ∃ y_ : List Int, y_ = (([(rd l0 x10_1)] : List Int)) := ⟨_, rfl⟩
     replace H : ((slices_Insert_int_int.f x7_1 t115 y117).bind fun t120 => (segmentation_costs.j2 kj9 l0 x5_1 x6_1 t120 x8_1 (wrap64 (x9_1 + (rd l0 x10_1))) x10_1)) = some r := by first | (rw [hy117]; with_reducible exact H) | (have H2_ := (Option.bind_some _ _).symm.trans H; rw [hy117]; with_reducible exact H2_) | (have H2_ := (Option.bind_some _ _).symm.trans H; with_reducible exact H2_) | with_reducible exact H | (rw [hy117]; exact H) | exact H
     have Ny117 := Aside0.mk hy117
     clear hy117
     replace H := Option.bind_eq_some_iff.mp H
     obtain ⟨t120, A200, H⟩ := H
     replace H : (segmentation_costs.j2 kj9 l0 x5_1 x6_1 t120 x8_1 (wrap64 (x9_1 + (rd l0 x10_1))) x10_1) = some r := H
     have A20 := Aside0.mk A200
     clear A200
     have H' := Aside0.mk H
     clear H
     obtain ⟨Ao21, co21, eo21⟩ := Kd.R_slice HO_7.out
     subst eo21
     go_wp2_with (first | ((with_reducible refine gate_callee (f := 51) rfl ?_); refine goesL_ (some 47) rfl rfl Try.func51 (by kernel_rfl) rfl #[.slice Ao21 x7_1.length co21, .int .i64 (rd l0 x10_1)] rfl qx2_1 ?_; (with_reducible refine (slices_BinarySearch_int_int.calls kj9 _ _ x7_1 (rd l0 x10_1) t115 t116 _ ?side1 ?side2 A19.out).mono ?_); (case side1 => repeat (first | exact (Kd.R_reads' HO_7.out).2.2 | (with_reducible refine Kd.C_alloc ?_ _) | (with_reducible refine Kd.C_drewN ?_ _) | (with_reducible refine Kd.C_drew ?_))); (case side2 => exact (Kd.R_reads' HO_7.out).2.1); rintro e w' ⟨rfl, ⟨nd, rfl⟩⟩; refine ⟨_, rfl, ?_⟩) | ((with_reducible refine gate_dst (N := 53) rfl ?_); (try (refine gate_guard (by rfl) ?_; dsimp only)); refine Kd.R_lit (Kd.int .i64) _ 3 ?hg (N := 53) ?hd (xs := ([(rd l0 x10_1)] : List Int)) (inner := [.int .i64 (rd l0 x10_1)]) (ok := fun _ => True) (okp := fun _ => True) ?hr ?hp (fun _ hk => hk) trivial (Below.refl _ _) (Nat.le_refl _) (by simp) ?_; (case hd => rfl); (case hg => rfl); (case hr => exact qx2_14); (case hp => exact (Reps.one (show Kd.M (Kd.int .i64) _ _ _ (rd l0 x10_1) [.int .i64 (rd l0 x10_1)] from rfl) (Reps.none _ _))); intro v118 w22 ho23 hb hg_ hnew_; clear hg_ hnew_; (first | rw [← Ny117.out] at ho23 | (simp only [Int.reduceToNat] at ho23; rw [← Ny117.out] at ho23)); have n0_ := Aside0.mk (Kd.R_elder' qx2_3 (Kd.R_base ho23) hb); have n1_ := Aside0.mk (Kd.R_elder' qx2_7 (Kd.R_base ho23) hb); have n2_ := Aside0.mk (Kd.R_elder' qx2_8 (Kd.R_base ho23) hb); have n3_ := Aside0.mk (Kd.R_lower (Kd.R_new' (Kd.R_new' (Kd.R_new' ho23 (Kd.R_lt qx2_3)) (Kd.R_lt qx2_7)) (Kd.R_lt qx2_8)) (below_size qx2_0)); have n4_ := Aside0.mk (below_step qx2_0 hb); clear HO_5; clear HO_6; clear HO_7; clear HB; have HO_5 := n0_; have HO_6 := n1_; have HO_7 := n2_; have HO119 := n3_; have HB := n4_; clear n0_ n1_ n2_ n3_ n4_; clear hb ho23; obtain ⟨Ao24, co24, eo24⟩ := Kd.R_slice HO119.out; subst eo24) | ((with_reducible refine gate_callee (f := 52) rfl ?_); refine goesL_ (some 54) rfl rfl Try.func52 (by kernel_rfl) rfl #[.slice Ao21 x7_1.length co21, .int .i64 t115, .slice Ao24 y117.length co24] rfl qx2_1 ?_; (with_reducible refine (slices_Insert_int_int.calls (fun k_ => some k_ = (.slice Ao21 x7_1.length co21 : Value).ownBlock) (.slice Ao21 x7_1.length co21) x7_1 t115 (fun k_ => some k_ = (.slice Ao24 y117.length co24 : Value).ownBlock) (.slice Ao24 y117.length co24) y117 t120 w _ ?side1 ?side2 ?side3 ?side4 ?side5 A20.out).mono ?_); (case side1 => exact qx2_0); (case side2 => exact Kd.R_tight rfl HO_7.out); (case side3 => exact fun k_ e_ => (HO_7.out.1 k_ e_.symm).2); (case side4 => exact Kd.R_tight rfl HO119.out); (case side5 => exact fun k_ e_ => (HO119.out.1 k_ e_.symm).2); rintro e w25 ⟨v121, rfl, ho0, hb, hkp⟩; refine ⟨_, rfl, ?_⟩; have n0_ := Aside0.mk (Kd.R_mono (ok' := fun k_ => some k_ ≠ (u6 : Value).ownBlock ∧ some k_ ≠ (v121 : Value).ownBlock) (Kd.R_keptB (HO_5.out) hkp (fun k_ hk_ hs_ => Or.elim hs_ (fun e_ => (hk_.1.2) e_) (fun e_ => (hk_.2) e_))) (fun k_ hk_ => ⟨hk_.1.1.1, fun e_ => Or.elim (ho0.1 k_ e_.symm) (fun hs_ => hk_.2.1 hs_) (fun hn_ => Nat.not_le.2 hk_.2.2 hn_)⟩)); have n1_ := Aside0.mk (Kd.R_mono (ok' := fun k_ => some k_ ≠ (v111 : Value).ownBlock ∧ some k_ ≠ (v121 : Value).ownBlock) (Kd.R_keptB (HO_6.out) hkp (fun k_ hk_ hs_ => Or.elim hs_ (fun e_ => (hk_.1.2) e_) (fun e_ => (hk_.2) e_))) (fun k_ hk_ => ⟨hk_.1.1.1, fun e_ => Or.elim (ho0.1 k_ e_.symm) (fun hs_ => hk_.2.1 hs_) (fun hn_ => Nat.not_le.2 hk_.2.2 hn_)⟩)); have n2_ := Aside0.mk (Kd.R_mono (ok' := fun k_ => some k_ ≠ (v111 : Value).ownBlock ∧ some k_ ≠ (u6 : Value).ownBlock) ho0 (fun k_ hk_ => ⟨Or.elim hk_ (fun hs_ => Or.elim hs_ (fun hs_ => fun e_ => (((HO_5.out).1 k_ e_.symm).1.2) hs_) (fun hs_ => fun e_ => (((HO_5.out).1 k_ e_.symm).2) hs_)) (fun hn_ => (Kd.fresh' (Kd.R_lt qx2_3) k_ hn_)), Or.elim hk_ (fun hs_ => Or.elim hs_ (fun hs_ => fun e_ => (((HO_6.out).1 k_ e_.symm).1.2) hs_) (fun hs_ => fun e_ => (((HO_6.out).1 k_ e_.symm).2) hs_)) (fun hn_ => (Kd.fresh' (Kd.R_lt qx2_7) k_ hn_))⟩)); have n3_ := Aside0.mk (hb); clear HO_5; clear HO_6; clear HB; clear HO119; clear HO_7; have HO_5 := n0_; have HO_6 := n1_; have HO122 := n2_; have HB := n3_; clear n0_ n1_ n2_ n3_; (try clear hb); (try clear hkp); (try clear ho0)))
     go_meet
     case rel => exact ⟨_, (x6_1), (t120), (x8_1), (wrap64 (x9_1 + (rd l0 x10_1))), qx2_9, qx2_9, H', ⟨by have := HK1.out; have := HJ9.out; first | omega | exact Nat.le_refl _⟩, ⟨qx2_3⟩, ⟨qx2_7⟩, ⟨by (with_reducible repeat (first | apply Kd.R_alloc | apply Kd.R_drewN | apply Kd.R_drew)); exact HO122.out⟩, ⟨qx2_0⟩⟩
    replace c18 := Bool.eq_false_iff.mpr c18
    subst c18
    have H1 : ((slices_BinarySearch_int_int.f kj9 x6_1 (rd l0 x10_1)).bind fun bt123 => ((slices_Insert_int_int.f x6_1 bt123.1 (([(rd l0 x10_1)] : List Int))).bind fun t128 => (segmentation_costs.j2 kj9 l0 x5_1 t128 x7_1 (wrap64 (x8_1 + (rd l0 x10_1))) x9_1 x10_1))) = some r := by rw [if_neg (show ¬ (false = true) by decide)] at H; exact H
    clear H
    have H := H1
    clear H1
    replace H := Option.bind_eq_some_iff.mp H
    obtain ⟨⟨t123, t124⟩, A260, H⟩ := H
    replace H : ((slices_Insert_int_int.f x6_1 t123 (([(rd l0 x10_1)] : List Int))).bind fun t128 => (segmentation_costs.j2 kj9 l0 x5_1 t128 x7_1 (wrap64 (x8_1 + (rd l0 x10_1))) x9_1 x10_1)) = some r := H
    have A26 := Aside0.mk A260
    clear A260
    obtain ⟨y125, hy125⟩ : ∃ y_ : List Int, y_ = (([(rd l0 x10_1)] : List Int)) := ⟨_, rfl⟩
    replace H : ((slices_Insert_int_int.f x6_1 t123 y125).bind fun t128 => (segmentation_costs.j2 kj9 l0 x5_1 t128 x7_1 (wrap64 (x8_1 + (rd l0 x10_1))) x9_1 x10_1)) = some r := by first | (rw [hy125]; with_reducible exact H) | (have H2_ := (Option.bind_some _ _).symm.trans H; rw [hy125]; with_reducible exact H2_) | (have H2_ := (Option.bind_some _ _).symm.trans H; with_reducible exact H2_) | with_reducible exact H | (rw [hy125]; exact H) | exact H
    have Ny125 := Aside0.mk hy125
    clear hy125
    replace H := Option.bind_eq_some_iff.mp H
    obtain ⟨t128, A270, H⟩ := H
    replace H : (segmentation_costs.j2 kj9 l0 x5_1 t128 x7_1 (wrap64 (x8_1 + (rd l0 x10_1))) x9_1 x10_1) = some r := H
    have A27 := Aside0.mk A270
    clear A270
    have H' := Aside0.mk H
    clear H
    obtain ⟨Ao28, co28, eo28⟩ := Kd.R_slice HO_6.out
    subst eo28
    go_wp2_with (first | ((with_reducible refine gate_callee (f := 51) rfl ?_); refine goesL_ (some 61) rfl rfl Try.func51 (by kernel_rfl) rfl #[.slice Ao28 x6_1.length co28, .int .i64 (rd l0 x10_1)] rfl qx2_1 ?_; (with_reducible refine (slices_BinarySearch_int_int.calls kj9 _ _ x6_1 (rd l0 x10_1) t123 t124 _ ?side1 ?side2 A26.out).mono ?_); (case side1 => repeat (first | exact (Kd.R_reads' HO_6.out).2.2 | (with_reducible refine Kd.C_alloc ?_ _) | (with_reducible refine Kd.C_drewN ?_ _) | (with_reducible refine Kd.C_drew ?_))); (case side2 => exact (Kd.R_reads' HO_6.out).2.1); rintro e w' ⟨rfl, ⟨nd, rfl⟩⟩; refine ⟨_, rfl, ?_⟩) | ((with_reducible refine gate_dst (N := 67) rfl ?_); (try (refine gate_guard (by rfl) ?_; dsimp only)); refine Kd.R_lit (Kd.int .i64) _ 3 ?hg (N := 67) ?hd (xs := ([(rd l0 x10_1)] : List Int)) (inner := [.int .i64 (rd l0 x10_1)]) (ok := fun _ => True) (okp := fun _ => True) ?hr ?hp (fun _ hk => hk) trivial (Below.refl _ _) (Nat.le_refl _) (by simp) ?_; (case hd => rfl); (case hg => rfl); (case hr => exact qx2_14); (case hp => exact (Reps.one (show Kd.M (Kd.int .i64) _ _ _ (rd l0 x10_1) [.int .i64 (rd l0 x10_1)] from rfl) (Reps.none _ _))); intro v126 w29 ho30 hb hg_ hnew_; clear hg_ hnew_; (first | rw [← Ny125.out] at ho30 | (simp only [Int.reduceToNat] at ho30; rw [← Ny125.out] at ho30)); have n0_ := Aside0.mk (Kd.R_elder' qx2_3 (Kd.R_base ho30) hb); have n1_ := Aside0.mk (Kd.R_elder' qx2_7 (Kd.R_base ho30) hb); have n2_ := Aside0.mk (Kd.R_elder' qx2_8 (Kd.R_base ho30) hb); have n3_ := Aside0.mk (Kd.R_lower (Kd.R_new' (Kd.R_new' (Kd.R_new' ho30 (Kd.R_lt qx2_3)) (Kd.R_lt qx2_7)) (Kd.R_lt qx2_8)) (below_size qx2_0)); have n4_ := Aside0.mk (below_step qx2_0 hb); clear HO_5; clear HO_6; clear HO_7; clear HB; have HO_5 := n0_; have HO_6 := n1_; have HO_7 := n2_; have HO127 := n3_; have HB := n4_; clear n0_ n1_ n2_ n3_ n4_; clear hb ho30; obtain ⟨Ao31, co31, eo31⟩ := Kd.R_slice HO127.out; subst eo31) | ((with_reducible refine gate_callee (f := 52) rfl ?_); refine goesL_ (some 68) rfl rfl Try.func52 (by kernel_rfl) rfl #[.slice Ao28 x6_1.length co28, .int .i64 t123, .slice Ao31 y125.length co31] rfl qx2_1 ?_; (with_reducible refine (slices_Insert_int_int.calls (fun k_ => some k_ = (.slice Ao28 x6_1.length co28 : Value).ownBlock) (.slice Ao28 x6_1.length co28) x6_1 t123 (fun k_ => some k_ = (.slice Ao31 y125.length co31 : Value).ownBlock) (.slice Ao31 y125.length co31) y125 t128 w _ ?side1 ?side2 ?side3 ?side4 ?side5 A27.out).mono ?_); (case side1 => exact qx2_0); (case side2 => exact Kd.R_tight rfl HO_6.out); (case side3 => exact fun k_ e_ => (HO_6.out.1 k_ e_.symm).2); (case side4 => exact Kd.R_tight rfl HO127.out); (case side5 => exact fun k_ e_ => (HO127.out.1 k_ e_.symm).1.2); rintro e w32 ⟨v129, rfl, ho0, hb, hkp⟩; refine ⟨_, rfl, ?_⟩; have n0_ := Aside0.mk (Kd.R_mono (ok' := fun k_ => some k_ ≠ (u7 : Value).ownBlock ∧ some k_ ≠ (v129 : Value).ownBlock) (Kd.R_keptB (HO_5.out) hkp (fun k_ hk_ hs_ => Or.elim hs_ (fun e_ => (hk_.1.1) e_) (fun e_ => (hk_.2) e_))) (fun k_ hk_ => ⟨hk_.1.1.2, fun e_ => Or.elim (ho0.1 k_ e_.symm) (fun hs_ => hk_.2.1 hs_) (fun hn_ => Nat.not_le.2 hk_.2.2 hn_)⟩)); have n1_ := Aside0.mk (Kd.R_mono (ok' := fun k_ => some k_ ≠ (v111 : Value).ownBlock ∧ some k_ ≠ (v129 : Value).ownBlock) (Kd.R_keptB (HO_7.out) hkp (fun k_ hk_ hs_ => Or.elim hs_ (fun e_ => (hk_.1.2) e_) (fun e_ => (hk_.2) e_))) (fun k_ hk_ => ⟨hk_.1.1.1, fun e_ => Or.elim (ho0.1 k_ e_.symm) (fun hs_ => hk_.2.1 hs_) (fun hn_ => Nat.not_le.2 hk_.2.2 hn_)⟩)); have n2_ := Aside0.mk (Kd.R_mono (ok' := fun k_ => some k_ ≠ (v111 : Value).ownBlock ∧ some k_ ≠ (u7 : Value).ownBlock) ho0 (fun k_ hk_ => ⟨Or.elim hk_ (fun hs_ => Or.elim hs_ (fun hs_ => fun e_ => (((HO_5.out).1 k_ e_.symm).1.1) hs_) (fun hs_ => fun e_ => (((HO_5.out).1 k_ e_.symm).2) hs_)) (fun hn_ => (Kd.fresh' (Kd.R_lt qx2_3) k_ hn_)), Or.elim hk_ (fun hs_ => Or.elim hs_ (fun hs_ => fun e_ => (((HO_7.out).1 k_ e_.symm).1.2) hs_) (fun hs_ => fun e_ => (((HO_7.out).1 k_ e_.symm).2) hs_)) (fun hn_ => (Kd.fresh' (Kd.R_lt qx2_8) k_ hn_))⟩)); have n3_ := Aside0.mk (hb); clear HO_5; clear HO_7; clear HB; clear HO127; clear HO_6; have HO_5 := n0_; have HO_7 := n1_; have HO130 := n2_; have HB := n3_; clear n0_ n1_ n2_ n3_; (try clear hb); (try clear hkp); (try clear ho0)))
    go_meet
    case rel => exact ⟨_, (t128), (x7_1), (wrap64 (x8_1 + (rd l0 x10_1))), (x9_1), qx2_9, qx2_9, H', ⟨by have := HK1.out; have := HJ9.out; first | omega | exact Nat.le_refl _⟩, ⟨qx2_15⟩, ⟨by (with_reducible repeat (first | apply Kd.R_alloc | apply Kd.R_drewN | apply Kd.R_drew)); exact HO130.out⟩, ⟨qx2_8⟩, ⟨qx2_0⟩⟩
   clear HC17
   try clear c1
   try clear p1
   try clear q1
   try clear hx1
   try clear p2
   try clear c3
   try clear c3b0
   try clear c3b1
   try clear c4
   try clear c4b0
   try clear c4b1
   try clear c5
   try clear p6
   try clear c7
   try clear c7b0
   try clear c8
   try clear c8b0
   try clear c9
   try clear c9b0
   try clear c11
   try clear c11b0
   try clear c11b1
   try clear p11
   try clear q11
   try clear hx11
   try clear c13
   try clear c13b0
   try clear c14
   try clear c14b0
   try clear c18
   try clear hx113_0
   try clear hx114_0
   try clear p1
   try clear p11
   try clear p113
   try clear p114
   try clear p2
   try clear p6
   try clear q1
   try clear q11
   try clear q113
   try clear q114
   obtain ⟨kq, x6_16, x7_16, x8_16, x9_16, rfl, rfl, HA, HJ16, HO_5, HO_6, HO_7, HB⟩ := hcut
   cases kq with
   | zero => exact absurd HA.out (by simp [segmentation_costs.j2])
   | succ kj16 =>
    have H := HA.out
    clear HA
    simp only [segmentation_costs.j2] at H
    by_cases c33 : (x6_16.length : Int) > (wrap64 ((x7_16.length : Int) + 1))
    ·rw [if_pos c33] at H
     have c33b0 : decide ((wrap64 ((x7_16.length : Int) + 1)) < (x6_16.length : Int)) = true := decide_eq_true c33
     clear c33
     obtain ⟨ji34, hji34⟩ : ∃ j_ : Int, (wrap64 ((x6_16.length : Int) - 1)) = j_ := ⟨_, rfl⟩
     replace H : (if 0 ≤ (ji34) then (if (ji34) < (x6_16.length : Int) then (if (ji34) ≤ (x6_16.length : Int) then ((some (x6_16.take ((ji34) : Int).toNat : List Int)).bind fun y132 => ((slices_Insert_int_int.f x7_16 0 (([rd x6_16 (ji34)] : List Int))).bind fun t138 => (if 0 ≤ (wrap64 ((y132.length : Int) - 1)) then (if (wrap64 ((y132.length : Int) - 1)) < (y132.length : Int) then (if 0 ≤ x10_1 then (if x10_1 < (x5_1.length : Int) then (segmentation_costs.l0 kj16 l0 (x5_1.set (x10_1 : Int).toNat (wrap64 ((wrap64 ((wrap64 ((wrap64 ((rd y132 (wrap64 ((y132.length : Int) - 1))) * (y132.length : Int))) - (wrap64 (x8_16 - (rd x6_16 (ji34)))))) + (wrap64 (x9_16 + (rd x6_16 (ji34)))))) - (wrap64 ((rd y132 (wrap64 ((y132.length : Int) - 1))) * (t138.length : Int)))))) y132 t138 (wrap64 (x8_16 - (rd x6_16 (ji34)))) (wrap64 (x9_16 + (rd x6_16 (ji34)))) (wrap64 (x10_1 - 1))) else (none)) else (none)) else (none)) else (none)))) else (none)) else (none)) else (none)) = some r := by first | (rw [hji34] at H; exact H) | (simp only [hji34] at H ⊢; exact H)
     have hji34w : (IntKind.i64.wrap ((x6_16.length : Int) - 1)) = ji34 := (i64_w _).trans hji34
     by_cases c35 : 0 ≤ (ji34)
     rotate_left
     ·rw [if_neg c35] at H
      exact absurd H (by simp)
     rw [if_pos c35] at H
     have c35b0 : decide (0 ≤ (ji34)) = true := decide_eq_true c35
     clear c35
     by_cases c36 : (ji34) < (x6_16.length : Int)
     rotate_left
     ·rw [if_neg c36] at H
      exact absurd H (by simp)
     rw [if_pos c36] at H
     have c36b0 : decide ((ji34) < (x6_16.length : Int)) = true := decide_eq_true c36
     clear c36
     by_cases c37 : (ji34) ≤ (x6_16.length : Int)
     rotate_left
     ·rw [if_neg c37] at H
      exact absurd H (by simp)
     rw [if_pos c37] at H
     have c37b0 := eq_true c37
     have c37b1 : decide ((ji34) ≤ (x6_16.length : Int)) = true := decide_eq_true c37
     clear c37
     obtain ⟨y132, hy132⟩ : ∃ y_ : List Int, y_ = (x6_16.take ((ji34) : Int).toNat) := ⟨_, rfl⟩
     replace H : ((slices_Insert_int_int.f x7_16 0 (([rd x6_16 (ji34)] : List Int))).bind fun t138 => (if 0 ≤ (wrap64 ((y132.length : Int) - 1)) then (if (wrap64 ((y132.length : Int) - 1)) < (y132.length : Int) then (if 0 ≤ x10_1 then (if x10_1 < (x5_1.length : Int) then (segmentation_costs.l0 kj16 l0 (x5_1.set (x10_1 : Int).toNat (wrap64 ((wrap64 ((wrap64 ((wrap64 ((rd y132 (wrap64 ((y132.length : Int) - 1))) * (y132.length : Int))) - (wrap64 (x8_16 - (rd x6_16 (ji34)))))) + (wrap64 (x9_16 + (rd x6_16 (ji34)))))) - (wrap64 ((rd y132 (wrap64 ((y132.length : Int) - 1))) * (t138.length : Int)))))) y132 t138 (wrap64 (x8_16 - (rd x6_16 (ji34)))) (wrap64 (x9_16 + (rd x6_16 (ji34)))) (wrap64 (x10_1 - 1))) else (none)) else (none)) else (none)) else (none))) = some r := by first | (rw [hy132]; with_reducible exact H) | (have H2_ := (Option.bind_some _ _).symm.trans H; rw [hy132]; with_reducible exact H2_) | (have H2_ := (Option.bind_some _ _).symm.trans H; with_reducible exact H2_) | with_reducible exact H | (rw [hy132]; exact H) | exact H
     have Ny132 := Aside0.mk hy132
     clear hy132
     obtain ⟨y135, hy135⟩ : ∃ y_ : List Int, y_ = (([rd x6_16 (ji34)] : List Int)) := ⟨_, rfl⟩
     replace H : ((slices_Insert_int_int.f x7_16 0 y135).bind fun t138 => (if 0 ≤ (wrap64 ((y132.length : Int) - 1)) then (if (wrap64 ((y132.length : Int) - 1)) < (y132.length : Int) then (if 0 ≤ x10_1 then (if x10_1 < (x5_1.length : Int) then (segmentation_costs.l0 kj16 l0 (x5_1.set (x10_1 : Int).toNat (wrap64 ((wrap64 ((wrap64 ((wrap64 ((rd y132 (wrap64 ((y132.length : Int) - 1))) * (y132.length : Int))) - (wrap64 (x8_16 - (rd x6_16 (ji34)))))) + (wrap64 (x9_16 + (rd x6_16 (ji34)))))) - (wrap64 ((rd y132 (wrap64 ((y132.length : Int) - 1))) * (t138.length : Int)))))) y132 t138 (wrap64 (x8_16 - (rd x6_16 (ji34)))) (wrap64 (x9_16 + (rd x6_16 (ji34)))) (wrap64 (x10_1 - 1))) else (none)) else (none)) else (none)) else (none))) = some r := by first | (rw [hy135]; with_reducible exact H) | (have H2_ := (Option.bind_some _ _).symm.trans H; rw [hy135]; with_reducible exact H2_) | (have H2_ := (Option.bind_some _ _).symm.trans H; with_reducible exact H2_) | with_reducible exact H | (rw [hy135]; exact H) | exact H
     have Ny135 := Aside0.mk hy135
     clear hy135
     replace H := Option.bind_eq_some_iff.mp H
     obtain ⟨t138, A380, H⟩ := H
     replace H : (if 0 ≤ (wrap64 ((y132.length : Int) - 1)) then (if (wrap64 ((y132.length : Int) - 1)) < (y132.length : Int) then (if 0 ≤ x10_1 then (if x10_1 < (x5_1.length : Int) then (segmentation_costs.l0 kj16 l0 (x5_1.set (x10_1 : Int).toNat (wrap64 ((wrap64 ((wrap64 ((wrap64 ((rd y132 (wrap64 ((y132.length : Int) - 1))) * (y132.length : Int))) - (wrap64 (x8_16 - (rd x6_16 (ji34)))))) + (wrap64 (x9_16 + (rd x6_16 (ji34)))))) - (wrap64 ((rd y132 (wrap64 ((y132.length : Int) - 1))) * (t138.length : Int)))))) y132 t138 (wrap64 (x8_16 - (rd x6_16 (ji34)))) (wrap64 (x9_16 + (rd x6_16 (ji34)))) (wrap64 (x10_1 - 1))) else (none)) else (none)) else (none)) else (none)) = some r := H
     have A38 := Aside0.mk A380
     clear A380
     obtain ⟨ji39, hji39⟩ : ∃ j_ : Int, (wrap64 ((y132.length : Int) - 1)) = j_ := ⟨_, rfl⟩
     replace H : (if 0 ≤ (ji39) then (if (ji39) < (y132.length : Int) then (if 0 ≤ x10_1 then (if x10_1 < (x5_1.length : Int) then (segmentation_costs.l0 kj16 l0 (x5_1.set (x10_1 : Int).toNat (wrap64 ((wrap64 ((wrap64 ((wrap64 ((rd y132 (ji39)) * (y132.length : Int))) - (wrap64 (x8_16 - (rd x6_16 (ji34)))))) + (wrap64 (x9_16 + (rd x6_16 (ji34)))))) - (wrap64 ((rd y132 (ji39)) * (t138.length : Int)))))) y132 t138 (wrap64 (x8_16 - (rd x6_16 (ji34)))) (wrap64 (x9_16 + (rd x6_16 (ji34)))) (wrap64 (x10_1 - 1))) else (none)) else (none)) else (none)) else (none)) = some r := by first | (rw [hji39] at H; exact H) | (simp only [hji39] at H ⊢; exact H)
     (try rw [hji39] at A38)
     have hji39w : (IntKind.i64.wrap ((y132.length : Int) - 1)) = ji39 := (i64_w _).trans hji39
     by_cases c40 : 0 ≤ (ji39)
     rotate_left
     ·rw [if_neg c40] at H
      exact absurd H (by simp)
     rw [if_pos c40] at H
     have c40b0 : decide (0 ≤ (ji39)) = true := decide_eq_true c40
     clear c40
     by_cases c41 : (ji39) < (y132.length : Int)
     rotate_left
     ·rw [if_neg c41] at H
      exact absurd H (by simp)
     rw [if_pos c41] at H
     have c41b0 : decide ((ji39) < (y132.length : Int)) = true := decide_eq_true c41
     clear c41
     by_cases c42 : 0 ≤ x10_1
     rotate_left
     ·rw [if_neg c42] at H
      exact absurd H (by simp)
     rw [if_pos c42] at H
     have c42b0 : decide (0 ≤ x10_1) = true := decide_eq_true c42
     clear c42
     by_cases c43 : x10_1 < (x5_1.length : Int)
     rotate_left
     ·rw [if_neg c43] at H
      exact absurd H (by simp)
     rw [if_pos c43] at H
     have c43b0 : decide (x10_1 < (x5_1.length : Int)) = true := decide_eq_true c43
     clear c43
     obtain ⟨y142, hy142⟩ : ∃ y_ : List Int, y_ = (x5_1.set (x10_1 : Int).toNat (wrap64 ((wrap64 ((wrap64 ((wrap64 ((rd y132 (ji39)) * (y132.length : Int))) - (wrap64 (x8_16 - (rd x6_16 (ji34)))))) + (wrap64 (x9_16 + (rd x6_16 (ji34)))))) - (wrap64 ((rd y132 (ji39)) * (t138.length : Int)))))) := ⟨_, rfl⟩
     replace H : (segmentation_costs.l0 kj16 l0 y142 y132 t138 (wrap64 (x8_16 - (rd x6_16 (ji34)))) (wrap64 (x9_16 + (rd x6_16 (ji34)))) (wrap64 (x10_1 - 1))) = some r := by first | (rw [hy142]; with_reducible exact H) | (have H2_ := (Option.bind_some _ _).symm.trans H; rw [hy142]; with_reducible exact H2_) | (have H2_ := (Option.bind_some _ _).symm.trans H; with_reducible exact H2_) | with_reducible exact H | (rw [hy142]; exact H) | exact H
     have Ny142 := Aside0.mk hy142
     clear hy142
     have H' := Aside0.mk H
     clear H
     obtain ⟨Ao45, co45, eo45⟩ := Kd.R_slice HO_6.out
     subst eo45
     obtain ⟨Ao46, co46, eo46⟩ := Kd.R_slice HO_7.out
     subst eo46
     have p131 : 0 ≤ ((ji34) : Int) := of_decide_eq_true qx2_5
     have q131 : (ji34) < (x6_16.length : Int) := of_decide_eq_true qx2_5
     obtain ⟨ad131, e131, hx131_0⟩ := Kd.at_int (Kd.R_reads' HO_6.out).2.2 (ji34) p131 q131
     cases e131
     replace p131 := eq_true p131
     replace q131 := eq_true q131
     have q47 : ((ji34) : Int) ≤ ((x6_16.length : Int) : Int) := of_decide_eq_true qx2_5
     obtain ⟨i047, hi047, _, hsz47, _⟩ := info_parts info3
     have hcut47 := cut_to (P := Try.prog) 24 3 .i64 Try.underlying24 hi047 (some ad131) x6_16.length co45 (ji34) (of_decide_eq_true qx2_5) q47 (Kd.R_reads' HO_6.out).2.1
     have hr47 := Kd.R_take (m := ((ji34) : Int).toNat) HO_6.out (by omega)
     have hy47 : y132.length = ((ji34) : Int).toNat := (by rw [Ny132.out, List.length_take]; omega)
     rw [← Ny132.out] at hr47
     rw [← hy47] at hr47 hcut47
     clear hy47 hi047 hsz47 HO_6
     have HO134 := Aside0.mk hr47
     clear hr47
     replace q47 := eq_true q47
     go_wp2_with (first | ((with_reducible refine gate_dst (N := 94) rfl ?_); (try (refine gate_guard (by rfl) ?_; dsimp only)); refine Kd.R_lit (Kd.int .i64) _ 3 ?hg (N := 94) ?hd (xs := ([rd x6_16 (ji34)] : List Int)) (inner := [.int .i64 (rd x6_16 (ji34))]) (ok := fun _ => True) (okp := fun _ => True) ?hr ?hp (fun _ hk => hk) trivial (Below.refl _ _) (Nat.le_refl _) (by simp) ?_; (case hd => rfl); (case hg => rfl); (case hr => exact qx2_14); (case hp => exact (Reps.one (show Kd.M (Kd.int .i64) _ _ _ (rd x6_16 (ji34)) [.int .i64 (rd x6_16 (ji34))] from rfl) (Reps.none _ _))); intro v136 w48 ho49 hb hg_ hnew_; clear hg_ hnew_; (first | rw [← Ny135.out] at ho49 | (simp only [Int.reduceToNat] at ho49; rw [← Ny135.out] at ho49)); have n0_ := Aside0.mk (Kd.R_elder' qx2_3 (Kd.R_base ho49) hb); have n1_ := Aside0.mk (Kd.R_elder' qx2_17 (Kd.R_base ho49) hb); have n2_ := Aside0.mk (Kd.R_elder' qx2_8 (Kd.R_base ho49) hb); have n3_ := Aside0.mk (Kd.R_lower (Kd.R_new' (Kd.R_new' (Kd.R_new' ho49 (Kd.R_lt qx2_3)) (Kd.R_lt qx2_17)) (Kd.R_lt qx2_8)) (below_size qx2_0)); have n4_ := Aside0.mk (below_step qx2_0 hb); clear HO_5; clear HO134; clear HO_7; clear HB; have HO_5 := n0_; have HO134 := n1_; have HO_7 := n2_; have HO137 := n3_; have HB := n4_; clear n0_ n1_ n2_ n3_ n4_; clear hb ho49; obtain ⟨Ao50, co50, eo50⟩ := Kd.R_slice HO137.out; subst eo50) | ((with_reducible refine gate_callee (f := 52) rfl ?_); refine goesL_ (some 95) rfl rfl Try.func52 (by kernel_rfl) rfl #[.slice Ao46 x7_16.length co46, .int .i64 0, .slice Ao50 y135.length co50] rfl qx2_1 ?_; (with_reducible refine (slices_Insert_int_int.calls (fun k_ => some k_ = (.slice Ao46 x7_16.length co46 : Value).ownBlock) (.slice Ao46 x7_16.length co46) x7_16 0 (fun k_ => some k_ = (.slice Ao50 y135.length co50 : Value).ownBlock) (.slice Ao50 y135.length co50) y135 t138 w _ ?side1 ?side2 ?side3 ?side4 ?side5 A38.out).mono ?_); (case side1 => exact qx2_0); (case side2 => exact Kd.R_tight rfl HO_7.out); (case side3 => exact fun k_ e_ => (HO_7.out.1 k_ e_.symm).2); (case side4 => exact Kd.R_tight rfl HO137.out); (case side5 => exact fun k_ e_ => (HO137.out.1 k_ e_.symm).2); rintro e w51 ⟨v139, rfl, ho0, hb, hkp⟩; refine ⟨_, rfl, ?_⟩; have n0_ := Aside0.mk (Kd.R_mono (ok' := fun k_ => some k_ ≠ (.slice (some ad131) y132.length co45 : Value).ownBlock ∧ some k_ ≠ (v139 : Value).ownBlock) (Kd.R_keptB (HO_5.out) hkp (fun k_ hk_ hs_ => Or.elim hs_ (fun e_ => (hk_.1.2) e_) (fun e_ => (hk_.2) e_))) (fun k_ hk_ => ⟨hk_.1.1.1, fun e_ => Or.elim (ho0.1 k_ e_.symm) (fun hs_ => hk_.2.1 hs_) (fun hn_ => Nat.not_le.2 hk_.2.2 hn_)⟩)); have n1_ := Aside0.mk (Kd.R_mono (ok' := fun k_ => some k_ ≠ (v111 : Value).ownBlock ∧ some k_ ≠ (v139 : Value).ownBlock) (Kd.R_keptB (HO134.out) hkp (fun k_ hk_ hs_ => Or.elim hs_ (fun e_ => (hk_.1.2) e_) (fun e_ => (hk_.2) e_))) (fun k_ hk_ => ⟨hk_.1.1.1, fun e_ => Or.elim (ho0.1 k_ e_.symm) (fun hs_ => hk_.2.1 hs_) (fun hn_ => Nat.not_le.2 hk_.2.2 hn_)⟩)); have n2_ := Aside0.mk (Kd.R_mono (ok' := fun k_ => some k_ ≠ (v111 : Value).ownBlock ∧ some k_ ≠ (.slice (some ad131) y132.length co45 : Value).ownBlock) ho0 (fun k_ hk_ => ⟨Or.elim hk_ (fun hs_ => Or.elim hs_ (fun hs_ => fun e_ => (((HO_5.out).1 k_ e_.symm).1.2) hs_) (fun hs_ => fun e_ => (((HO_5.out).1 k_ e_.symm).2) hs_)) (fun hn_ => (Kd.fresh' (Kd.R_lt qx2_3) k_ hn_)), Or.elim hk_ (fun hs_ => Or.elim hs_ (fun hs_ => fun e_ => (((HO134.out).1 k_ e_.symm).1.2) hs_) (fun hs_ => fun e_ => (((HO134.out).1 k_ e_.symm).2) hs_)) (fun hn_ => (Kd.fresh' (Kd.R_lt qx2_17) k_ hn_))⟩)); have n3_ := Aside0.mk (hb); clear HO_5; clear HO134; clear HB; clear HO137; clear HO_7; have HO_5 := n0_; have HO134 := n1_; have HO140 := n2_; have HB := n3_; clear n0_ n1_ n2_ n3_; (try clear hb); (try clear hkp); (try clear ho0); have p141 : 0 ≤ ((ji39) : Int) := of_decide_eq_true qx2_5; have q141 : (ji39) < (y132.length : Int) := of_decide_eq_true qx2_5; obtain ⟨ad141, e141, hx141_0⟩ := Kd.at_int (Kd.R_reads' HO134.out).2.2 (ji39) p141 q141; obtain rfl : ad131 = ad141 := (by injection e141); replace p141 := eq_true p141; replace q141 := eq_true q141; obtain ⟨Ao52, co52, eo52⟩ := Kd.R_slice HO140.out; subst eo52; have p44 : 0 ≤ (x10_1 : Int) := of_decide_eq_true qx2_5; have q44 : (x10_1 : Int) < ((x5_1.length : Int) : Int) := of_decide_eq_true qx2_5; obtain ⟨go44, co44, eo44, gb44, gl44, cl44, HG44⟩ := Kd.R_form HO_5.out (by omega); (first | cases eo44 | (injection eo44 with ea_ en_ ec_; (first | subst ea_ | (injection ea_ with ea_; subst ea_)); subst ec_; clear en_)); have GB44 := Aside0.mk gb44; have GG44 := Aside0.mk HG44; clear gb44 gl44 HG44; obtain ⟨hx44_0, hf44_0⟩ := Kd.R_celln 0 HO_5.out (x10_1 : Int) p44 q44; replace p44 := eq_true p44; replace q44 := eq_true q44; obtain ⟨hy53_, hz53_⟩ := Kd.R_celln 0 HO_5.out (x10_1 : Int) (of_decide_eq_true qx2_5) (of_decide_eq_true qx2_5); have HP53 := Kd.R_putg HO_5.out (x10_1 : Int) (wrap64 ((wrap64 ((wrap64 ((wrap64 ((rd y132 (ji39)) * (y132.length : Int))) - (wrap64 (x8_16 - (rd x6_16 (ji34)))))) + (wrap64 (x9_16 + (rd x6_16 (ji34)))))) - (wrap64 ((rd y132 (ji39)) * (t138.length : Int)))))) | ((with_reducible refine gate_store (t := 3) (p := 140) rfl ?_); refine store_event (t := 3) (p := 140) (v := ?vo_w54) (w1 := (w51.setCell ⟨go44, (x10_1 : Int).toNat, none⟩ (.int .i64 (wrap64 ((wrap64 ((wrap64 ((wrap64 ((rd y132 (ji39)) * (y132.length : Int))) - (wrap64 (x8_16 - (rd x6_16 (ji34)))))) + (wrap64 (x9_16 + (rd x6_16 (ji34)))))) - (wrap64 ((rd y132 (ji39)) * (t138.length : Int)))))))) ?hg ?ho ?hn ?hr ?_; (case ho => rfl); (case hg => rfl); (case hn => rfl); (case hr => exact qx2_14); intro w54 hw; have hg : w51.grownBy w54 (some go44) := (by rw [hw]; exact HP53.2); have hp_ : Kd.R (Kd.int .i64) 3 w54 w.heap.size (fun k_ => some k_ ≠ (.slice (some ad131) y132.length co45 : Value).ownBlock ∧ some k_ ≠ (.slice Ao52 t138.length co52 : Value).ownBlock) (.slice (some ⟨go44, 0, none⟩) x5_1.length co44) y142 := (by rw [hw, Ny142.out]; exact HP53.1); clear HP53; have n0_ := Aside0.mk (hp_); have n1_ := Aside0.mk (Kd.R_after (v := (.slice (some ⟨go44, 0, none⟩) x5_1.length co44)) (v1 := (.slice (some ⟨go44, 0, none⟩) x5_1.length co44)) (ok := (fun k_ => some k_ ≠ (.slice Ao52 t138.length co52 : Value).ownBlock)) qx2_19 hg (.inl rfl)); have n2_ := Aside0.mk (Kd.R_after (v := (.slice (some ⟨go44, 0, none⟩) x5_1.length co44)) (v1 := (.slice (some ⟨go44, 0, none⟩) x5_1.length co44)) (ok := (fun k_ => some k_ ≠ (.slice (some ad131) y132.length co45 : Value).ownBlock)) qx2_20 hg (.inl rfl)); have n3_ := Aside0.mk ((by rw [hw]; exact below_set (HB.out) GB44.out : Below w.heap.size w w54)); clear HO_5; clear HO134; clear HO140; clear HB; have HO_5 := n0_; have HO134 := n1_; have HO140 := n2_; have HB := n3_; clear n0_ n1_ n2_ n3_; clear hg hw hp_))
     go_roundg kj16
     case measure => have := HK1.out; have := HJ9.out; have := HJ16.out; omega
     case rel => exact ⟨(y142), (y132), (t138), (wrap64 (x8_16 - (rd x6_16 (ji34)))), (wrap64 (x9_16 + (rd x6_16 (ji34)))), (wrap64 (x10_1 - 1)), (by first | rfl | (simp; done) | (simp only [← hji34] <;> (first | rfl | simp)) | (simp [*]; done)), (by first | rfl | (simp; done) | (simp only [← hji34] <;> (first | rfl | simp)) | (simp [*]; done)), qx2_9, H', ⟨by have := HK1.out; have := HJ9.out; have := HJ16.out; omega⟩, ⟨qx2_3⟩, ⟨qx2_19⟩, ⟨qx2_20⟩, ⟨qx2_0⟩⟩
    rw [if_neg c33] at H
    have c33b0 : decide ((wrap64 ((x7_16.length : Int) + 1)) < (x6_16.length : Int)) = false := decide_eq_false c33
    clear c33
    by_cases c55 : (x6_16.length : Int) < (x7_16.length : Int)
    rotate_left
    ·rw [if_neg c55] at H
     have c55b0 : decide ((x6_16.length : Int) < (x7_16.length : Int)) = false := decide_eq_false c55
     have c55b1 : decide (x6_16.length < x7_16.length) = false := decide_eq_false (fun h => c55 (Int.ofNat_lt.mpr h))
     clear c55
     obtain ⟨ji73, hji73⟩ : ∃ j_ : Int, (wrap64 ((x6_16.length : Int) - 1)) = j_ := ⟨_, rfl⟩
     replace H : (if 0 ≤ (ji73) then (if (ji73) < (x6_16.length : Int) then (if 0 ≤ x10_1 then (if x10_1 < (x5_1.length : Int) then (segmentation_costs.l0 kj16 l0 (x5_1.set (x10_1 : Int).toNat (wrap64 ((wrap64 ((wrap64 ((wrap64 ((rd x6_16 (ji73)) * (x6_16.length : Int))) - x8_16)) + x9_16)) - (wrap64 ((rd x6_16 (ji73)) * (x7_16.length : Int)))))) x6_16 x7_16 x8_16 x9_16 (wrap64 (x10_1 - 1))) else (none)) else (none)) else (none)) else (none)) = some r := by first | (rw [hji73] at H; exact H) | (simp only [hji73] at H ⊢; exact H)
     have hji73w : (IntKind.i64.wrap ((x6_16.length : Int) - 1)) = ji73 := (i64_w _).trans hji73
     by_cases c74 : 0 ≤ (ji73)
     rotate_left
     ·rw [if_neg c74] at H
      exact absurd H (by simp)
     rw [if_pos c74] at H
     have c74b0 : decide (0 ≤ (ji73)) = true := decide_eq_true c74
     clear c74
     by_cases c75 : (ji73) < (x6_16.length : Int)
     rotate_left
     ·rw [if_neg c75] at H
      exact absurd H (by simp)
     rw [if_pos c75] at H
     have c75b0 : decide ((ji73) < (x6_16.length : Int)) = true := decide_eq_true c75
     clear c75
     by_cases c76 : 0 ≤ x10_1
     rotate_left
     ·rw [if_neg c76] at H
      exact absurd H (by simp)
     rw [if_pos c76] at H
     have c76b0 : decide (0 ≤ x10_1) = true := decide_eq_true c76
     clear c76
     by_cases c77 : x10_1 < (x5_1.length : Int)
     rotate_left
     ·rw [if_neg c77] at H
      exact absurd H (by simp)
     rw [if_pos c77] at H
     have c77b0 : decide (x10_1 < (x5_1.length : Int)) = true := decide_eq_true c77
     clear c77
     obtain ⟨y153, hy153⟩ : ∃ y_ : List Int, y_ = (x5_1.set (x10_1 : Int).toNat (wrap64 ((wrap64 ((wrap64 ((wrap64 ((rd x6_16 (ji73)) * (x6_16.length : Int))) - x8_16)) + x9_16)) - (wrap64 ((rd x6_16 (ji73)) * (x7_16.length : Int)))))) := ⟨_, rfl⟩
     replace H : (segmentation_costs.l0 kj16 l0 y153 x6_16 x7_16 x8_16 x9_16 (wrap64 (x10_1 - 1))) = some r := by first | (rw [hy153]; with_reducible exact H) | (have H2_ := (Option.bind_some _ _).symm.trans H; rw [hy153]; with_reducible exact H2_) | (have H2_ := (Option.bind_some _ _).symm.trans H; with_reducible exact H2_) | with_reducible exact H | (rw [hy153]; exact H) | exact H
     have Ny153 := Aside0.mk hy153
     clear hy153
     have H' := Aside0.mk H
     clear H
     obtain ⟨Ao79, co79, eo79⟩ := Kd.R_slice HO_6.out
     subst eo79
     obtain ⟨Ao80, co80, eo80⟩ := Kd.R_slice HO_7.out
     subst eo80
     have p152 : 0 ≤ ((ji73) : Int) := of_decide_eq_true qx2_5
     have q152 : (ji73) < (x6_16.length : Int) := of_decide_eq_true qx2_5
     obtain ⟨ad152, e152, hx152_0⟩ := Kd.at_int (Kd.R_reads' HO_6.out).2.2 (ji73) p152 q152
     cases e152
     replace p152 := eq_true p152
     replace q152 := eq_true q152
     have p78 : 0 ≤ (x10_1 : Int) := of_decide_eq_true qx2_5
     have q78 : (x10_1 : Int) < ((x5_1.length : Int) : Int) := of_decide_eq_true qx2_5
     obtain ⟨go78, co78, eo78, gb78, gl78, cl78, HG78⟩ := Kd.R_form HO_5.out (by omega)
     (first | cases eo78 | (injection eo78 with ea_ en_ ec_; (first | subst ea_ | (injection ea_ with ea_; subst ea_)); subst ec_; clear en_))
     have GB78 := Aside0.mk gb78
     have GG78 := Aside0.mk HG78
     clear gb78 gl78 HG78
     obtain ⟨hx78_0, hf78_0⟩ := Kd.R_celln 0 HO_5.out (x10_1 : Int) p78 q78
     replace p78 := eq_true p78
     replace q78 := eq_true q78
     have HP81 := Kd.R_putg HO_5.out (x10_1 : Int) (wrap64 ((wrap64 ((wrap64 ((wrap64 ((rd x6_16 (ji73)) * (x6_16.length : Int))) - x8_16)) + x9_16)) - (wrap64 ((rd x6_16 (ji73)) * (x7_16.length : Int)))))
     go_wp2_with (first | ((with_reducible refine gate_store (t := 3) (p := 140) rfl ?_); refine store_event (t := 3) (p := 140) (v := ?vo_w82) (w1 := (wc.setCell ⟨go78, (x10_1 : Int).toNat, none⟩ (.int .i64 (wrap64 ((wrap64 ((wrap64 ((wrap64 ((rd x6_16 (ji73)) * (x6_16.length : Int))) - x8_16)) + x9_16)) - (wrap64 ((rd x6_16 (ji73)) * (x7_16.length : Int)))))))) ?hg ?ho ?hn ?hr ?_; (case ho => rfl); (case hg => rfl); (case hn => rfl); (case hr => exact qx2_14); intro w82 hw; have hg : wc.grownBy w82 (some go78) := (by rw [hw]; exact HP81.2); have hp_ : Kd.R (Kd.int .i64) 3 w82 w.heap.size (fun k_ => some k_ ≠ (.slice (some ad152) x6_16.length co79 : Value).ownBlock ∧ some k_ ≠ (.slice Ao80 x7_16.length co80 : Value).ownBlock) (.slice (some ⟨go78, 0, none⟩) x5_1.length co78) y153 := (by rw [hw, Ny153.out]; exact HP81.1); clear HP81; have n0_ := Aside0.mk (hp_); have n1_ := Aside0.mk (Kd.R_after (v := (.slice (some ⟨go78, 0, none⟩) x5_1.length co78)) (v1 := (.slice (some ⟨go78, 0, none⟩) x5_1.length co78)) (ok := (fun k_ => some k_ ≠ (.slice Ao80 x7_16.length co80 : Value).ownBlock)) qx2_23 hg (.inl rfl)); have n2_ := Aside0.mk (Kd.R_after (v := (.slice (some ⟨go78, 0, none⟩) x5_1.length co78)) (v1 := (.slice (some ⟨go78, 0, none⟩) x5_1.length co78)) (ok := (fun k_ => some k_ ≠ (.slice (some ad152) x6_16.length co79 : Value).ownBlock)) qx2_24 hg (.inl rfl)); have n3_ := Aside0.mk ((by rw [hw]; exact below_set (HB.out) GB78.out : Below w.heap.size w w82)); clear HO_5; clear HO_6; clear HO_7; clear HB; have HO_5 := n0_; have HO_6 := n1_; have HO_7 := n2_; have HB := n3_; clear n0_ n1_ n2_ n3_; clear hg hw hp_))
     go_roundg kj16
     case measure => have := HK1.out; have := HJ9.out; have := HJ16.out; omega
     case rel => exact ⟨(y153), (x6_16), (x7_16), (x8_16), (x9_16), (wrap64 (x10_1 - 1)), qx2_9, qx2_9, qx2_9, H', ⟨by have := HK1.out; have := HJ9.out; have := HJ16.out; omega⟩, ⟨qx2_3⟩, ⟨qx2_23⟩, ⟨qx2_24⟩, ⟨qx2_0⟩⟩
    rw [if_pos c55] at H
    have c55b0 : decide ((x6_16.length : Int) < (x7_16.length : Int)) = true := decide_eq_true c55
    have c55b1 : decide (x6_16.length < x7_16.length) = true := decide_eq_true (Int.ofNat_lt.mp c55)
    clear c55
    by_cases c56 : 0 < (x7_16.length : Int)
    rotate_left
    ·rw [if_neg c56] at H
     exact absurd H (by simp)
    rw [if_pos c56] at H
    have c56b0 : decide (0 < (x7_16.length : Int)) = true := decide_eq_true c56
    have c56b1 : decide (0 < x7_16.length) = true := decide_eq_true (by omega)
    clear c56
    replace H := Option.bind_eq_some_iff.mp H
    obtain ⟨t144, A570, H⟩ := H
    replace H : (if x6_16.length < 17592186044416 then ((some (x6_16 ++ [rd x7_16 0] : List Int)).bind fun y147 => (if 0 ≤ (wrap64 ((y147.length : Int) - 1)) then (if (wrap64 ((y147.length : Int) - 1)) < (y147.length : Int) then (if 0 ≤ x10_1 then (if x10_1 < (x5_1.length : Int) then (segmentation_costs.l0 kj16 l0 (x5_1.set (x10_1 : Int).toNat (wrap64 ((wrap64 ((wrap64 ((wrap64 ((rd y147 (wrap64 ((y147.length : Int) - 1))) * (y147.length : Int))) - (wrap64 (x8_16 + (rd x7_16 0))))) + (wrap64 (x9_16 - (rd x7_16 0))))) - (wrap64 ((rd y147 (wrap64 ((y147.length : Int) - 1))) * (t144.length : Int)))))) y147 t144 (wrap64 (x8_16 + (rd x7_16 0))) (wrap64 (x9_16 - (rd x7_16 0))) (wrap64 (x10_1 - 1))) else (none)) else (none)) else (none)) else (none))) else (none)) = some r := H
    have A57 := Aside0.mk A570
    clear A570
    by_cases c58 : x6_16.length < 17592186044416
    rotate_left
    ·rw [if_neg c58] at H
     exact absurd H (by simp)
    rw [if_pos c58] at H
    have LMc58 := Aside0.mk c58
    clear c58
    obtain ⟨y147, hy147⟩ : ∃ y_ : List Int, y_ = (x6_16 ++ [rd x7_16 0]) := ⟨_, rfl⟩
    replace H : (if 0 ≤ (wrap64 ((y147.length : Int) - 1)) then (if (wrap64 ((y147.length : Int) - 1)) < (y147.length : Int) then (if 0 ≤ x10_1 then (if x10_1 < (x5_1.length : Int) then (segmentation_costs.l0 kj16 l0 (x5_1.set (x10_1 : Int).toNat (wrap64 ((wrap64 ((wrap64 ((wrap64 ((rd y147 (wrap64 ((y147.length : Int) - 1))) * (y147.length : Int))) - (wrap64 (x8_16 + (rd x7_16 0))))) + (wrap64 (x9_16 - (rd x7_16 0))))) - (wrap64 ((rd y147 (wrap64 ((y147.length : Int) - 1))) * (t144.length : Int)))))) y147 t144 (wrap64 (x8_16 + (rd x7_16 0))) (wrap64 (x9_16 - (rd x7_16 0))) (wrap64 (x10_1 - 1))) else (none)) else (none)) else (none)) else (none)) = some r := by first | (rw [hy147]; with_reducible exact H) | (have H2_ := (Option.bind_some _ _).symm.trans H; rw [hy147]; with_reducible exact H2_) | (have H2_ := (Option.bind_some _ _).symm.trans H; with_reducible exact H2_) | with_reducible exact H | (rw [hy147]; exact H) | exact H
    have Ny147 := Aside0.mk hy147
    clear hy147
    obtain ⟨ji59, hji59⟩ : ∃ j_ : Int, (wrap64 ((y147.length : Int) - 1)) = j_ := ⟨_, rfl⟩
    replace H : (if 0 ≤ (ji59) then (if (ji59) < (y147.length : Int) then (if 0 ≤ x10_1 then (if x10_1 < (x5_1.length : Int) then (segmentation_costs.l0 kj16 l0 (x5_1.set (x10_1 : Int).toNat (wrap64 ((wrap64 ((wrap64 ((wrap64 ((rd y147 (ji59)) * (y147.length : Int))) - (wrap64 (x8_16 + (rd x7_16 0))))) + (wrap64 (x9_16 - (rd x7_16 0))))) - (wrap64 ((rd y147 (ji59)) * (t144.length : Int)))))) y147 t144 (wrap64 (x8_16 + (rd x7_16 0))) (wrap64 (x9_16 - (rd x7_16 0))) (wrap64 (x10_1 - 1))) else (none)) else (none)) else (none)) else (none)) = some r := by first | (rw [hji59] at H; exact H) | (simp only [hji59] at H ⊢; exact H)
    (try rw [hji59] at A57)
    have hji59w : (IntKind.i64.wrap ((y147.length : Int) - 1)) = ji59 := (i64_w _).trans hji59
    by_cases c60 : 0 ≤ (ji59)
    rotate_left
    ·rw [if_neg c60] at H
     exact absurd H (by simp)
    rw [if_pos c60] at H
    have c60b0 : decide (0 ≤ (ji59)) = true := decide_eq_true c60
    clear c60
    by_cases c61 : (ji59) < (y147.length : Int)
    rotate_left
    ·rw [if_neg c61] at H
     exact absurd H (by simp)
    rw [if_pos c61] at H
    have c61b0 : decide ((ji59) < (y147.length : Int)) = true := decide_eq_true c61
    clear c61
    by_cases c62 : 0 ≤ x10_1
    rotate_left
    ·rw [if_neg c62] at H
     exact absurd H (by simp)
    rw [if_pos c62] at H
    have c62b0 : decide (0 ≤ x10_1) = true := decide_eq_true c62
    clear c62
    by_cases c63 : x10_1 < (x5_1.length : Int)
    rotate_left
    ·rw [if_neg c63] at H
     exact absurd H (by simp)
    rw [if_pos c63] at H
    have c63b0 : decide (x10_1 < (x5_1.length : Int)) = true := decide_eq_true c63
    clear c63
    obtain ⟨y151, hy151⟩ : ∃ y_ : List Int, y_ = (x5_1.set (x10_1 : Int).toNat (wrap64 ((wrap64 ((wrap64 ((wrap64 ((rd y147 (ji59)) * (y147.length : Int))) - (wrap64 (x8_16 + (rd x7_16 0))))) + (wrap64 (x9_16 - (rd x7_16 0))))) - (wrap64 ((rd y147 (ji59)) * (t144.length : Int)))))) := ⟨_, rfl⟩
    replace H : (segmentation_costs.l0 kj16 l0 y151 y147 t144 (wrap64 (x8_16 + (rd x7_16 0))) (wrap64 (x9_16 - (rd x7_16 0))) (wrap64 (x10_1 - 1))) = some r := by first | (rw [hy151]; with_reducible exact H) | (have H2_ := (Option.bind_some _ _).symm.trans H; rw [hy151]; with_reducible exact H2_) | (have H2_ := (Option.bind_some _ _).symm.trans H; with_reducible exact H2_) | with_reducible exact H | (rw [hy151]; exact H) | exact H
    have Ny151 := Aside0.mk hy151
    clear hy151
    have H' := Aside0.mk H
    clear H
    obtain ⟨Ao65, co65, eo65⟩ := Kd.R_slice HO_6.out
    subst eo65
    obtain ⟨Ao66, co66, eo66⟩ := Kd.R_slice HO_7.out
    subst eo66
    have p143 : 0 ≤ (0 : Int) := (by omega)
    have q143 : 0 < (x7_16.length : Int) := of_decide_eq_true qx2_5
    obtain ⟨ad143, e143, hx143_0⟩ := Kd.at_int (Kd.R_reads' HO_7.out).2.2 0 p143 q143
    cases e143
    have qi143 : (0 < x7_16.length) = True := eq_true (by omega)
    (try rw [show ((0 : Int)).toNat = 0 from rfl] at hx143_0)
    (try rw [Addr.add_zero'] at hx143_0)
    replace p143 := eq_true p143
    replace q143 := eq_true q143
    go_wp2_with (first | ((with_reducible refine gate_callee (f := 53) rfl ?_); refine goesL_ (some 108) rfl rfl Try.func53 (by kernel_rfl) rfl #[.slice (some ad143) x7_16.length co66, .int .i64 0, .int .i64 1] rfl qx2_1 ?_; (with_reducible refine (slices_Delete_int_int.calls (fun k_ => some k_ = (.slice (some ad143) x7_16.length co66 : Value).ownBlock) (.slice (some ad143) x7_16.length co66) x7_16 0 1 t144 w _ ?side1 ?side2 A57.out).mono ?_); (case side1 => exact qx2_0); (case side2 => exact Kd.R_tight rfl HO_7.out); rintro e w67 ⟨v145, rfl, ho0, hb, hkp⟩; refine ⟨_, rfl, ?_⟩; have n0_ := Aside0.mk (Kd.R_mono (ok' := fun k_ => some k_ ≠ (.slice Ao65 x6_16.length co65 : Value).ownBlock ∧ some k_ ≠ (v145 : Value).ownBlock) (Kd.R_keptB (HO_5.out) hkp (fun k_ hk_ hs_ => (hk_.2) hs_)) (fun k_ hk_ => ⟨hk_.1.1, fun e_ => Or.elim (ho0.1 k_ e_.symm) (fun hs_ => hk_.2.1 hs_) (fun hn_ => Nat.not_le.2 hk_.2.2 hn_)⟩)); have n1_ := Aside0.mk (Kd.R_mono (ok' := fun k_ => some k_ ≠ (v111 : Value).ownBlock ∧ some k_ ≠ (v145 : Value).ownBlock) (Kd.R_keptB (HO_6.out) hkp (fun k_ hk_ hs_ => (hk_.2) hs_)) (fun k_ hk_ => ⟨hk_.1.1, fun e_ => Or.elim (ho0.1 k_ e_.symm) (fun hs_ => hk_.2.1 hs_) (fun hn_ => Nat.not_le.2 hk_.2.2 hn_)⟩)); have n2_ := Aside0.mk (Kd.R_mono (ok' := fun k_ => some k_ ≠ (v111 : Value).ownBlock ∧ some k_ ≠ (.slice Ao65 x6_16.length co65 : Value).ownBlock) ho0 (fun k_ hk_ => ⟨Or.elim hk_ (fun hs_ => fun e_ => (((HO_5.out).1 k_ e_.symm).2) hs_) (fun hn_ => (Kd.fresh' (Kd.R_lt qx2_3) k_ hn_)), Or.elim hk_ (fun hs_ => fun e_ => (((HO_6.out).1 k_ e_.symm).2) hs_) (fun hn_ => (Kd.fresh' (Kd.R_lt qx2_7) k_ hn_))⟩)); have n3_ := Aside0.mk (hb); clear HO_5; clear HO_6; clear HB; clear HO_7; have HO_5 := n0_; have HO_6 := n1_; have HO146 := n2_; have HB := n3_; clear n0_ n1_ n2_ n3_; (try clear hb); (try clear hkp); (try clear ho0)) | ((with_reducible refine gate_builtin (b := .append) (xs := #[.tmp 112, .tmp 114]) rfl ?_); (try (refine gate_guard (by rfl) ?_; dsimp only)); at_builtin; refine Kd.R_append (Kd.int .i64) (w0 := w) w.heap.size rfl (.tmp 112) (.tmp 114) 24 3 (.int .i64 0) 8 rfl Try.underlying24 info3 rfl (by decide) (by omega) (.slice Ao65 x6_16.length co65) x6_16 (rd x7_16 0) [.int .i64 (rd x7_16 0)] (fun k_ => some k_ ≠ (v111 : Value).ownBlock ∧ some k_ ≠ (v145 : Value).ownBlock) (fun _ => False) rfl rfl ?aP (fun _ hk => hk.elim) ?aF ?aO ?aB ?aS ?aL ?_; (case aP => exact rfl); (case aB => exact qx2_0); (case aF => exact (fun k_ hk => ⟨Kd.fresh' (Kd.R_lt qx2_3) k_ hk, Kd.fresh' (Kd.R_lt (by (with_reducible repeat (first | apply Kd.R_alloc | apply Kd.R_drewN | apply Kd.R_drew)); exact HO146.out)) k_ hk⟩)); (case aO => exact qx2_7); (case aS => exact (below_size qx2_0)); (case aL => have := LMc58.out; omega); intro v148 w68 ho hb hg hat; rw [← Ny147.out] at ho; have n0_ := Aside0.mk (Kd.R_after (ok := (fun k_ => some k_ ≠ (v145 : Value).ownBlock)) qx2_15 hg hat); have n1_ := Aside0.mk (Kd.R_after (ok := (fun k_ => some k_ ≠ (v111 : Value).ownBlock)) (by (with_reducible repeat (first | apply Kd.R_alloc | apply Kd.R_drewN | apply Kd.R_drew)); exact HO146.out) hg hat); have n2_ := Aside0.mk (hb); have n3_ := Aside0.mk (ho); clear HO_5; clear HO146; clear HB; clear HO_6; have HO_5 := n0_; have HO146 := n1_; have HB := n2_; have HO149 := n3_; clear n0_ n1_ n2_ n3_; clear ho hb hg hat; obtain ⟨Ao69, co69, eo69⟩ := Kd.R_slice HO149.out; subst eo69; have p150 : 0 ≤ ((ji59) : Int) := of_decide_eq_true qx2_5; have q150 : (ji59) < (y147.length : Int) := of_decide_eq_true qx2_5; obtain ⟨ad150, e150, hx150_0⟩ := Kd.at_int (Kd.R_reads' HO149.out).2.2 (ji59) p150 q150; cases e150; replace p150 := eq_true p150; replace q150 := eq_true q150; obtain ⟨Ao70, co70, eo70⟩ := Kd.R_slice HO146.out; subst eo70; have p64 : 0 ≤ (x10_1 : Int) := of_decide_eq_true qx2_5; have q64 : (x10_1 : Int) < ((x5_1.length : Int) : Int) := of_decide_eq_true qx2_5; obtain ⟨go64, co64, eo64, gb64, gl64, cl64, HG64⟩ := Kd.R_form HO_5.out (by omega); (first | cases eo64 | (injection eo64 with ea_ en_ ec_; (first | subst ea_ | (injection ea_ with ea_; subst ea_)); subst ec_; clear en_)); have GB64 := Aside0.mk gb64; have GG64 := Aside0.mk HG64; clear gb64 gl64 HG64; obtain ⟨hx64_0, hf64_0⟩ := Kd.R_celln 0 HO_5.out (x10_1 : Int) p64 q64; replace p64 := eq_true p64; replace q64 := eq_true q64; obtain ⟨hy71_, hz71_⟩ := Kd.R_celln 0 HO_5.out (x10_1 : Int) (of_decide_eq_true qx2_5) (of_decide_eq_true qx2_5); have HP71 := Kd.R_putg HO_5.out (x10_1 : Int) (wrap64 ((wrap64 ((wrap64 ((wrap64 ((rd y147 (ji59)) * (y147.length : Int))) - (wrap64 (x8_16 + (rd x7_16 0))))) + (wrap64 (x9_16 - (rd x7_16 0))))) - (wrap64 ((rd y147 (ji59)) * (t144.length : Int)))))) | ((with_reducible refine gate_store (t := 3) (p := 140) rfl ?_); refine store_event (t := 3) (p := 140) (v := ?vo_w72) (w1 := (w68.setCell ⟨go64, (x10_1 : Int).toNat, none⟩ (.int .i64 (wrap64 ((wrap64 ((wrap64 ((wrap64 ((rd y147 (ji59)) * (y147.length : Int))) - (wrap64 (x8_16 + (rd x7_16 0))))) + (wrap64 (x9_16 - (rd x7_16 0))))) - (wrap64 ((rd y147 (ji59)) * (t144.length : Int)))))))) ?hg ?ho ?hn ?hr ?_; (case ho => rfl); (case hg => rfl); (case hn => rfl); (case hr => exact qx2_14); intro w72 hw; have hg : w68.grownBy w72 (some go64) := (by rw [hw]; exact HP71.2); have hp_ : Kd.R (Kd.int .i64) 3 w72 w.heap.size (fun k_ => some k_ ≠ (.slice Ao70 t144.length co70 : Value).ownBlock ∧ some k_ ≠ (.slice (some ad150) y147.length co69 : Value).ownBlock) (.slice (some ⟨go64, 0, none⟩) x5_1.length co64) y151 := (by rw [hw, Ny151.out]; exact HP71.1); clear HP71; have n0_ := Aside0.mk (hp_); have n1_ := Aside0.mk (Kd.R_after (v := (.slice (some ⟨go64, 0, none⟩) x5_1.length co64)) (v1 := (.slice (some ⟨go64, 0, none⟩) x5_1.length co64)) (ok := (fun k_ => some k_ ≠ (.slice (some ad150) y147.length co69 : Value).ownBlock)) qx2_21 hg (.inl rfl)); have n2_ := Aside0.mk (Kd.R_after (v := (.slice (some ⟨go64, 0, none⟩) x5_1.length co64)) (v1 := (.slice (some ⟨go64, 0, none⟩) x5_1.length co64)) (ok := (fun k_ => some k_ ≠ (.slice Ao70 t144.length co70 : Value).ownBlock)) qx2_22 hg (.inl rfl)); have n3_ := Aside0.mk ((by rw [hw]; exact below_set (HB.out) GB64.out : Below w.heap.size w w72)); clear HO_5; clear HO146; clear HO149; clear HB; have HO_5 := n0_; have HO146 := n1_; have HO149 := n2_; have HB := n3_; clear n0_ n1_ n2_ n3_; clear hg hw hp_))
    go_roundg kj16
    case measure => have := HK1.out; have := HJ9.out; have := HJ16.out; omega
    case rel => exact ⟨(y151), (y147), (t144), (wrap64 (x8_16 + (rd x7_16 0))), (wrap64 (x9_16 - (rd x7_16 0))), (wrap64 (x10_1 - 1)), qx2_9, qx2_9, qx2_9, H', ⟨by have := HK1.out; have := HJ9.out; have := HJ16.out; omega⟩, ⟨qx2_15⟩, ⟨qx2_22⟩, ⟨qx2_21⟩, ⟨qx2_0⟩⟩

/-! ### slices_Clone_int_int: function 48 -/
def slices_Clone_int_int.f (l0 : List Int) : Option (List Int) := if l0.length < 17592186044416 then some l0 else none
theorem slices_Clone_int_int.calls (A0 : Option Addr) (c0 : Nat) (l0 : List Int) (r : List Int) (w : World) (hr0 : Kd.C (Kd.int .i64) w A0 l0.length l0) (hc0 : l0.length ≤ c0) (h : slices_Clone_int_int.f l0 = some r) :
  Calls Try.prog 48 #[.slice A0 l0.length c0] w fun e w' => ∃ v0_ : Value, e = .returned (v0_) ∧ Kd.R (Kd.int .i64) 3 w' w.heap.size (fun _ => True) v0_ r ∧ Below w.heap.size w w' := by
 unfold slices_Clone_int_int.f at h
 split at h
 ·cases h
  exact Hand.clone_calls A0 c0 l0 w hr0 hc0 (by assumption)
 ·cases h

/-! ### segmentation_best_after: function 46 -/
def segmentation_best_after.f (a0_0 : Int) (l0_1 : List Int) (a1 : Int) (a2 : Int) : Option (Int × List Int) := if a1 > 0 then ((slices_Clone_int_int.f l0_1).bind fun t157 => (if t157.length < 17592186044416 then (some (wrap64 (a0_0 + a2), (t157 ++ [a1]))) else (none))) else (some (wrap64 (a0_0 + a2), l0_1))
set_option maxHeartbeats 8000000 in
set_option maxRecDepth 100000 in
theorem segmentation_best_after.calls (a0_0 : Int) (P0_1_ : Nat → Prop) (A0_1 : Option Addr) (c0_1 : Nat) (l0_1 : List Int) (a1 : Int) (a2 : Int) (r1 : Int) (r2 : List Int) (w : World) (hs0_1 : Kd.V (Kd.int .i64) 3 w w.heap.size (fun k_ => P0_1_ k_) (.slice A0_1 l0_1.length c0_1) l0_1) (h : segmentation_best_after.f a0_0 l0_1 a1 a2 = some (r1, r2)) :
  Calls Try.prog 46 #[.agg #[.int .i64 a0_0, .slice A0_1 l0_1.length c0_1], .int .i64 a1, .int .i64 a2] w fun e w' => ∃ v1_ : Value, e = .returned (.agg #[.int .i64 r1, v1_]) ∧ Kd.V (Kd.int .i64) 3 w' w.heap.size (fun k_ => (P0_1_ k_ ∨ w.heap.size ≤ k_)) v1_ r2 ∧ Below w.heap.size w w' := by
 have hu74 := Try.underlying74
 have HO0_1 := Aside0.mk (show Kd.V (Kd.int .i64) 3 w w.heap.size (fun k_ => (P0_1_ k_ ∨ w.heap.size ≤ k_)) (.slice A0_1 l0_1.length c0_1) l0_1 from Kd.V_mono hs0_1 (fun k_ hk => .inl hk))
 have HB := Aside0.mk (Below.refl w.heap.size w)
 have H : (if a1 > 0 then ((slices_Clone_int_int.f l0_1).bind fun t157 => (if t157.length < 17592186044416 then (some (wrap64 (a0_0 + a2), (t157 ++ [a1]))) else (none))) else (some (wrap64 (a0_0 + a2), l0_1))) = some (r1, r2) := h
 clear h
 by_cases c4 : a1 > 0
 rotate_left
 ·rw [if_neg c4] at H
  have c4b0 : decide (0 < a1) = false := decide_eq_false c4
  clear c4
  simp only [Option.some.injEq, Prod.mk.injEq] at H
  obtain ⟨rfl, rfl⟩ := H
  go_enter Try.func46, Try.ntmps46
  go_wp2_with (first | ((with_reducible refine gate_dst (N := 3) rfl ?_); refine box_event ?hg (N := 3) ?hd (cs := #[.int .i64 a0_0, .slice A0_1 l0_1.length c0_1]) (t := 74) ?hr ?_; (case hd => rfl); (case hg => rfl); (case hr => exact qx2_14); intro gb154 hg w21 hbox hb; have n0_ := Aside0.mk (Kd.V_below (Kd.V_elderB qx2_12 gb154 (Nat.le_of_eq hg.symm)) hb); have n1_ := Aside0.mk (below_step qx2_0 hb); have n2_ := Aside0.mk (hbox); have n3_ := Aside0.mk ((by rw [hg]; exact (below_size qx2_0) : w.heap.size ≤ gb154)); have n4_ := Aside0.mk ((by rw [hg]; exact (below_size qx2_0) : w.heap.size ≤ gb154)); clear HO0_1; clear HB; have HO0_1 := n0_; have HB := n1_; have BK154 := n2_; have GW154 := n3_; have GE154 := n4_; clear n0_ n1_ n2_ n3_ n4_; clear hb hbox hg) | ((with_reducible refine gate_dst (N := 6) rfl ?_); refine box_event ?hg (N := 6) ?hd (cs := #[.int .i64 0, .slice none 0 0]) (t := 74) ?hr ?_; (case hd => rfl); (case hg => rfl); (case hr => exact qx2_14); intro gb155 hg w22 hbox hb; have n0_ := Aside0.mk (Kd.V_below (Kd.V_elderB qx2_12 gb155 (Nat.le_of_eq hg.symm)) hb); have n1_ := Aside0.mk (blk_below (g := gb154) (o := .cells #[.int .i64 a0_0, .slice A0_1 l0_1.length c0_1] 74 (0, 0)) qx2_4 hb); have n2_ := Aside0.mk (below_step qx2_10 hb); have n3_ := Aside0.mk (hbox); have n4_ := Aside0.mk ((by rw [hg]; exact (below_size qx2_10) : w.heap.size ≤ gb155)); have n5_ := Aside0.mk ((by rw [hg]; exact (below_size qx2_10) : w.heap.size ≤ gb155)); have n6_ := Aside0.mk ((by rw [hg]; exact Nat.ne_of_lt (blk_lt (g := gb154) (o := .cells #[.int .i64 a0_0, .slice A0_1 l0_1.length c0_1] 74 (0, 0)) qx2_4) : gb154 ≠ gb155)); have n7_ := Aside0.mk ((by rw [hg]; exact Nat.ne_of_gt (blk_lt (g := gb154) (o := .cells #[.int .i64 a0_0, .slice A0_1 l0_1.length c0_1] 74 (0, 0)) qx2_4) : gb155 ≠ gb154)); clear HO0_1; clear BK154; clear HB; have HO0_1 := n0_; have BK154 := n1_; have HB := n2_; have BK155 := n3_; have GW155 := n4_; have GE155 := n5_; have NB154_155 := n6_; have NB155_154 := n7_; clear n0_ n1_ n2_ n3_ n4_ n5_ n6_ n7_; clear hb hbox hg; have hnb23 := NB154_155.out; have hnc23 := NB155_154.out; have hcz24_0 : w22.cell? ⟨gb154, 0, none⟩ = some (.int .i64 a0_0) := (blk_cell BK154.out 0).trans rfl; have hcz24_1 : w22.cell? ⟨gb154, 1, none⟩ = some (.slice A0_1 l0_1.length c0_1) := (blk_cell BK154.out 1).trans rfl; have hfz24_0 := blk_frozen BK154.out 0; have hfz24_1 := blk_frozen BK154.out 1) | ((with_reducible refine gate_dst (N := 7) rfl ?_); refine box_event ?hg (N := 7) ?hd (cs := #[.int .i64 0, .slice none 0 0]) (t := 74) ?hr ?_; (case hd => rfl); (case hg => rfl); (case hr => exact qx2_14); intro gb156 hg w25 hbox hb; have n0_ := Aside0.mk (Kd.V_below (Kd.V_elderB qx2_12 gb156 (Nat.le_of_eq hg.symm)) hb); have n1_ := Aside0.mk (blk_below (g := gb154) (o := .cells #[.int .i64 a0_0, .slice A0_1 l0_1.length c0_1] 74 (0, 0)) qx2_4 hb); have n2_ := Aside0.mk (blk_below (g := gb155) (o := .cells #[.int .i64 0, .slice none 0 0] 74 (0, 0)) qx2_11 hb); have n3_ := Aside0.mk (below_step qx2_6 hb); have n4_ := Aside0.mk (hbox); have n5_ := Aside0.mk ((by rw [hg]; exact (below_size qx2_6) : w.heap.size ≤ gb156)); have n6_ := Aside0.mk ((by rw [hg]; exact (below_size qx2_6) : w.heap.size ≤ gb156)); have n7_ := Aside0.mk ((by rw [hg]; exact Nat.ne_of_lt (blk_lt (g := gb154) (o := .cells #[.int .i64 a0_0, .slice A0_1 l0_1.length c0_1] 74 (0, 0)) qx2_4) : gb154 ≠ gb156)); have n8_ := Aside0.mk ((by rw [hg]; exact Nat.ne_of_gt (blk_lt (g := gb154) (o := .cells #[.int .i64 a0_0, .slice A0_1 l0_1.length c0_1] 74 (0, 0)) qx2_4) : gb156 ≠ gb154)); have n9_ := Aside0.mk ((by rw [hg]; exact Nat.ne_of_lt (blk_lt (g := gb155) (o := .cells #[.int .i64 0, .slice none 0 0] 74 (0, 0)) qx2_11) : gb155 ≠ gb156)); have n10_ := Aside0.mk ((by rw [hg]; exact Nat.ne_of_gt (blk_lt (g := gb155) (o := .cells #[.int .i64 0, .slice none 0 0] 74 (0, 0)) qx2_11) : gb156 ≠ gb155)); clear HO0_1; clear BK154; clear BK155; clear HB; have HO0_1 := n0_; have BK154 := n1_; have BK155 := n2_; have HB := n3_; have BK156 := n4_; have GW156 := n5_; have GE156 := n6_; have NB154_156 := n7_; have NB156_154 := n8_; have NB155_156 := n9_; have NB156_155 := n10_; clear n0_ n1_ n2_ n3_ n4_ n5_ n6_ n7_ n8_ n9_ n10_; clear hb hbox hg; have hnb26 := NB156_154.out; have hnc26 := NB154_156.out; have hnb27 := NB156_155.out; have hnc27 := NB155_156.out; have hcz28_0 : w25.cell? ⟨gb156, 0, none⟩ = some (.int .i64 0) := (blk_cell BK156.out 0).trans rfl; have hcz28_1 : w25.cell? ⟨gb156, 1, none⟩ = some (.slice none 0 0) := (blk_cell BK156.out 1).trans rfl; have hfz28_0 := blk_frozen BK156.out 0; have hfz28_1 := blk_frozen BK156.out 1; have hcz29_0 : w25.cell? ⟨gb155, 0, none⟩ = some (.int .i64 0) := (blk_cell BK155.out 0).trans rfl; have hcz29_1 : w25.cell? ⟨gb155, 1, none⟩ = some (.slice none 0 0) := (blk_cell BK155.out 1).trans rfl; have hfz29_0 := blk_frozen BK155.out 0; have hfz29_1 := blk_frozen BK155.out 1))
  refine bodyPost_ret (results_cell_row rfl _ _ gb155 74 #[.int .i64 (wrap64 (a0_0 + a2)), .slice A0_1 l0_1.length c0_1] (0, 0) _ rfl (by (with_reducible repeat (first | refine blk_drewN ?_ _ | refine blk_drew ?_ | refine blk_alloc ?_ _)); refine blk_put (cs := #[.int .i64 (wrap64 (a0_0 + a2)), .slice none 0 0]) ?_ 1 _ rfl; (with_reducible repeat (first | refine blk_drewN ?_ _ | refine blk_drew ?_ | refine blk_alloc ?_ _)); refine blk_put (cs := #[.int .i64 0, .slice none 0 0]) ?_ 0 _ rfl; (with_reducible repeat (first | refine blk_drewN ?_ _ | refine blk_drew ?_ | refine blk_alloc ?_ _)); refine blk_far ?_ NB155_156.out _; (with_reducible repeat (first | refine blk_drewN ?_ _ | refine blk_drew ?_ | refine blk_alloc ?_ _)); refine blk_far ?_ NB155_156.out _; (with_reducible repeat (first | refine blk_drewN ?_ _ | refine blk_drew ?_ | refine blk_alloc ?_ _)); exact BK155.out) Try.underlying74 rfl (by kernel_rfl)) rfl ?_
  exact ⟨_, qx2_18, by (with_reducible repeat (first | apply Kd.V_alloc | apply Kd.V_drewN | apply Kd.V_drew)); exact Kd.V_mono (Kd.V_far (p := ⟨gb155, 1, none⟩) (Kd.V_far (p := ⟨gb155, 0, none⟩) (Kd.V_far (p := ⟨gb156, 1, none⟩) (Kd.V_far (p := ⟨gb156, 0, none⟩) (Kd.V_mono (Kd.V_mono HO0_1.out (fun k_ hk => (⟨hk, hk.2⟩ : _ ∧ k_ ≠ gb156))) (fun k_ hk => (⟨hk, hk.1.1.2⟩ : _ ∧ k_ ≠ gb155))) (fun _ hk => hk.1.2) (.int .i64 (wrap64 (a0_0 + a2)))) (fun _ hk => hk.1.2) (.slice A0_1 l0_1.length c0_1)) (fun _ hk => hk.2) (.int .i64 (wrap64 (a0_0 + a2)))) (fun _ hk => hk.2) (.slice A0_1 l0_1.length c0_1)) (fun _ hk => hk.1.1.1.1.1), qx2_2⟩
 rw [if_pos c4] at H
 have c4b0 : decide (0 < a1) = true := decide_eq_true c4
 clear c4
 replace H := Option.bind_eq_some_iff.mp H
 obtain ⟨t157, A50, H⟩ := H
 replace H : (if t157.length < 17592186044416 then (some (wrap64 (a0_0 + a2), (t157 ++ [a1]))) else (none)) = some (r1, r2) := H
 have A5 := Aside0.mk A50
 clear A50
 by_cases c6 : t157.length < 17592186044416
 rotate_left
 ·rw [if_neg c6] at H
  exact absurd H (by simp)
 rw [if_pos c6] at H
 have LMc6 := Aside0.mk c6
 clear c6
 obtain ⟨y160, hy160⟩ : ∃ y_ : List Int, y_ = (t157 ++ [a1]) := ⟨_, rfl⟩
 replace H : (some (wrap64 (a0_0 + a2), y160)) = some (r1, r2) := by first | (rw [hy160]; with_reducible exact H) | (have H2_ := (Option.bind_some _ _).symm.trans H; rw [hy160]; with_reducible exact H2_) | (have H2_ := (Option.bind_some _ _).symm.trans H; with_reducible exact H2_) | with_reducible exact H | (rw [hy160]; exact H) | exact H
 have Ny160 := Aside0.mk hy160
 clear hy160
 simp only [Option.some.injEq, Prod.mk.injEq] at H
 obtain ⟨rfl, rfl⟩ := H
 go_enter Try.func46, Try.ntmps46
 go_wp2_with (first | ((with_reducible refine gate_dst (N := 3) rfl ?_); refine box_event ?hg (N := 3) ?hd (cs := #[.int .i64 a0_0, .slice A0_1 l0_1.length c0_1]) (t := 74) ?hr ?_; (case hd => rfl); (case hg => rfl); (case hr => exact qx2_14); intro gb154 hg w7 hbox hb; have n0_ := Aside0.mk (Kd.V_below (Kd.V_elderB qx2_12 gb154 (Nat.le_of_eq hg.symm)) hb); have n1_ := Aside0.mk (below_step qx2_0 hb); have n2_ := Aside0.mk (hbox); have n3_ := Aside0.mk ((by rw [hg]; exact (below_size qx2_0) : w.heap.size ≤ gb154)); have n4_ := Aside0.mk ((by rw [hg]; exact (below_size qx2_0) : w.heap.size ≤ gb154)); clear HO0_1; clear HB; have HO0_1 := n0_; have HB := n1_; have BK154 := n2_; have GW154 := n3_; have GE154 := n4_; clear n0_ n1_ n2_ n3_ n4_; clear hb hbox hg) | ((with_reducible refine gate_dst (N := 6) rfl ?_); refine box_event ?hg (N := 6) ?hd (cs := #[.int .i64 0, .slice none 0 0]) (t := 74) ?hr ?_; (case hd => rfl); (case hg => rfl); (case hr => exact qx2_14); intro gb155 hg w8 hbox hb; have n0_ := Aside0.mk (Kd.V_below (Kd.V_elderB qx2_12 gb155 (Nat.le_of_eq hg.symm)) hb); have n1_ := Aside0.mk (blk_below (g := gb154) (o := .cells #[.int .i64 a0_0, .slice A0_1 l0_1.length c0_1] 74 (0, 0)) qx2_4 hb); have n2_ := Aside0.mk (below_step qx2_10 hb); have n3_ := Aside0.mk (hbox); have n4_ := Aside0.mk ((by rw [hg]; exact (below_size qx2_10) : w.heap.size ≤ gb155)); have n5_ := Aside0.mk ((by rw [hg]; exact (below_size qx2_10) : w.heap.size ≤ gb155)); have n6_ := Aside0.mk ((by rw [hg]; exact Nat.ne_of_lt (blk_lt (g := gb154) (o := .cells #[.int .i64 a0_0, .slice A0_1 l0_1.length c0_1] 74 (0, 0)) qx2_4) : gb154 ≠ gb155)); have n7_ := Aside0.mk ((by rw [hg]; exact Nat.ne_of_gt (blk_lt (g := gb154) (o := .cells #[.int .i64 a0_0, .slice A0_1 l0_1.length c0_1] 74 (0, 0)) qx2_4) : gb155 ≠ gb154)); clear HO0_1; clear BK154; clear HB; have HO0_1 := n0_; have BK154 := n1_; have HB := n2_; have BK155 := n3_; have GW155 := n4_; have GE155 := n5_; have NB154_155 := n6_; have NB155_154 := n7_; clear n0_ n1_ n2_ n3_ n4_ n5_ n6_ n7_; clear hb hbox hg; have hnb9 := NB154_155.out; have hnc9 := NB155_154.out; have hcz10_0 : w8.cell? ⟨gb154, 0, none⟩ = some (.int .i64 a0_0) := (blk_cell BK154.out 0).trans rfl; have hcz10_1 : w8.cell? ⟨gb154, 1, none⟩ = some (.slice A0_1 l0_1.length c0_1) := (blk_cell BK154.out 1).trans rfl; have hfz10_0 := blk_frozen BK154.out 0; have hfz10_1 := blk_frozen BK154.out 1) | ((with_reducible refine gate_dst (N := 7) rfl ?_); refine box_event ?hg (N := 7) ?hd (cs := #[.int .i64 0, .slice none 0 0]) (t := 74) ?hr ?_; (case hd => rfl); (case hg => rfl); (case hr => exact qx2_14); intro gb156 hg w11 hbox hb; have n0_ := Aside0.mk (Kd.V_below (Kd.V_elderB qx2_12 gb156 (Nat.le_of_eq hg.symm)) hb); have n1_ := Aside0.mk (blk_below (g := gb154) (o := .cells #[.int .i64 a0_0, .slice A0_1 l0_1.length c0_1] 74 (0, 0)) qx2_4 hb); have n2_ := Aside0.mk (blk_below (g := gb155) (o := .cells #[.int .i64 0, .slice none 0 0] 74 (0, 0)) qx2_11 hb); have n3_ := Aside0.mk (below_step qx2_6 hb); have n4_ := Aside0.mk (hbox); have n5_ := Aside0.mk ((by rw [hg]; exact (below_size qx2_6) : w.heap.size ≤ gb156)); have n6_ := Aside0.mk ((by rw [hg]; exact (below_size qx2_6) : w.heap.size ≤ gb156)); have n7_ := Aside0.mk ((by rw [hg]; exact Nat.ne_of_lt (blk_lt (g := gb154) (o := .cells #[.int .i64 a0_0, .slice A0_1 l0_1.length c0_1] 74 (0, 0)) qx2_4) : gb154 ≠ gb156)); have n8_ := Aside0.mk ((by rw [hg]; exact Nat.ne_of_gt (blk_lt (g := gb154) (o := .cells #[.int .i64 a0_0, .slice A0_1 l0_1.length c0_1] 74 (0, 0)) qx2_4) : gb156 ≠ gb154)); have n9_ := Aside0.mk ((by rw [hg]; exact Nat.ne_of_lt (blk_lt (g := gb155) (o := .cells #[.int .i64 0, .slice none 0 0] 74 (0, 0)) qx2_11) : gb155 ≠ gb156)); have n10_ := Aside0.mk ((by rw [hg]; exact Nat.ne_of_gt (blk_lt (g := gb155) (o := .cells #[.int .i64 0, .slice none 0 0] 74 (0, 0)) qx2_11) : gb156 ≠ gb155)); clear HO0_1; clear BK154; clear BK155; clear HB; have HO0_1 := n0_; have BK154 := n1_; have BK155 := n2_; have HB := n3_; have BK156 := n4_; have GW156 := n5_; have GE156 := n6_; have NB154_156 := n7_; have NB156_154 := n8_; have NB155_156 := n9_; have NB156_155 := n10_; clear n0_ n1_ n2_ n3_ n4_ n5_ n6_ n7_ n8_ n9_ n10_; clear hb hbox hg; have hnb12 := NB156_154.out; have hnc12 := NB154_156.out; have hnb13 := NB156_155.out; have hnc13 := NB155_156.out; have hcz14_0 : w11.cell? ⟨gb156, 0, none⟩ = some (.int .i64 0) := (blk_cell BK156.out 0).trans rfl; have hcz14_1 : w11.cell? ⟨gb156, 1, none⟩ = some (.slice none 0 0) := (blk_cell BK156.out 1).trans rfl; have hfz14_0 := blk_frozen BK156.out 0; have hfz14_1 := blk_frozen BK156.out 1; have hcz15_0 : w11.cell? ⟨gb154, 0, none⟩ = some (.int .i64 a0_0) := (blk_cell BK154.out 0).trans rfl; have hcz15_1 : w11.cell? ⟨gb154, 1, none⟩ = some (.slice A0_1 l0_1.length c0_1) := (blk_cell BK154.out 1).trans rfl; have hfz15_0 := blk_frozen BK154.out 0; have hfz15_1 := blk_frozen BK154.out 1) | ((with_reducible refine gate_callee (f := 48) rfl ?_); refine goesL_ (some 19) rfl rfl Try.func48 (by kernel_rfl) rfl #[.slice A0_1 l0_1.length c0_1] rfl qx2_1 ?_; (with_reducible refine (slices_Clone_int_int.calls _ _ l0_1 t157 _ ?side1 ?side2 A5.out).mono ?_); (case side1 => refine (Kd.V_reads' (e := 3) (base := w.heap.size) (ok := fun k_ => ((((P0_1_ k_ ∨ w.heap.size ≤ k_) ∧ k_ ≠ gb154) ∧ k_ ≠ gb155) ∧ k_ ≠ gb156)) (n := l0_1.length) (c := c0_1) ?_).2.2; exact qx2_13); (case side2 => exact (Kd.V_reads' HO0_1.out).2.1); rintro e w16 ⟨v158, rfl, ho0, hb⟩; refine ⟨_, rfl, ?_⟩; have n0_ := Aside0.mk (Kd.V_elder' qx2_13 (Kd.R_base ho0) hb); have n1_ := Aside0.mk (Kd.R_lower (Kd.R_newM (M := fun k_ => (w.heap.size ≤ k_)) ho0 (below_size qx2_2) (fun k_ h_ => h_)) (below_size qx2_2)); have n2_ := Aside0.mk (blk_below (g := gb154) (o := .cells #[.int .i64 a0_0, .slice A0_1 l0_1.length c0_1] 74 (0, 0)) (by (with_reducible repeat (first | refine blk_drewN ?_ _ | refine blk_drew ?_ | refine blk_alloc ?_ _)); refine blk_far ?_ NB154_156.out _; (with_reducible repeat (first | refine blk_drewN ?_ _ | refine blk_drew ?_ | refine blk_alloc ?_ _)); refine blk_far ?_ NB154_156.out _; (with_reducible repeat (first | refine blk_drewN ?_ _ | refine blk_drew ?_ | refine blk_alloc ?_ _)); exact BK154.out) hb); have n3_ := Aside0.mk (blk_below (g := gb155) (o := .cells #[.int .i64 0, .slice none 0 0] 74 (0, 0)) (by (with_reducible repeat (first | refine blk_drewN ?_ _ | refine blk_drew ?_ | refine blk_alloc ?_ _)); refine blk_far ?_ NB155_156.out _; (with_reducible repeat (first | refine blk_drewN ?_ _ | refine blk_drew ?_ | refine blk_alloc ?_ _)); refine blk_far ?_ NB155_156.out _; (with_reducible repeat (first | refine blk_drewN ?_ _ | refine blk_drew ?_ | refine blk_alloc ?_ _)); exact BK155.out) hb); have n4_ := Aside0.mk (blk_below (g := gb156) (o := .cells #[.int .i64 (wrap64 (a0_0 + a2)), .slice A0_1 l0_1.length c0_1] 74 (0, 0)) (by (with_reducible repeat (first | refine blk_drewN ?_ _ | refine blk_drew ?_ | refine blk_alloc ?_ _)); refine blk_put (cs := #[.int .i64 (wrap64 (a0_0 + a2)), .slice none 0 0]) ?_ 1 _ rfl; (with_reducible repeat (first | refine blk_drewN ?_ _ | refine blk_drew ?_ | refine blk_alloc ?_ _)); refine blk_put (cs := #[.int .i64 0, .slice none 0 0]) ?_ 0 _ rfl; (with_reducible repeat (first | refine blk_drewN ?_ _ | refine blk_drew ?_ | refine blk_alloc ?_ _)); exact BK156.out) hb); have n5_ := Aside0.mk (below_step qx2_2 hb); clear HO0_1; clear BK154; clear BK155; clear BK156; clear HB; have HO0_1 := n0_; have HO159 := n1_; have BK154 := n2_; have BK155 := n3_; have BK156 := n4_; have HB := n5_; clear n0_ n1_ n2_ n3_ n4_ n5_; (try clear hb); (try clear hb2); (try clear hk); (try clear hi); (try clear ho0)) | ((with_reducible refine gate_builtin (b := .append) (xs := #[.tmp 19, .tmp 21]) rfl ?_); at_builtin; refine Kd.R_append (Kd.int .i64) (w0 := w) w.heap.size rfl (.tmp 19) (.tmp 21) 24 3 (.int .i64 0) 8 rfl Try.underlying24 info3 rfl (by decide) (by omega) v158 t157 a1 [.int .i64 a1] (fun k_ => (w.heap.size ≤ k_)) (fun _ => False) rfl rfl ?aP (fun _ hk => hk.elim) ?aF ?aO ?aB ?aS ?aL ?_; (case aP => exact rfl); (case aB => exact qx2_2); (case aF => exact (fun k_ hk => (Nat.le_trans (below_size qx2_2) hk))); (case aO => exact (by (with_reducible repeat (first | apply Kd.R_alloc | apply Kd.R_drewN | apply Kd.R_drew)); exact Kd.R_mono HO159.out (fun _ hk => hk.1))); (case aS => exact (below_size qx2_2)); (case aL => have := LMc6.out; omega); intro v161 w17 ho hb hg hat; rw [← Ny160.out] at ho; have n0_ := Aside0.mk (Kd.V_afterv (ok := (fun k_ => (P0_1_ k_ ∨ w.heap.size ≤ k_) ∧ k_ ≠ gb154 ∧ k_ ≠ gb155 ∧ k_ ≠ gb156)) (by (with_reducible repeat (first | apply Kd.V_alloc | apply Kd.V_drewN | apply Kd.V_drew)); exact Kd.V_mono HO0_1.out (fun _ hk => ⟨⟨hk.1.1.1.1, ⟨hk.1.1.1.2, ⟨hk.1.1.2, hk.1.2⟩⟩⟩, hk.2⟩)) hg hat); have n1_ := Aside0.mk (blk_grown (g := gb154) (o := .cells #[.int .i64 a0_0, .slice A0_1 l0_1.length c0_1] 74 (0, 0)) qx2_4 hg (Kd.R_ne HO159.out BK154.out (by decide))); have n2_ := Aside0.mk (blk_grown (g := gb155) (o := .cells #[.int .i64 0, .slice none 0 0] 74 (0, 0)) qx2_11 hg (Kd.R_ne HO159.out BK155.out (by decide))); have n3_ := Aside0.mk (blk_grown (g := gb156) (o := .cells #[.int .i64 (wrap64 (a0_0 + a2)), .slice A0_1 l0_1.length c0_1] 74 (0, 0)) (by (with_reducible repeat (first | refine blk_drewN ?_ _ | refine blk_drew ?_ | refine blk_alloc ?_ _)); exact BK156.out) hg (Kd.R_ne HO159.out BK156.out (by decide))); have n4_ := Aside0.mk (hb); have n5_ := Aside0.mk (ho); clear HO0_1; clear BK154; clear BK155; clear BK156; clear HB; clear HO159; have HO0_1 := n0_; have BK154 := n1_; have BK155 := n2_; have BK156 := n3_; have HB := n4_; have HO162 := n5_; clear n0_ n1_ n2_ n3_ n4_ n5_; clear ho hb hg hat; obtain ⟨Ao18, co18, eo18⟩ := Kd.R_slice HO162.out; subst eo18; have hcz19_0 : w17.cell? ⟨gb156, 0, none⟩ = some (.int .i64 (wrap64 (a0_0 + a2))) := (blk_cell BK156.out 0).trans rfl; have hcz19_1 : w17.cell? ⟨gb156, 1, none⟩ = some (.slice A0_1 l0_1.length c0_1) := (blk_cell BK156.out 1).trans rfl; have hfz19_0 := blk_frozen BK156.out 0; have hfz19_1 := blk_frozen BK156.out 1; have hcz20_0 : w17.cell? ⟨gb155, 0, none⟩ = some (.int .i64 0) := (blk_cell BK155.out 0).trans rfl; have hcz20_1 : w17.cell? ⟨gb155, 1, none⟩ = some (.slice none 0 0) := (blk_cell BK155.out 1).trans rfl; have hfz20_0 := blk_frozen BK155.out 0; have hfz20_1 := blk_frozen BK155.out 1))
 refine bodyPost_ret (results_cell_row rfl _ _ gb155 74 #[.int .i64 (wrap64 (a0_0 + a2)), .slice Ao18 y160.length co18] (0, 0) _ rfl (by (with_reducible repeat (first | refine blk_drewN ?_ _ | refine blk_drew ?_ | refine blk_alloc ?_ _)); refine blk_put (cs := #[.int .i64 (wrap64 (a0_0 + a2)), .slice none 0 0]) ?_ 1 _ rfl; (with_reducible repeat (first | refine blk_drewN ?_ _ | refine blk_drew ?_ | refine blk_alloc ?_ _)); refine blk_put (cs := #[.int .i64 0, .slice none 0 0]) ?_ 0 _ rfl; (with_reducible repeat (first | refine blk_drewN ?_ _ | refine blk_drew ?_ | refine blk_alloc ?_ _)); refine blk_far ?_ NB155_156.out _; (with_reducible repeat (first | refine blk_drewN ?_ _ | refine blk_drew ?_ | refine blk_alloc ?_ _)); exact BK155.out) Try.underlying74 rfl (by kernel_rfl)) rfl ?_
 exact ⟨_, qx2_18, Kd.V_mono (Kd.R_V (by (with_reducible repeat (first | apply Kd.R_alloc | apply Kd.R_drewN | apply Kd.R_drew)); exact Kd.R_mono (Kd.R_far (p := ⟨gb155, 1, none⟩) (Kd.R_far (p := ⟨gb155, 0, none⟩) (Kd.R_far (p := ⟨gb156, 1, none⟩) (Kd.R_types (Kd.R_types HO162.out BK156.out (by decide)) BK155.out (by decide)) (fun _ hk => hk.1.2) (.slice Ao18 y160.length co18)) (fun _ hk => hk.2) (.int .i64 (wrap64 (a0_0 + a2)))) (fun _ hk => hk.2) (.slice Ao18 y160.length co18)) (fun _ hk => hk.1.1))) (fun k_ hk => by first | exact ⟨(.inr (hk.1)), hk.2⟩ | exact (.inr (hk))), qx2_2⟩

/-! ### cmp_Compare_int: function 63 -/
def cmp_Compare_int.f (a0 : Int) (a1 : Int) : Option (Int) := (cmp_isNaN_int.f a0).bind fun t163 => ((cmp_isNaN_int.f a1).bind fun t164 => (if t163 = true then (if t164 = true then (some 0) else (some (-1))) else (if t164 = true then (some 1) else (if a0 < a1 then (some (-1)) else (if a0 > a1 then (some 1) else (some 0))))))
set_option maxHeartbeats 8000000 in
set_option maxRecDepth 100000 in
theorem cmp_Compare_int.calls (a0 : Int) (a1 : Int) (r : Int) (w : World) (h : cmp_Compare_int.f a0 a1 = some r) :
  Calls Try.prog 63 #[.int .i64 a0, .int .i64 a1] w fun e w' => e = .returned (.int .i64 r) ∧ Drawn0 w w' := by
 have H : ((cmp_isNaN_int.f a0).bind fun t163 => ((cmp_isNaN_int.f a1).bind fun t164 => (if t163 = true then (if t164 = true then (some 0) else (some (-1))) else (if t164 = true then (some 1) else (if a0 < a1 then (some (-1)) else (if a0 > a1 then (some 1) else (some 0))))))) = some r := h
 clear h
 replace H := Option.bind_eq_some_iff.mp H
 obtain ⟨t163, A30, H⟩ := H
 replace H : ((cmp_isNaN_int.f a1).bind fun t164 => (if t163 = true then (if t164 = true then (some 0) else (some (-1))) else (if t164 = true then (some 1) else (if a0 < a1 then (some (-1)) else (if a0 > a1 then (some 1) else (some 0)))))) = some r := H
 have A3 := Aside0.mk A30
 clear A30
 replace H := Option.bind_eq_some_iff.mp H
 obtain ⟨t164, A40, H⟩ := H
 replace H : (if t163 = true then (if t164 = true then (some 0) else (some (-1))) else (if t164 = true then (some 1) else (if a0 < a1 then (some (-1)) else (if a0 > a1 then (some 1) else (some 0))))) = some r := H
 have A4 := Aside0.mk A40
 clear A40
 by_cases c5 : t163 = true
 ·subst c5
  have H1 : (if t164 = true then (some 0) else (some (-1))) = some r := by rw [if_pos rfl] at H; exact H
  clear H
  have H := H1
  clear H1
  by_cases c6 : t164 = true
  ·subst c6
   have H1 : (some 0) = some r := by rw [if_pos rfl] at H; exact H
   clear H
   have H := H1
   clear H1
   obtain rfl := Option.some.inj H
   go_enter Try.func63, Try.ntmps63
   go_wp2_with (first | ((with_reducible refine gate_callee (f := 64) rfl ?_); refine goesL_ (some 8) rfl rfl Try.func64 (by kernel_rfl) rfl #[.int .i64 a0] rfl qx2_1 ?_; (with_reducible refine (cmp_isNaN_int.calls a0 true _ A3.out).mono ?_); rintro e w' ⟨rfl, ⟨nd, rfl⟩⟩; refine ⟨_, rfl, ?_⟩) | ((with_reducible refine gate_callee (f := 64) rfl ?_); refine goesL_ (some 10) rfl rfl Try.func64 (by kernel_rfl) rfl #[.int .i64 a1] rfl qx2_1 ?_; (with_reducible refine (cmp_isNaN_int.calls a1 true _ A4.out).mono ?_); rintro e w' ⟨rfl, ⟨nd, rfl⟩⟩; refine ⟨_, rfl, ?_⟩))
   go_ret
   exact ⟨qx2_9, qx2_16⟩
  replace c6 := Bool.eq_false_iff.mpr c6
  subst c6
  have H1 : (some (-1)) = some r := by rw [if_neg (show ¬ (false = true) by decide)] at H; exact H
  clear H
  have H := H1
  clear H1
  obtain rfl := Option.some.inj H
  go_enter Try.func63, Try.ntmps63
  go_wp2_with (first | ((with_reducible refine gate_callee (f := 64) rfl ?_); refine goesL_ (some 8) rfl rfl Try.func64 (by kernel_rfl) rfl #[.int .i64 a0] rfl qx2_1 ?_; (with_reducible refine (cmp_isNaN_int.calls a0 true _ A3.out).mono ?_); rintro e w' ⟨rfl, ⟨nd, rfl⟩⟩; refine ⟨_, rfl, ?_⟩) | ((with_reducible refine gate_callee (f := 64) rfl ?_); refine goesL_ (some 10) rfl rfl Try.func64 (by kernel_rfl) rfl #[.int .i64 a1] rfl qx2_1 ?_; (with_reducible refine (cmp_isNaN_int.calls a1 false _ A4.out).mono ?_); rintro e w' ⟨rfl, ⟨nd, rfl⟩⟩; refine ⟨_, rfl, ?_⟩))
  go_ret
  exact ⟨qx2_9, qx2_16⟩
 replace c5 := Bool.eq_false_iff.mpr c5
 subst c5
 have H1 : (if t164 = true then (some 1) else (if a0 < a1 then (some (-1)) else (if a0 > a1 then (some 1) else (some 0)))) = some r := by rw [if_neg (show ¬ (false = true) by decide)] at H; exact H
 clear H
 have H := H1
 clear H1
 by_cases c7 : t164 = true
 ·subst c7
  have H1 : (some 1) = some r := by rw [if_pos rfl] at H; exact H
  clear H
  have H := H1
  clear H1
  obtain rfl := Option.some.inj H
  go_enter Try.func63, Try.ntmps63
  go_wp2_with (first | ((with_reducible refine gate_callee (f := 64) rfl ?_); refine goesL_ (some 8) rfl rfl Try.func64 (by kernel_rfl) rfl #[.int .i64 a0] rfl qx2_1 ?_; (with_reducible refine (cmp_isNaN_int.calls a0 false _ A3.out).mono ?_); rintro e w' ⟨rfl, ⟨nd, rfl⟩⟩; refine ⟨_, rfl, ?_⟩) | ((with_reducible refine gate_callee (f := 64) rfl ?_); refine goesL_ (some 10) rfl rfl Try.func64 (by kernel_rfl) rfl #[.int .i64 a1] rfl qx2_1 ?_; (with_reducible refine (cmp_isNaN_int.calls a1 true _ A4.out).mono ?_); rintro e w' ⟨rfl, ⟨nd, rfl⟩⟩; refine ⟨_, rfl, ?_⟩))
  go_ret
  exact ⟨qx2_9, qx2_16⟩
 replace c7 := Bool.eq_false_iff.mpr c7
 subst c7
 have H1 : (if a0 < a1 then (some (-1)) else (if a0 > a1 then (some 1) else (some 0))) = some r := by rw [if_neg (show ¬ (false = true) by decide)] at H; exact H
 clear H
 have H := H1
 clear H1
 by_cases c8 : a0 < a1
 ·rw [if_pos c8] at H
  have c8b0 : decide (a0 < a1) = true := decide_eq_true c8
  clear c8
  obtain rfl := Option.some.inj H
  go_enter Try.func63, Try.ntmps63
  go_wp2_with (first | ((with_reducible refine gate_callee (f := 64) rfl ?_); refine goesL_ (some 8) rfl rfl Try.func64 (by kernel_rfl) rfl #[.int .i64 a0] rfl qx2_1 ?_; (with_reducible refine (cmp_isNaN_int.calls a0 false _ A3.out).mono ?_); rintro e w' ⟨rfl, ⟨nd, rfl⟩⟩; refine ⟨_, rfl, ?_⟩) | ((with_reducible refine gate_callee (f := 64) rfl ?_); refine goesL_ (some 10) rfl rfl Try.func64 (by kernel_rfl) rfl #[.int .i64 a1] rfl qx2_1 ?_; (with_reducible refine (cmp_isNaN_int.calls a1 false _ A4.out).mono ?_); rintro e w' ⟨rfl, ⟨nd, rfl⟩⟩; refine ⟨_, rfl, ?_⟩))
  go_ret
  exact ⟨qx2_9, qx2_16⟩
 rw [if_neg c8] at H
 have c8b0 : decide (a0 < a1) = false := decide_eq_false c8
 clear c8
 by_cases c9 : a0 > a1
 ·rw [if_pos c9] at H
  have c9b0 : decide (a1 < a0) = true := decide_eq_true c9
  clear c9
  obtain rfl := Option.some.inj H
  go_enter Try.func63, Try.ntmps63
  go_wp2_with (first | ((with_reducible refine gate_callee (f := 64) rfl ?_); refine goesL_ (some 8) rfl rfl Try.func64 (by kernel_rfl) rfl #[.int .i64 a0] rfl qx2_1 ?_; (with_reducible refine (cmp_isNaN_int.calls a0 false _ A3.out).mono ?_); rintro e w' ⟨rfl, ⟨nd, rfl⟩⟩; refine ⟨_, rfl, ?_⟩) | ((with_reducible refine gate_callee (f := 64) rfl ?_); refine goesL_ (some 10) rfl rfl Try.func64 (by kernel_rfl) rfl #[.int .i64 a1] rfl qx2_1 ?_; (with_reducible refine (cmp_isNaN_int.calls a1 false _ A4.out).mono ?_); rintro e w' ⟨rfl, ⟨nd, rfl⟩⟩; refine ⟨_, rfl, ?_⟩))
  go_ret
  exact ⟨qx2_9, qx2_16⟩
 rw [if_neg c9] at H
 have c9b0 : decide (a1 < a0) = false := decide_eq_false c9
 clear c9
 obtain rfl := Option.some.inj H
 go_enter Try.func63, Try.ntmps63
 go_wp2_with (first | ((with_reducible refine gate_callee (f := 64) rfl ?_); refine goesL_ (some 8) rfl rfl Try.func64 (by kernel_rfl) rfl #[.int .i64 a0] rfl qx2_1 ?_; (with_reducible refine (cmp_isNaN_int.calls a0 false _ A3.out).mono ?_); rintro e w' ⟨rfl, ⟨nd, rfl⟩⟩; refine ⟨_, rfl, ?_⟩) | ((with_reducible refine gate_callee (f := 64) rfl ?_); refine goesL_ (some 10) rfl rfl Try.func64 (by kernel_rfl) rfl #[.int .i64 a1] rfl qx2_1 ?_; (with_reducible refine (cmp_isNaN_int.calls a1 false _ A4.out).mono ?_); rintro e w' ⟨rfl, ⟨nd, rfl⟩⟩; refine ⟨_, rfl, ?_⟩))
 go_ret
 exact ⟨qx2_9, qx2_16⟩

end Go.Proofs.Ytiimanpmidnffaa.Q
