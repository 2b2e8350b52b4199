-- Laid by myprint.py (a program of this session's, over the kit's printer and with functions proved by hand)
import Derived.Test.YtcjgmofgfblmnaaTy
import Derived.Test.YtcjgmofgfblmnaaQgBase
namespace Go.Proofs.Ytcjgmofgfblmnaa.Q
open Go.RowKit Go.Proofs.YtcjgmofgfblmnaaW.PrintWords Go.Proofs.YtcjgmofgfblmnaaW.PrintLast Go.Proofs.YtcjgmofgfblmnaaW.PrintMore
attribute [local go_sem] max2_int min2_int max_two min_two max_three min_three max_four min_four   -- for this text's walks alone
set_option linter.unusedVariables false
set_option linter.unusedSimpArgs false

theorem qgcosts_0 {p : Prop} (h : p := by repeat (first | (with_reducible first | exact HB.out | apply below_alloc | apply pw_below_drewN | apply below_drew1) | exact HB.out)) : p := h
theorem qgcosts_1 {p : Prop} (h : p := by first | (with_reducible assumption) | assumption) : p := h
theorem qgcosts_2 {p : Prop} (h : p := by repeat (first | (with_reducible first | exact HB.out | apply below_alloc | apply pw_below_drewN | apply below_drew1 | refine below_set ?_ GE160.out | refine below_set ?_ GE161.out | refine below_set ?_ GE162.out) | exact HB.out)) : p := h
theorem qgcosts_3 {p : Prop} (h : p := by (with_reducible repeat (first | apply Kd.R_alloc | apply Kd.R_drewN | apply Kd.R_drew)); exact HO_5.out) : p := h
theorem qgcosts_4 {p : Prop} (h : p := by (with_reducible repeat (first | refine blk_drewN ?_ _ | refine blk_drew ?_ | refine blk_alloc ?_ _)); exact BK160.out) : p := h
theorem qgcosts_5 {p : Prop} (h : p := by repeat (first | (with_reducible first | exact HB.out | apply below_alloc | apply pw_below_drewN | apply below_drew1 | refine below_set ?_ GE174.out) | exact HB.out)) : p := h
theorem qgcosts_6 {p : Prop} (h : p := by (try simp only [List.map_toArray, List.map_cons, List.map_nil]); first | done | rfl | (simp only [List.length_drop, List.length_take]; rfl)) : p := h
theorem qgcosts_7 {p : Prop} (h : p := by repeat (first | (with_reducible first | exact HB.out | apply below_alloc | apply pw_below_drewN | apply below_drew1 | refine below_set ?_ GE160.out | refine below_set ?_ GE161.out) | exact HB.out)) : p := h
theorem qgcosts_8 {p : Prop} (h : p := by (with_reducible repeat (first | refine blk_drewN ?_ _ | refine blk_drew ?_ | refine blk_alloc ?_ _)); exact BK174.out) : p := h
theorem qgcosts_9 {p : Prop} (h : p := by (with_reducible repeat (first | apply Kd.R_alloc | apply Kd.R_drewN | apply Kd.R_drew)); exact HO_6.out) : p := h
theorem qgcosts_10 {p : Prop} (h : p := by (with_reducible repeat (first | apply Kd.R_alloc | apply Kd.R_drewN | apply Kd.R_drew)); exact HO_7.out) : p := h
theorem qgcosts_11 {p : Prop} (h : p := by repeat (first | (with_reducible first | exact HB.out | apply below_alloc | apply pw_below_drewN | apply below_drew1 | refine below_set ?_ GE160.out) | exact HB.out)) : p := h
theorem qgcosts_12 {p : Prop} (h : p := by first | rfl | (simp; done) | (simp [*]; done)) : p := h
theorem qgcosts_13 {p : Prop} (h : p := by (with_reducible repeat (first | refine blk_drewN ?_ _ | refine blk_drew ?_ | refine blk_alloc ?_ _)); exact BK161.out) : p := h
theorem qgcosts_14 {p : Prop} (h : p := by (with_reducible repeat (first | apply Kd.V_alloc | apply Kd.V_drewN | apply Kd.V_drew)); exact HO0_1.out) : p := h
theorem qgcosts_15 {p : Prop} (h : p := by first | rfl | (simp [errW_none, errW_some] <;> rfl) | (simp [*, errW_none, errW_some] <;> rfl)) : p := h
theorem qgcosts_16 {p : Prop} (h : p := by first | (go_simp; done) | (go_simp; rfl)) : p := h
theorem qgcosts_17 {p : Prop} (h : p := by repeat (first | (with_reducible first | exact HB.out | apply below_alloc | apply pw_below_drewN | apply below_drew1 | refine below_set ?_ GE174.out | refine below_set ?_ GE175.out) | exact HB.out)) : p := h
theorem qgcosts_18 {p : Prop} (h : p := by (with_reducible repeat (first | apply Kd.V_alloc | apply Kd.V_drewN | apply Kd.V_drew)); exact (Kd.V_mono (Kd.V_far (p := ⟨gb162, 1, none⟩) (Kd.V_far (p := ⟨gb162, 0, none⟩) (Kd.V_mono HO0_1.out (fun k_ hk => (⟨hk, hk.2⟩ : _ ∧ k_ ≠ gb162))) (fun _ hk => hk.2) (.int .i64 (wrap64 (a0_0 + a2)))) (fun _ hk => hk.2) (.slice A0_1 l0_1.length c0_1)) (fun _ h_ => h_.1))) : p := h
theorem qgcosts_19 {p : Prop} (h : p := by (with_reducible repeat (first | apply Kd.R_alloc | apply Kd.R_drewN | apply Kd.R_drew)); exact Kd.R_mono HO_5.out (fun _ hk => ⟨hk.2, hk.1⟩)) : p := h
theorem qgcosts_20 {p : Prop} (h : p := by repeat (first | exact Drawn0.refl _ | apply Drawn0.step)) : p := h
theorem qgcosts_21 {p : Prop} (h : p := by (with_reducible repeat (first | apply Kd.R_alloc | apply Kd.R_drewN | apply Kd.R_drew)); exact HO140.out) : p := h
theorem qgcosts_22 {p : Prop} (h : p := by (with_reducible repeat (first | apply Kd.R_alloc | apply Kd.R_drewN | apply Kd.R_drew)); exact Kd.R_mono HO140.out (fun _ hk => ⟨hk.2, hk.1⟩)) : p := h
theorem qgcosts_23 {p : Prop} (h : p := by (with_reducible repeat (first | apply Kd.R_alloc | apply Kd.R_drewN | apply Kd.R_drew)); exact Kd.R_mono HO146.out (fun _ hk => ⟨hk.2, hk.1⟩)) : p := h
theorem qgcosts_24 {p : Prop} (h : p := by (with_reducible repeat (first | apply Kd.R_alloc | apply Kd.R_drewN | apply Kd.R_drew)); exact Kd.R_mono HO152.out (fun _ hk => ⟨hk.2, hk.1⟩)) : p := h
theorem qgcosts_25 {p : Prop} (h : p := by (with_reducible repeat (first | apply Kd.R_alloc | apply Kd.R_drewN | apply Kd.R_drew)); exact Kd.R_mono HO155.out (fun _ hk => ⟨hk.2, hk.1⟩)) : p := h
theorem qgcosts_26 {p : Prop} (h : p := by (with_reducible repeat (first | apply Kd.R_alloc | apply Kd.R_drewN | apply Kd.R_drew)); exact Kd.R_mono HO_6.out (fun _ hk => ⟨hk.2, hk.1⟩)) : p := h
theorem qgcosts_27 {p : Prop} (h : p := by (with_reducible repeat (first | apply Kd.R_alloc | apply Kd.R_drewN | apply Kd.R_drew)); exact Kd.R_mono HO_7.out (fun _ hk => ⟨hk.2, hk.1⟩)) : p := h
/-! ### segmentation_costs: function 60 -/
mutual
def segmentation_costs.l0 : Nat → List Int → List Int → List Int → List Int → Int → Int → Int → Option (List Int)
 | 0, _, _, _, _, _, _, _ => none
 | k + 1, x0, x5, x6, x7, x8, x9, x10 => if x10 ≥ 0 then (if 0 ≤ x10 then (if x10 < (x0.length : Int) then (if (x6.length : Int) > 0 then (if 0 ≤ (wrap64 ((x6.length : Int) - 1)) then (if (wrap64 ((x6.length : Int) - 1)) < (x6.length : Int) then (segmentation_costs.j1 k x0 x5 x6 x7 x8 x9 x10 (rd x0 x10) (decide ((rd x0 x10) > (rd x6 (wrap64 ((x6.length : Int) - 1)))))) else (none)) else (none)) else (segmentation_costs.j1 k x0 x5 x6 x7 x8 x9 x10 (rd x0 x10) false)) else (none)) else (none)) else (some x5)
def segmentation_costs.j1 : Nat → List Int → List Int → List Int → List Int → Int → Int → Int → Int → Bool → Option (List Int)
 | 0, _, _, _, _, _, _, _, _, _ => none
 | k + 1, x0, x5, x6, x7, x8, x9, x10, x11, x43 => if x43 = true then ((slices_BinarySearch_int_int.f k x7 x11).bind fun bt121 => ((slices_Insert_int_int.f x7 bt121.1 (([x11] : List Int))).bind fun t126 => (segmentation_costs.j2 k x0 x5 x6 t126 x8 (wrap64 (x9 + x11)) x10))) else ((slices_BinarySearch_int_int.f k x6 x11).bind fun bt129 => ((slices_Insert_int_int.f x6 bt129.1 (([x11] : List Int))).bind fun t134 => (segmentation_costs.j2 k x0 x5 t134 x7 (wrap64 (x8 + x11)) x9 x10)))
def segmentation_costs.j2 : Nat → List Int → List Int → List Int → List Int → Int → Int → Int → Option (List Int)
 | 0, _, _, _, _, _, _, _ => none
 | k + 1, x0, x5, x6, x7, x8, x9, x10 => if (x6.length : Int) > (wrap64 ((x7.length : Int) + 1)) then (if 0 ≤ (wrap64 ((x6.length : Int) - 1)) then (if (wrap64 ((x6.length : Int) - 1)) < (x6.length : Int) then (if (wrap64 ((x6.length : Int) - 1)) ≤ (x6.length : Int) then ((some (x6.take ((wrap64 ((x6.length : Int) - 1)) : Int).toNat : List Int)).bind fun y138 => ((slices_Insert_int_int.f x7 0 (([rd x6 (wrap64 ((x6.length : Int) - 1))] : List Int))).bind fun t144 => (if 0 ≤ (wrap64 ((y138.length : Int) - 1)) then (if (wrap64 ((y138.length : Int) - 1)) < (y138.length : Int) then (if 0 ≤ x10 then (if x10 < (x5.length : Int) then (segmentation_costs.l0 k x0 (x5.set (x10 : Int).toNat (wrap64 ((wrap64 ((wrap64 ((wrap64 ((rd y138 (wrap64 ((y138.length : Int) - 1))) * (y138.length : Int))) - (wrap64 (x8 - (rd x6 (wrap64 ((x6.length : Int) - 1))))))) + (wrap64 (x9 + (rd x6 (wrap64 ((x6.length : Int) - 1))))))) - (wrap64 ((rd y138 (wrap64 ((y138.length : Int) - 1))) * (t144.length : Int)))))) y138 t144 (wrap64 (x8 - (rd x6 (wrap64 ((x6.length : Int) - 1))))) (wrap64 (x9 + (rd x6 (wrap64 ((x6.length : Int) - 1))))) (wrap64 (x10 - 1))) else (none)) else (none)) else (none)) else (none)))) else (none)) else (none)) else (none)) else (if (x6.length : Int) < (x7.length : Int) then (if 0 < (x7.length : Int) then ((slices_Delete_int_int.f x7 0 1).bind fun t150 => (if x6.length < 17592186044416 then ((some (x6 ++ [rd x7 0] : List Int)).bind fun y153 => (if 0 ≤ (wrap64 ((y153.length : Int) - 1)) then (if (wrap64 ((y153.length : Int) - 1)) < (y153.length : Int) then (if 0 ≤ x10 then (if x10 < (x5.length : Int) then (segmentation_costs.l0 k x0 (x5.set (x10 : Int).toNat (wrap64 ((wrap64 ((wrap64 ((wrap64 ((rd y153 (wrap64 ((y153.length : Int) - 1))) * (y153.length : Int))) - (wrap64 (x8 + (rd x7 0))))) + (wrap64 (x9 - (rd x7 0))))) - (wrap64 ((rd y153 (wrap64 ((y153.length : Int) - 1))) * (t150.length : Int)))))) y153 t150 (wrap64 (x8 + (rd x7 0))) (wrap64 (x9 - (rd x7 0))) (wrap64 (x10 - 1))) else (none)) else (none)) else (none)) else (none))) else (none))) else (none)) else (if 0 ≤ (wrap64 ((x6.length : Int) - 1)) then (if (wrap64 ((x6.length : Int) - 1)) < (x6.length : Int) then (if 0 ≤ x10 then (if x10 < (x5.length : Int) then (segmentation_costs.l0 k x0 (x5.set (x10 : Int).toNat (wrap64 ((wrap64 ((wrap64 ((wrap64 ((rd x6 (wrap64 ((x6.length : Int) - 1))) * (x6.length : Int))) - x8)) + x9)) - (wrap64 ((rd x6 (wrap64 ((x6.length : Int) - 1))) * (x7.length : Int)))))) x6 x7 x8 x9 (wrap64 (x10 - 1))) else (none)) else (none)) else (none)) else (none)))
end
def segmentation_costs.f (k : Nat) (l0 : List Int) (a1 : Int) : Option (List Int) := if 0 ≤ a1 then (if (a1 : Int).toNat ≤ 35184372088832 then (segmentation_costs.l0 k l0 (List.replicate (a1 : Int).toNat 0) ([] : List Int) ([] : List Int) 0 0 (wrap64 (a1 - 1))) else (none)) else (none)
theorem segmentation_costs.mono_l : ∀ k, (∀ y0 y1 y2 y3 y4 y5 y6, LeO (segmentation_costs.l0 k y0 y1 y2 y3 y4 y5 y6) (segmentation_costs.l0 (k + 1) y0 y1 y2 y3 y4 y5 y6)) ∧ (∀ y0 y1 y2 y3 y4 y5 y6 y7 y8, LeO (segmentation_costs.j1 k y0 y1 y2 y3 y4 y5 y6 y7 y8) (segmentation_costs.j1 (k + 1) y0 y1 y2 y3 y4 y5 y6 y7 y8)) ∧ (∀ y0 y1 y2 y3 y4 y5 y6, LeO (segmentation_costs.j2 k y0 y1 y2 y3 y4 y5 y6) (segmentation_costs.j2 (k + 1) y0 y1 y2 y3 y4 y5 y6))
 | 0 => ⟨fun _ _ _ _ _ _ _ r h => by simp [segmentation_costs.l0] at h, fun _ _ _ _ _ _ _ _ _ r h => by simp [segmentation_costs.j1] at h, fun _ _ _ _ _ _ _ r h => by simp [segmentation_costs.j2] at h⟩
 | k + 1 => by
  obtain ⟨ih0, ih1, ih2⟩ := segmentation_costs.mono_l k
  refine ⟨?_, ?_, ?_⟩
  ·intro y0 y1 y2 y3 y4 y5 y6
   unfold segmentation_costs.l0
   repeat' first
   | (with_reducible exact ih0 _ _ _ _ _ _ _)
   | (with_reducible exact ih1 _ _ _ _ _ _ _ _ _)
   | (with_reducible exact ih2 _ _ _ _ _ _ _)
   | (with_reducible exact slices_BinarySearch_int_int.mono _ _ _)
   | (with_reducible exact LeO.refl _)
   | (with_reducible exact LeO.none _)
   | (with_reducible refine LeO.ite ?_ ?_)
   | (with_reducible refine LeO.bind ?_ (fun _ => ?_))
   | exact ih0 _ _ _ _ _ _ _
   | exact ih1 _ _ _ _ _ _ _ _ _
   | exact ih2 _ _ _ _ _ _ _
   | exact slices_BinarySearch_int_int.mono _ _ _
   | exact LeO.none _
   | refine LeO.ite ?_ ?_
   | refine LeO.bind ?_ (fun _ => ?_)
  ·intro y0 y1 y2 y3 y4 y5 y6 y7 y8
   unfold segmentation_costs.j1
   repeat' first
   | (with_reducible exact ih0 _ _ _ _ _ _ _)
   | (with_reducible exact ih1 _ _ _ _ _ _ _ _ _)
   | (with_reducible exact ih2 _ _ _ _ _ _ _)
   | (with_reducible exact slices_BinarySearch_int_int.mono _ _ _)
   | (with_reducible exact LeO.refl _)
   | (with_reducible exact LeO.none _)
   | (with_reducible refine LeO.ite ?_ ?_)
   | (with_reducible refine LeO.bind ?_ (fun _ => ?_))
   | exact ih0 _ _ _ _ _ _ _
   | exact ih1 _ _ _ _ _ _ _ _ _
   | exact ih2 _ _ _ _ _ _ _
   | exact slices_BinarySearch_int_int.mono _ _ _
   | exact LeO.none _
   | refine LeO.ite ?_ ?_
   | refine LeO.bind ?_ (fun _ => ?_)
  ·intro y0 y1 y2 y3 y4 y5 y6
   unfold segmentation_costs.j2
   repeat' first
   | (with_reducible exact ih0 _ _ _ _ _ _ _)
   | (with_reducible exact ih1 _ _ _ _ _ _ _ _ _)
   | (with_reducible exact ih2 _ _ _ _ _ _ _)
   | (with_reducible exact slices_BinarySearch_int_int.mono _ _ _)
   | (with_reducible exact LeO.refl _)
   | (with_reducible exact LeO.none _)
   | (with_reducible refine LeO.ite ?_ ?_)
   | (with_reducible refine LeO.bind ?_ (fun _ => ?_))
   | exact ih0 _ _ _ _ _ _ _
   | exact ih1 _ _ _ _ _ _ _ _ _
   | exact ih2 _ _ _ _ _ _ _
   | exact slices_BinarySearch_int_int.mono _ _ _
   | exact LeO.none _
   | refine LeO.ite ?_ ?_
   | refine LeO.bind ?_ (fun _ => ?_)
theorem segmentation_costs.mono : ∀ a0 a1 k, LeO (segmentation_costs.f k a0 a1) (segmentation_costs.f (k + 1) a0 a1) := by
 intro a0 a1 k
 obtain ⟨ih0, ih1, ih2⟩ := segmentation_costs.mono_l k
 unfold segmentation_costs.f
 repeat' first
   | (with_reducible exact ih0 _ _ _ _ _ _ _)
   | (with_reducible exact ih1 _ _ _ _ _ _ _ _ _)
   | (with_reducible exact ih2 _ _ _ _ _ _ _)
   | (with_reducible exact slices_BinarySearch_int_int.mono _ _ _)
   | (with_reducible exact LeO.refl _)
   | (with_reducible exact LeO.none _)
   | (with_reducible refine LeO.ite ?_ ?_)
   | (with_reducible refine LeO.bind ?_ (fun _ => ?_))
   | exact ih0 _ _ _ _ _ _ _
   | exact ih1 _ _ _ _ _ _ _ _ _
   | exact ih2 _ _ _ _ _ _ _
   | exact slices_BinarySearch_int_int.mono _ _ _
   | exact LeO.none _
   | refine LeO.ite ?_ ?_
   | refine LeO.bind ?_ (fun _ => ?_)
set_option maxHeartbeats 8000000 in
set_option maxRecDepth 100000 in
theorem segmentation_costs.calls (k : Nat) (A0 : Option Addr) (c0 : Nat) (l0 : List Int) (a1 : Int) (r : List Int) (w : World) (hr0 : Kd.C (Kd.int .i64) w A0 l0.length l0) (hc0 : l0.length ≤ c0) (h : segmentation_costs.f k l0 a1 = some r) :
  Calls Try.prog 60 #[.slice A0 l0.length c0, .int .i64 a1] w fun e w' => ∃ v0_ : Value, e = .returned (v0_) ∧ Kd.R (Kd.int .i64) 3 w' w.heap.size (fun _ => True) v0_ r ∧ Below w.heap.size w w' := by
 have HR0 := Aside0.mk hr0
 have HC0 := Aside0.mk hc0
 clear hr0 hc0
 have HB := Aside0.mk (Below.refl w.heap.size w)
 have H : (if 0 ≤ a1 then (if (a1 : Int).toNat ≤ 35184372088832 then (segmentation_costs.l0 k l0 (List.replicate (a1 : Int).toNat 0) ([] : List Int) ([] : List Int) 0 0 (wrap64 (a1 - 1))) else (none)) else (none)) = some r := h
 clear h
 by_cases c3 : 0 ≤ a1
 rotate_left
 ·rw [if_neg c3] at H
  exact absurd H (by simp)
 rw [if_pos c3] at H
 have c3b0 := eq_true c3
 have c3b1 : decide (0 ≤ a1) = true := decide_eq_true c3
 clear c3
 by_cases c4 : (a1 : Int).toNat ≤ 35184372088832
 rotate_left
 ·rw [if_neg c4] at H
  exact absurd H (by simp)
 rw [if_pos c4] at H
 have c4b0 := eq_true c4
 have c4b1 : decide ((a1 : Int).toNat ≤ 35184372088832) = true := decide_eq_true c4
 clear c4
 obtain ⟨y116, hy116⟩ : ∃ y_ : List Int, y_ = (List.replicate (a1 : Int).toNat 0) := ⟨_, rfl⟩
 replace H : (segmentation_costs.l0 k l0 y116 ([] : List Int) ([] : List Int) 0 0 (wrap64 (a1 - 1))) = some r := by first | (rw [hy116]; with_reducible exact H) | (have H2_ := (Option.bind_some _ _).symm.trans H; rw [hy116]; with_reducible exact H2_) | (have H2_ := (Option.bind_some _ _).symm.trans H; with_reducible exact H2_) | with_reducible exact H | (rw [hy116]; exact H) | exact H
 have Ny116 := Aside0.mk hy116
 clear hy116
 have H' := Aside0.mk H
 clear H
 go_enter Try.func60, Try.ntmps60
 go_wp2_with (first | ((with_reducible refine gate_dst (N := 20) rfl ?_); (try (refine gate_guard (by rfl) ?_; dsimp only)); refine Kd.R_make (Kd.int .i64) _ 3 rfl (N := 20) rfl 26 _ _ rfl a1 rfl rfl Try.underlying26 (.int .i64 0) 8 info3 rfl (by decide) (by omega) 0 (ok := fun _ => True) (okp := fun _ => True) rfl (fun _ hk => hk) trivial (of_decide_eq_true qgcosts_1) (Nat.le_trans (Nat.mul_le_mul_right _ (of_decide_eq_true qgcosts_1 : a1.toNat ≤ 35184372088832)) (by omega)) (Below.refl _ _) (Nat.le_refl _) ?_; intro v117 w5 ho6 hb hg_ hnew_; clear hg_ hnew_; (first | rw [← Ny116.out] at ho6 | (simp only [Int.reduceToNat] at ho6; rw [← Ny116.out] at ho6)); have n0_ := Aside0.mk (Kd.R_lower ho6 (below_size qgcosts_0)); have n1_ := Aside0.mk (below_step qgcosts_0 hb); clear HB; have HO118 := n0_; have HB := n1_; clear n0_ n1_; clear hb ho6))
 go_loopg [6, 7, 8, 9, 10] k (fun kq v6 v7 v8 v9 v10 w' => ∃ (x5_1 : List Int) (x6_1 : List Int) (x7_1 : List Int) (x8_1 : Int) (x9_1 : Int) (x10_1 : Int), v8 = .int .i64 x8_1 ∧ v9 = .int .i64 x9_1 ∧ v10 = .int .i64 x10_1 ∧ Aside0 (segmentation_costs.l0 kq l0 x5_1 x6_1 x7_1 x8_1 x9_1 x10_1 = some r) ∧ Aside0 (kq ≤ k) ∧ Aside0 (Kd.R (Kd.int .i64) 3 w' w.heap.size (fun k_ => some k_ ≠ (v6 : Value).ownBlock ∧ some k_ ≠ (v7 : Value).ownBlock) v117 x5_1) ∧ Aside0 (Kd.R (Kd.int .i64) 3 w' w.heap.size (fun k_ => some k_ ≠ (v117 : Value).ownBlock ∧ some k_ ≠ (v7 : Value).ownBlock) v6 x6_1) ∧ Aside0 (Kd.R (Kd.int .i64) 3 w' w.heap.size (fun k_ => some k_ ≠ (v117 : Value).ownBlock ∧ some k_ ≠ (v6 : Value).ownBlock) v7 x7_1) ∧ Aside0 (Below w.heap.size w w'))
 case atStart => exact ⟨(y116), (([] : List Int)), (([] : List Int)), (0), (0), (wrap64 (a1 - 1)), qgcosts_12, qgcosts_12, qgcosts_12, H', ⟨Nat.le_refl _⟩, ⟨by (with_reducible repeat (first | apply Kd.R_alloc | apply Kd.R_drewN | apply Kd.R_drew)); exact Kd.R_mono HO118.out (fun _ hk => ⟨(by simp [Value.ownBlock]), (by simp [Value.ownBlock])⟩)⟩, ⟨by first | exact Kd.R_nil _ _ _ _ _ | exact Kd.N_nil _ _ _ _ _ | exact Kd.V_nil _ _ _ _ _ | exact Kd.Q_nil _ _ _ _ _ | exact Kd.S_nil _ _ _ _ _⟩, ⟨by first | exact Kd.R_nil _ _ _ _ _ | exact Kd.N_nil _ _ _ _ _ | exact Kd.V_nil _ _ _ _ _ | exact Kd.Q_nil _ _ _ _ _ | exact Kd.S_nil _ _ _ _ _⟩, ⟨qgcosts_0⟩⟩
 clear H'
 try clear p2
 try clear c3
 try clear c3b0
 try clear c3b1
 try clear c4
 try clear c4b0
 try clear c4b1
 try clear c6
 try clear p6
 obtain ⟨x5_1, x6_1, x7_1, x8_1, x9_1, x10_1, rfl, rfl, rfl, HA, HK1, HO_5, HO_6, HO_7, HB⟩ := hrel
 cases gk with
 | zero => exact absurd HA.out (by simp [segmentation_costs.l0])
 | succ k1 =>
  have H := HA.out
  clear HA
  simp only [segmentation_costs.l0] at H
  by_cases c7 : x10_1 ≥ 0
  rotate_left
  ·rw [if_neg c7] at H
   have c7b0 : decide (0 ≤ x10_1) = false := decide_eq_false c7
   clear c7
   obtain rfl := Option.some.inj H
   go_wp2
   go_ret
   exact ⟨_, qgcosts_15, by (with_reducible repeat (first | apply Kd.R_alloc | apply Kd.R_drewN | apply Kd.R_drew)); exact Kd.R_mono HO_5.out (fun _ hk => trivial), qgcosts_0⟩
  rw [if_pos c7] at H
  have c7b0 : decide (0 ≤ x10_1) = true := decide_eq_true c7
  clear c7
  by_cases c8 : 0 ≤ x10_1
  rotate_left
  ·rw [if_neg c8] at H
   exact absurd H (by simp)
  rw [if_pos c8] at H
  have c8b0 : decide (0 ≤ x10_1) = true := decide_eq_true c8
  clear c8
  by_cases c9 : x10_1 < (l0.length : Int)
  rotate_left
  ·rw [if_neg c9] at H
   exact absurd H (by simp)
  rw [if_pos c9] at H
  have c9b0 : decide (x10_1 < (l0.length : Int)) = true := decide_eq_true c9
  clear c9
  have HC10 := Aside0.mk H
  clear H
  have p119 : 0 ≤ (x10_1 : Int) := of_decide_eq_true qgcosts_1
  have q119 : x10_1 < (l0.length : Int) := of_decide_eq_true qgcosts_1
  obtain ⟨ad119, e119, hx119_0⟩ := Kd.at_int HR0.out x10_1 p119 q119
  cases e119
  replace hx119_0 := (HB.out.cell (World.block_lt_of_cell? w _ hx119_0)).trans hx119_0
  replace p119 := eq_true p119
  replace q119 := eq_true q119
  go_upto_region 8 with (fail)
  go_cut [43] (fun v43 wc => ∃ (kq : Nat) (x43_9 : Bool), v43 = .bool x43_9 ∧ Aside0 (segmentation_costs.j1 kq l0 x5_1 x6_1 x7_1 x8_1 x9_1 x10_1 (rd l0 x10_1) x43_9 = some r) ∧ Aside0 (kq ≤ k1) ∧ Aside0 (Kd.R (Kd.int .i64) 3 wc w.heap.size (fun k_ => some k_ ≠ (u6 : Value).ownBlock ∧ some k_ ≠ (u7 : Value).ownBlock) v117 x5_1) ∧ Aside0 (Kd.R (Kd.int .i64) 3 wc w.heap.size (fun k_ => some k_ ≠ (v117 : Value).ownBlock ∧ some k_ ≠ (u7 : Value).ownBlock) u6 x6_1) ∧ Aside0 (Kd.R (Kd.int .i64) 3 wc w.heap.size (fun k_ => some k_ ≠ (v117 : Value).ownBlock ∧ some k_ ≠ (u6 : Value).ownBlock) u7 x7_1) ∧ Aside0 (Below w.heap.size w wc))
  case first =>
   have H := HC10.out
   clear HC10
   by_cases c11 : (x6_1.length : Int) > 0
   rotate_left
   ·rw [if_neg c11] at H
    have c11b0 : decide (0 < (x6_1.length : Int)) = false := decide_eq_false c11
    have c11b1 : decide (0 < x6_1.length) = false := decide_eq_false (by omega)
    clear c11
    (first | rw [c11b0] | (simp only [i64_w, i32_w]; rw [c11b0]) | skip)
    have H' := Aside0.mk H
    clear H
    obtain ⟨Ao16, co16, eo16⟩ := Kd.R_slice HO_6.out
    subst eo16
    go_wp2
    go_meet
    case rel => exact ⟨_, (false), qgcosts_12, H', ⟨by have := HK1.out; first | omega | exact Nat.le_refl _⟩, ⟨qgcosts_3⟩, ⟨qgcosts_9⟩, ⟨qgcosts_10⟩, ⟨qgcosts_0⟩⟩
   rw [if_pos c11] at H
   have c11b0 : decide (0 < (x6_1.length : Int)) = true := decide_eq_true c11
   have c11b1 : decide (0 < x6_1.length) = true := decide_eq_true (by omega)
   clear c11
   (first | rw [c11b0] | (simp only [i64_w, i32_w]; rw [c11b0]) | skip)
   obtain ⟨ji12, hji12⟩ : ∃ j_ : Int, (wrap64 ((x6_1.length : Int) - 1)) = j_ := ⟨_, rfl⟩
   replace H : (if 0 ≤ (ji12) then (if (ji12) < (x6_1.length : Int) then (segmentation_costs.j1 k1 l0 x5_1 x6_1 x7_1 x8_1 x9_1 x10_1 (rd l0 x10_1) (decide ((rd l0 x10_1) > (rd x6_1 (ji12))))) else (none)) else (none)) = some r := by first | (rw [hji12] at H; exact H) | (simp only [hji12] at H ⊢; exact H)
   have hji12w : (IntKind.i64.wrap ((x6_1.length : Int) - 1)) = ji12 := (i64_w _).trans hji12
   by_cases c13 : 0 ≤ (ji12)
   rotate_left
   ·rw [if_neg c13] at H
    exact absurd H (by simp)
   rw [if_pos c13] at H
   have c13b0 : decide (0 ≤ (ji12)) = true := decide_eq_true c13
   clear c13
   by_cases c14 : (ji12) < (x6_1.length : Int)
   rotate_left
   ·rw [if_neg c14] at H
    exact absurd H (by simp)
   rw [if_pos c14] at H
   have c14b0 : decide ((ji12) < (x6_1.length : Int)) = true := decide_eq_true c14
   clear c14
   have H' := Aside0.mk H
   clear H
   obtain ⟨Ao15, co15, eo15⟩ := Kd.R_slice HO_6.out
   subst eo15
   have p120 : 0 ≤ ((ji12) : Int) := of_decide_eq_true qgcosts_1
   have q120 : (ji12) < (x6_1.length : Int) := of_decide_eq_true qgcosts_1
   obtain ⟨ad120, e120, hx120_0⟩ := Kd.at_int (Kd.R_reads' HO_6.out).2.2 (ji12) p120 q120
   cases e120
   replace p120 := eq_true p120
   replace q120 := eq_true q120
   go_wp2
   go_meet
   case rel => exact ⟨_, (decide ((rd l0 x10_1) > (rd x6_1 (ji12)))), (by first | rfl | (simp; done) | (simp only [← hji12] <;> (first | rfl | simp)) | (simp [*]; done)), H', ⟨by have := HK1.out; first | omega | exact Nat.le_refl _⟩, ⟨qgcosts_3⟩, ⟨qgcosts_9⟩, ⟨qgcosts_10⟩, ⟨qgcosts_0⟩⟩
  clear HC10
  try clear c1
  try clear p1
  try clear q1
  try clear hx1
  try clear p2
  try clear c3
  try clear c3b0
  try clear c3b1
  try clear c4
  try clear c4b0
  try clear c4b1
  try clear c6
  try clear p6
  try clear c7
  try clear c7b0
  try clear c8
  try clear c8b0
  try clear c9
  try clear c9b0
  try clear c11
  try clear c11b0
  try clear c11b1
  try clear p11
  try clear q11
  try clear hx11
  try clear p12
  try clear q12
  try clear hx12
  try clear c13
  try clear c13b0
  try clear c14
  try clear c14b0
  try clear hx119_0
  try clear hx120_0
  try clear p119
  try clear p120
  try clear p2
  try clear p6
  try clear q119
  try clear q120
  obtain ⟨kq, x43_9, rfl, HA, HJ9, HO_5, HO_6, HO_7, HB⟩ := hcut
  cases kq with
  | zero => exact absurd HA.out (by simp [segmentation_costs.j1])
  | succ kj9 =>
   have H := HA.out
   clear HA
   simp only [segmentation_costs.j1] at H
   have HC17 := Aside0.mk H
   clear H
   go_upto_if 43 with (fail)
   go_cut [6, 7, 8, 9] (fun v6 v7 v8 v9 wc => ∃ (kq : Nat) (x6_16 : List Int) (x7_16 : List Int) (x8_16 : Int) (x9_16 : Int), v8 = .int .i64 x8_16 ∧ v9 = .int .i64 x9_16 ∧ Aside0 (segmentation_costs.j2 kq l0 x5_1 x6_16 x7_16 x8_16 x9_16 x10_1 = some r) ∧ Aside0 (kq ≤ kj9) ∧ Aside0 (Kd.R (Kd.int .i64) 3 wc w.heap.size (fun k_ => some k_ ≠ (v6 : Value).ownBlock ∧ some k_ ≠ (v7 : Value).ownBlock) v117 x5_1) ∧ Aside0 (Kd.R (Kd.int .i64) 3 wc w.heap.size (fun k_ => some k_ ≠ (v117 : Value).ownBlock ∧ some k_ ≠ (v7 : Value).ownBlock) v6 x6_16) ∧ Aside0 (Kd.R (Kd.int .i64) 3 wc w.heap.size (fun k_ => some k_ ≠ (v117 : Value).ownBlock ∧ some k_ ≠ (v6 : Value).ownBlock) v7 x7_16) ∧ Aside0 (Below w.heap.size w wc))
   case first =>
    have H := HC17.out
    clear HC17
    by_cases c18 : x43_9 = true
    ·subst c18
     have H1 : ((slices_BinarySearch_int_int.f kj9 x7_1 (rd l0 x10_1)).bind fun bt121 => ((slices_Insert_int_int.f x7_1 bt121.1 (([(rd l0 x10_1)] : List Int))).bind fun t126 => (segmentation_costs.j2 kj9 l0 x5_1 x6_1 t126 x8_1 (wrap64 (x9_1 + (rd l0 x10_1))) x10_1))) = some r := by rw [if_pos rfl] at H; exact H
     clear H
     have H := H1
     clear H1
     replace H := Option.bind_eq_some_iff.mp H
     obtain ⟨⟨t121, t122⟩, A190, H⟩ := H
     replace H : ((slices_Insert_int_int.f x7_1 t121 (([(rd l0 x10_1)] : List Int))).bind fun t126 => (segmentation_costs.j2 kj9 l0 x5_1 x6_1 t126 x8_1 (wrap64 (x9_1 + (rd l0 x10_1))) x10_1)) = some r := H
     have A19 := Aside0.mk A190
     clear A190
     obtain ⟨y123, hy123⟩ : ∃ y_ : List Int, y_ = (([(rd l0 x10_1)] : List Int)) := ⟨_, rfl⟩
     replace H : ((slices_Insert_int_int.f x7_1 t121 y123).bind fun t126 => (segmentation_costs.j2 kj9 l0 x5_1 x6_1 t126 x8_1 (wrap64 (x9_1 + (rd l0 x10_1))) x10_1)) = some r := by first | (rw [hy123]; with_reducible exact H) | (have H2_ := (Option.bind_some _ _).symm.trans H; rw [hy123]; with_reducible exact H2_) | (have H2_ := (Option.bind_some _ _).symm.trans H; with_reducible exact H2_) | with_reducible exact H | (rw [hy123]; exact H) | exact H
     have Ny123 := Aside0.mk hy123
     clear hy123
     replace H := Option.bind_eq_some_iff.mp H
     obtain ⟨t126, A200, H⟩ := H
     replace H : (segmentation_costs.j2 kj9 l0 x5_1 x6_1 t126 x8_1 (wrap64 (x9_1 + (rd l0 x10_1))) x10_1) = some r := H
     have A20 := Aside0.mk A200
     clear A200
     have H' := Aside0.mk H
     clear H
     obtain ⟨Ao21, co21, eo21⟩ := Kd.R_slice HO_7.out
     subst eo21
     go_wp2_with (first | ((with_reducible refine gate_callee (f := 77) rfl ?_); refine goesL_ (some 47) rfl rfl Try.func77 (by kernel_rfl) rfl #[.slice Ao21 x7_1.length co21, .int .i64 (rd l0 x10_1)] rfl qgcosts_6 ?_; (with_reducible refine (slices_BinarySearch_int_int.calls kj9 _ _ x7_1 (rd l0 x10_1) t121 t122 _ ?side1 ?side2 A19.out).mono ?_); (case side1 => repeat (first | exact (Kd.R_reads' HO_7.out).2.2 | (with_reducible refine Kd.C_alloc ?_ _) | (with_reducible refine Kd.C_drewN ?_ _) | (with_reducible refine Kd.C_drew ?_))); (case side2 => exact (Kd.R_reads' HO_7.out).2.1); rintro e w' ⟨rfl, ⟨nd, rfl⟩⟩; refine ⟨_, rfl, ?_⟩) | ((with_reducible refine gate_dst (N := 53) rfl ?_); (try (refine gate_guard (by rfl) ?_; dsimp only)); refine Kd.R_lit (Kd.int .i64) _ 3 ?hg (N := 53) ?hd (xs := ([(rd l0 x10_1)] : List Int)) (inner := [.int .i64 (rd l0 x10_1)]) (ok := fun _ => True) (okp := fun _ => True) ?hr ?hp (fun _ hk => hk) trivial (Below.refl _ _) (Nat.le_refl _) (by simp) ?_; (case hd => rfl); (case hg => rfl); (case hr => exact qgcosts_16); (case hp => exact (Reps.one (show Kd.M (Kd.int .i64) _ _ _ (rd l0 x10_1) [.int .i64 (rd l0 x10_1)] from rfl) (Reps.none _ _))); intro v124 w22 ho23 hb hg_ hnew_; clear hg_ hnew_; (first | rw [← Ny123.out] at ho23 | (simp only [Int.reduceToNat] at ho23; rw [← Ny123.out] at ho23)); have n0_ := Aside0.mk (Kd.R_elder' qgcosts_3 (Kd.R_base ho23) hb); have n1_ := Aside0.mk (Kd.R_elder' qgcosts_9 (Kd.R_base ho23) hb); have n2_ := Aside0.mk (Kd.R_elder' qgcosts_10 (Kd.R_base ho23) hb); have n3_ := Aside0.mk (Kd.R_lower (Kd.R_new' (Kd.R_new' (Kd.R_new' ho23 (Kd.R_lt qgcosts_3)) (Kd.R_lt qgcosts_9)) (Kd.R_lt qgcosts_10)) (below_size qgcosts_0)); have n4_ := Aside0.mk (below_step qgcosts_0 hb); clear HO_5; clear HO_6; clear HO_7; clear HB; have HO_5 := n0_; have HO_6 := n1_; have HO_7 := n2_; have HO125 := n3_; have HB := n4_; clear n0_ n1_ n2_ n3_ n4_; clear hb ho23; obtain ⟨Ao24, co24, eo24⟩ := Kd.R_slice HO125.out; subst eo24) | ((with_reducible refine gate_callee (f := 78) rfl ?_); refine goesL_ (some 54) rfl rfl Try.func78 (by kernel_rfl) rfl #[.slice Ao21 x7_1.length co21, .int .i64 t121, .slice Ao24 y123.length co24] rfl qgcosts_6 ?_; (with_reducible refine (slices_Insert_int_int.calls (fun k_ => some k_ = (.slice Ao21 x7_1.length co21 : Value).ownBlock) (.slice Ao21 x7_1.length co21) x7_1 t121 (fun k_ => some k_ = (.slice Ao24 y123.length co24 : Value).ownBlock) (.slice Ao24 y123.length co24) y123 t126 w _ ?side1 ?side2 ?side3 ?side4 ?side5 A20.out).mono ?_); (case side1 => exact qgcosts_0); (case side2 => exact Kd.R_tight rfl HO_7.out); (case side3 => exact fun k_ e_ => (HO_7.out.1 k_ e_.symm).2); (case side4 => exact Kd.R_tight rfl HO125.out); (case side5 => exact fun k_ e_ => (HO125.out.1 k_ e_.symm).2); rintro e w25 ⟨v127, rfl, ho0, hb, hkp⟩; refine ⟨_, rfl, ?_⟩; have n0_ := Aside0.mk (Kd.R_mono (ok' := fun k_ => some k_ ≠ (u6 : Value).ownBlock ∧ some k_ ≠ (v127 : Value).ownBlock) (Kd.R_keptB (HO_5.out) hkp (fun k_ hk_ hs_ => Or.elim hs_ (fun e_ => (hk_.1.2) e_) (fun e_ => (hk_.2) e_))) (fun k_ hk_ => ⟨hk_.1.1.1, fun e_ => Or.elim (ho0.1 k_ e_.symm) (fun hs_ => hk_.2.1 hs_) (fun hn_ => Nat.not_le.2 hk_.2.2 hn_)⟩)); have n1_ := Aside0.mk (Kd.R_mono (ok' := fun k_ => some k_ ≠ (v117 : Value).ownBlock ∧ some k_ ≠ (v127 : Value).ownBlock) (Kd.R_keptB (HO_6.out) hkp (fun k_ hk_ hs_ => Or.elim hs_ (fun e_ => (hk_.1.2) e_) (fun e_ => (hk_.2) e_))) (fun k_ hk_ => ⟨hk_.1.1.1, fun e_ => Or.elim (ho0.1 k_ e_.symm) (fun hs_ => hk_.2.1 hs_) (fun hn_ => Nat.not_le.2 hk_.2.2 hn_)⟩)); have n2_ := Aside0.mk (Kd.R_mono (ok' := fun k_ => some k_ ≠ (v117 : Value).ownBlock ∧ some k_ ≠ (u6 : Value).ownBlock) ho0 (fun k_ hk_ => ⟨Or.elim hk_ (fun hs_ => Or.elim hs_ (fun hs_ => fun e_ => (((HO_5.out).1 k_ e_.symm).1.2) hs_) (fun hs_ => fun e_ => (((HO_5.out).1 k_ e_.symm).2) hs_)) (fun hn_ => (Kd.fresh' (Kd.R_lt qgcosts_3) k_ hn_)), Or.elim hk_ (fun hs_ => Or.elim hs_ (fun hs_ => fun e_ => (((HO_6.out).1 k_ e_.symm).1.2) hs_) (fun hs_ => fun e_ => (((HO_6.out).1 k_ e_.symm).2) hs_)) (fun hn_ => (Kd.fresh' (Kd.R_lt qgcosts_9) k_ hn_))⟩)); have n3_ := Aside0.mk (hb); clear HO_5; clear HO_6; clear HB; clear HO125; clear HO_7; have HO_5 := n0_; have HO_6 := n1_; have HO128 := n2_; have HB := n3_; clear n0_ n1_ n2_ n3_; (try clear hb); (try clear hkp); (try clear ho0)))
     go_meet
     case rel => exact ⟨_, (x6_1), (t126), (x8_1), (wrap64 (x9_1 + (rd l0 x10_1))), qgcosts_12, qgcosts_12, H', ⟨by have := HK1.out; have := HJ9.out; first | omega | exact Nat.le_refl _⟩, ⟨qgcosts_3⟩, ⟨qgcosts_9⟩, ⟨by (with_reducible repeat (first | apply Kd.R_alloc | apply Kd.R_drewN | apply Kd.R_drew)); exact HO128.out⟩, ⟨qgcosts_0⟩⟩
    replace c18 := Bool.eq_false_iff.mpr c18
    subst c18
    have H1 : ((slices_BinarySearch_int_int.f kj9 x6_1 (rd l0 x10_1)).bind fun bt129 => ((slices_Insert_int_int.f x6_1 bt129.1 (([(rd l0 x10_1)] : List Int))).bind fun t134 => (segmentation_costs.j2 kj9 l0 x5_1 t134 x7_1 (wrap64 (x8_1 + (rd l0 x10_1))) x9_1 x10_1))) = some r := by rw [if_neg (show ¬ (false = true) by decide)] at H; exact H
    clear H
    have H := H1
    clear H1
    replace H := Option.bind_eq_some_iff.mp H
    obtain ⟨⟨t129, t130⟩, A260, H⟩ := H
    replace H : ((slices_Insert_int_int.f x6_1 t129 (([(rd l0 x10_1)] : List Int))).bind fun t134 => (segmentation_costs.j2 kj9 l0 x5_1 t134 x7_1 (wrap64 (x8_1 + (rd l0 x10_1))) x9_1 x10_1)) = some r := H
    have A26 := Aside0.mk A260
    clear A260
    obtain ⟨y131, hy131⟩ : ∃ y_ : List Int, y_ = (([(rd l0 x10_1)] : List Int)) := ⟨_, rfl⟩
    replace H : ((slices_Insert_int_int.f x6_1 t129 y131).bind fun t134 => (segmentation_costs.j2 kj9 l0 x5_1 t134 x7_1 (wrap64 (x8_1 + (rd l0 x10_1))) x9_1 x10_1)) = some r := by first | (rw [hy131]; with_reducible exact H) | (have H2_ := (Option.bind_some _ _).symm.trans H; rw [hy131]; with_reducible exact H2_) | (have H2_ := (Option.bind_some _ _).symm.trans H; with_reducible exact H2_) | with_reducible exact H | (rw [hy131]; exact H) | exact H
    have Ny131 := Aside0.mk hy131
    clear hy131
    replace H := Option.bind_eq_some_iff.mp H
    obtain ⟨t134, A270, H⟩ := H
    replace H : (segmentation_costs.j2 kj9 l0 x5_1 t134 x7_1 (wrap64 (x8_1 + (rd l0 x10_1))) x9_1 x10_1) = some r := H
    have A27 := Aside0.mk A270
    clear A270
    have H' := Aside0.mk H
    clear H
    obtain ⟨Ao28, co28, eo28⟩ := Kd.R_slice HO_6.out
    subst eo28
    go_wp2_with (first | ((with_reducible refine gate_callee (f := 77) rfl ?_); refine goesL_ (some 61) rfl rfl Try.func77 (by kernel_rfl) rfl #[.slice Ao28 x6_1.length co28, .int .i64 (rd l0 x10_1)] rfl qgcosts_6 ?_; (with_reducible refine (slices_BinarySearch_int_int.calls kj9 _ _ x6_1 (rd l0 x10_1) t129 t130 _ ?side1 ?side2 A26.out).mono ?_); (case side1 => repeat (first | exact (Kd.R_reads' HO_6.out).2.2 | (with_reducible refine Kd.C_alloc ?_ _) | (with_reducible refine Kd.C_drewN ?_ _) | (with_reducible refine Kd.C_drew ?_))); (case side2 => exact (Kd.R_reads' HO_6.out).2.1); rintro e w' ⟨rfl, ⟨nd, rfl⟩⟩; refine ⟨_, rfl, ?_⟩) | ((with_reducible refine gate_dst (N := 67) rfl ?_); (try (refine gate_guard (by rfl) ?_; dsimp only)); refine Kd.R_lit (Kd.int .i64) _ 3 ?hg (N := 67) ?hd (xs := ([(rd l0 x10_1)] : List Int)) (inner := [.int .i64 (rd l0 x10_1)]) (ok := fun _ => True) (okp := fun _ => True) ?hr ?hp (fun _ hk => hk) trivial (Below.refl _ _) (Nat.le_refl _) (by simp) ?_; (case hd => rfl); (case hg => rfl); (case hr => exact qgcosts_16); (case hp => exact (Reps.one (show Kd.M (Kd.int .i64) _ _ _ (rd l0 x10_1) [.int .i64 (rd l0 x10_1)] from rfl) (Reps.none _ _))); intro v132 w29 ho30 hb hg_ hnew_; clear hg_ hnew_; (first | rw [← Ny131.out] at ho30 | (simp only [Int.reduceToNat] at ho30; rw [← Ny131.out] at ho30)); have n0_ := Aside0.mk (Kd.R_elder' qgcosts_3 (Kd.R_base ho30) hb); have n1_ := Aside0.mk (Kd.R_elder' qgcosts_9 (Kd.R_base ho30) hb); have n2_ := Aside0.mk (Kd.R_elder' qgcosts_10 (Kd.R_base ho30) hb); have n3_ := Aside0.mk (Kd.R_lower (Kd.R_new' (Kd.R_new' (Kd.R_new' ho30 (Kd.R_lt qgcosts_3)) (Kd.R_lt qgcosts_9)) (Kd.R_lt qgcosts_10)) (below_size qgcosts_0)); have n4_ := Aside0.mk (below_step qgcosts_0 hb); clear HO_5; clear HO_6; clear HO_7; clear HB; have HO_5 := n0_; have HO_6 := n1_; have HO_7 := n2_; have HO133 := n3_; have HB := n4_; clear n0_ n1_ n2_ n3_ n4_; clear hb ho30; obtain ⟨Ao31, co31, eo31⟩ := Kd.R_slice HO133.out; subst eo31) | ((with_reducible refine gate_callee (f := 78) rfl ?_); refine goesL_ (some 68) rfl rfl Try.func78 (by kernel_rfl) rfl #[.slice Ao28 x6_1.length co28, .int .i64 t129, .slice Ao31 y131.length co31] rfl qgcosts_6 ?_; (with_reducible refine (slices_Insert_int_int.calls (fun k_ => some k_ = (.slice Ao28 x6_1.length co28 : Value).ownBlock) (.slice Ao28 x6_1.length co28) x6_1 t129 (fun k_ => some k_ = (.slice Ao31 y131.length co31 : Value).ownBlock) (.slice Ao31 y131.length co31) y131 t134 w _ ?side1 ?side2 ?side3 ?side4 ?side5 A27.out).mono ?_); (case side1 => exact qgcosts_0); (case side2 => exact Kd.R_tight rfl HO_6.out); (case side3 => exact fun k_ e_ => (HO_6.out.1 k_ e_.symm).2); (case side4 => exact Kd.R_tight rfl HO133.out); (case side5 => exact fun k_ e_ => (HO133.out.1 k_ e_.symm).1.2); rintro e w32 ⟨v135, rfl, ho0, hb, hkp⟩; refine ⟨_, rfl, ?_⟩; have n0_ := Aside0.mk (Kd.R_mono (ok' := fun k_ => some k_ ≠ (u7 : Value).ownBlock ∧ some k_ ≠ (v135 : Value).ownBlock) (Kd.R_keptB (HO_5.out) hkp (fun k_ hk_ hs_ => Or.elim hs_ (fun e_ => (hk_.1.1) e_) (fun e_ => (hk_.2) e_))) (fun k_ hk_ => ⟨hk_.1.1.2, fun e_ => Or.elim (ho0.1 k_ e_.symm) (fun hs_ => hk_.2.1 hs_) (fun hn_ => Nat.not_le.2 hk_.2.2 hn_)⟩)); have n1_ := Aside0.mk (Kd.R_mono (ok' := fun k_ => some k_ ≠ (v117 : Value).ownBlock ∧ some k_ ≠ (v135 : Value).ownBlock) (Kd.R_keptB (HO_7.out) hkp (fun k_ hk_ hs_ => Or.elim hs_ (fun e_ => (hk_.1.2) e_) (fun e_ => (hk_.2) e_))) (fun k_ hk_ => ⟨hk_.1.1.1, fun e_ => Or.elim (ho0.1 k_ e_.symm) (fun hs_ => hk_.2.1 hs_) (fun hn_ => Nat.not_le.2 hk_.2.2 hn_)⟩)); have n2_ := Aside0.mk (Kd.R_mono (ok' := fun k_ => some k_ ≠ (v117 : Value).ownBlock ∧ some k_ ≠ (u7 : Value).ownBlock) ho0 (fun k_ hk_ => ⟨Or.elim hk_ (fun hs_ => Or.elim hs_ (fun hs_ => fun e_ => (((HO_5.out).1 k_ e_.symm).1.1) hs_) (fun hs_ => fun e_ => (((HO_5.out).1 k_ e_.symm).2) hs_)) (fun hn_ => (Kd.fresh' (Kd.R_lt qgcosts_3) k_ hn_)), Or.elim hk_ (fun hs_ => Or.elim hs_ (fun hs_ => fun e_ => (((HO_7.out).1 k_ e_.symm).1.2) hs_) (fun hs_ => fun e_ => (((HO_7.out).1 k_ e_.symm).2) hs_)) (fun hn_ => (Kd.fresh' (Kd.R_lt qgcosts_10) k_ hn_))⟩)); have n3_ := Aside0.mk (hb); clear HO_5; clear HO_7; clear HB; clear HO133; clear HO_6; have HO_5 := n0_; have HO_7 := n1_; have HO136 := n2_; have HB := n3_; clear n0_ n1_ n2_ n3_; (try clear hb); (try clear hkp); (try clear ho0)))
    go_meet
    case rel => exact ⟨_, (t134), (x7_1), (wrap64 (x8_1 + (rd l0 x10_1))), (x9_1), qgcosts_12, qgcosts_12, H', ⟨by have := HK1.out; have := HJ9.out; first | omega | exact Nat.le_refl _⟩, ⟨qgcosts_19⟩, ⟨by (with_reducible repeat (first | apply Kd.R_alloc | apply Kd.R_drewN | apply Kd.R_drew)); exact HO136.out⟩, ⟨qgcosts_10⟩, ⟨qgcosts_0⟩⟩
   clear HC17
   try clear c1
   try clear p1
   try clear q1
   try clear hx1
   try clear p2
   try clear c3
   try clear c3b0
   try clear c3b1
   try clear c4
   try clear c4b0
   try clear c4b1
   try clear c6
   try clear p6
   try clear c7
   try clear c7b0
   try clear c8
   try clear c8b0
   try clear c9
   try clear c9b0
   try clear c11
   try clear c11b0
   try clear c11b1
   try clear p11
   try clear q11
   try clear hx11
   try clear p12
   try clear q12
   try clear hx12
   try clear c13
   try clear c13b0
   try clear c14
   try clear c14b0
   try clear c18
   try clear hx119_0
   try clear hx120_0
   try clear p1
   try clear p11
   try clear p119
   try clear p12
   try clear p120
   try clear p2
   try clear p6
   try clear q1
   try clear q11
   try clear q119
   try clear q12
   try clear q120
   obtain ⟨kq, x6_16, x7_16, x8_16, x9_16, rfl, rfl, HA, HJ16, HO_5, HO_6, HO_7, HB⟩ := hcut
   cases kq with
   | zero => exact absurd HA.out (by simp [segmentation_costs.j2])
   | succ kj16 =>
    have H := HA.out
    clear HA
    simp only [segmentation_costs.j2] at H
    by_cases c33 : (x6_16.length : Int) > (wrap64 ((x7_16.length : Int) + 1))
    ·rw [if_pos c33] at H
     have c33b0 : decide ((wrap64 ((x7_16.length : Int) + 1)) < (x6_16.length : Int)) = true := decide_eq_true c33
     clear c33
     obtain ⟨ji34, hji34⟩ : ∃ j_ : Int, (wrap64 ((x6_16.length : Int) - 1)) = j_ := ⟨_, rfl⟩
     replace H : (if 0 ≤ (ji34) then (if (ji34) < (x6_16.length : Int) then (if (ji34) ≤ (x6_16.length : Int) then ((some (x6_16.take ((ji34) : Int).toNat : List Int)).bind fun y138 => ((slices_Insert_int_int.f x7_16 0 (([rd x6_16 (ji34)] : List Int))).bind fun t144 => (if 0 ≤ (wrap64 ((y138.length : Int) - 1)) then (if (wrap64 ((y138.length : Int) - 1)) < (y138.length : Int) then (if 0 ≤ x10_1 then (if x10_1 < (x5_1.length : Int) then (segmentation_costs.l0 kj16 l0 (x5_1.set (x10_1 : Int).toNat (wrap64 ((wrap64 ((wrap64 ((wrap64 ((rd y138 (wrap64 ((y138.length : Int) - 1))) * (y138.length : Int))) - (wrap64 (x8_16 - (rd x6_16 (ji34)))))) + (wrap64 (x9_16 + (rd x6_16 (ji34)))))) - (wrap64 ((rd y138 (wrap64 ((y138.length : Int) - 1))) * (t144.length : Int)))))) y138 t144 (wrap64 (x8_16 - (rd x6_16 (ji34)))) (wrap64 (x9_16 + (rd x6_16 (ji34)))) (wrap64 (x10_1 - 1))) else (none)) else (none)) else (none)) else (none)))) else (none)) else (none)) else (none)) = some r := by first | (rw [hji34] at H; exact H) | (simp only [hji34] at H ⊢; exact H)
     have hji34w : (IntKind.i64.wrap ((x6_16.length : Int) - 1)) = ji34 := (i64_w _).trans hji34
     by_cases c35 : 0 ≤ (ji34)
     rotate_left
     ·rw [if_neg c35] at H
      exact absurd H (by simp)
     rw [if_pos c35] at H
     have c35b0 : decide (0 ≤ (ji34)) = true := decide_eq_true c35
     clear c35
     by_cases c36 : (ji34) < (x6_16.length : Int)
     rotate_left
     ·rw [if_neg c36] at H
      exact absurd H (by simp)
     rw [if_pos c36] at H
     have c36b0 : decide ((ji34) < (x6_16.length : Int)) = true := decide_eq_true c36
     clear c36
     by_cases c37 : (ji34) ≤ (x6_16.length : Int)
     rotate_left
     ·rw [if_neg c37] at H
      exact absurd H (by simp)
     rw [if_pos c37] at H
     have c37b0 := eq_true c37
     have c37b1 : decide ((ji34) ≤ (x6_16.length : Int)) = true := decide_eq_true c37
     clear c37
     obtain ⟨y138, hy138⟩ : ∃ y_ : List Int, y_ = (x6_16.take ((ji34) : Int).toNat) := ⟨_, rfl⟩
     replace H : ((slices_Insert_int_int.f x7_16 0 (([rd x6_16 (ji34)] : List Int))).bind fun t144 => (if 0 ≤ (wrap64 ((y138.length : Int) - 1)) then (if (wrap64 ((y138.length : Int) - 1)) < (y138.length : Int) then (if 0 ≤ x10_1 then (if x10_1 < (x5_1.length : Int) then (segmentation_costs.l0 kj16 l0 (x5_1.set (x10_1 : Int).toNat (wrap64 ((wrap64 ((wrap64 ((wrap64 ((rd y138 (wrap64 ((y138.length : Int) - 1))) * (y138.length : Int))) - (wrap64 (x8_16 - (rd x6_16 (ji34)))))) + (wrap64 (x9_16 + (rd x6_16 (ji34)))))) - (wrap64 ((rd y138 (wrap64 ((y138.length : Int) - 1))) * (t144.length : Int)))))) y138 t144 (wrap64 (x8_16 - (rd x6_16 (ji34)))) (wrap64 (x9_16 + (rd x6_16 (ji34)))) (wrap64 (x10_1 - 1))) else (none)) else (none)) else (none)) else (none))) = some r := by first | (rw [hy138]; with_reducible exact H) | (have H2_ := (Option.bind_some _ _).symm.trans H; rw [hy138]; with_reducible exact H2_) | (have H2_ := (Option.bind_some _ _).symm.trans H; with_reducible exact H2_) | with_reducible exact H | (rw [hy138]; exact H) | exact H
     have Ny138 := Aside0.mk hy138
     clear hy138
     obtain ⟨y141, hy141⟩ : ∃ y_ : List Int, y_ = (([rd x6_16 (ji34)] : List Int)) := ⟨_, rfl⟩
     replace H : ((slices_Insert_int_int.f x7_16 0 y141).bind fun t144 => (if 0 ≤ (wrap64 ((y138.length : Int) - 1)) then (if (wrap64 ((y138.length : Int) - 1)) < (y138.length : Int) then (if 0 ≤ x10_1 then (if x10_1 < (x5_1.length : Int) then (segmentation_costs.l0 kj16 l0 (x5_1.set (x10_1 : Int).toNat (wrap64 ((wrap64 ((wrap64 ((wrap64 ((rd y138 (wrap64 ((y138.length : Int) - 1))) * (y138.length : Int))) - (wrap64 (x8_16 - (rd x6_16 (ji34)))))) + (wrap64 (x9_16 + (rd x6_16 (ji34)))))) - (wrap64 ((rd y138 (wrap64 ((y138.length : Int) - 1))) * (t144.length : Int)))))) y138 t144 (wrap64 (x8_16 - (rd x6_16 (ji34)))) (wrap64 (x9_16 + (rd x6_16 (ji34)))) (wrap64 (x10_1 - 1))) else (none)) else (none)) else (none)) else (none))) = some r := by first | (rw [hy141]; with_reducible exact H) | (have H2_ := (Option.bind_some _ _).symm.trans H; rw [hy141]; with_reducible exact H2_) | (have H2_ := (Option.bind_some _ _).symm.trans H; with_reducible exact H2_) | with_reducible exact H | (rw [hy141]; exact H) | exact H
     have Ny141 := Aside0.mk hy141
     clear hy141
     replace H := Option.bind_eq_some_iff.mp H
     obtain ⟨t144, A380, H⟩ := H
     replace H : (if 0 ≤ (wrap64 ((y138.length : Int) - 1)) then (if (wrap64 ((y138.length : Int) - 1)) < (y138.length : Int) then (if 0 ≤ x10_1 then (if x10_1 < (x5_1.length : Int) then (segmentation_costs.l0 kj16 l0 (x5_1.set (x10_1 : Int).toNat (wrap64 ((wrap64 ((wrap64 ((wrap64 ((rd y138 (wrap64 ((y138.length : Int) - 1))) * (y138.length : Int))) - (wrap64 (x8_16 - (rd x6_16 (ji34)))))) + (wrap64 (x9_16 + (rd x6_16 (ji34)))))) - (wrap64 ((rd y138 (wrap64 ((y138.length : Int) - 1))) * (t144.length : Int)))))) y138 t144 (wrap64 (x8_16 - (rd x6_16 (ji34)))) (wrap64 (x9_16 + (rd x6_16 (ji34)))) (wrap64 (x10_1 - 1))) else (none)) else (none)) else (none)) else (none)) = some r := H
     have A38 := Aside0.mk A380
     clear A380
     obtain ⟨ji39, hji39⟩ : ∃ j_ : Int, (wrap64 ((y138.length : Int) - 1)) = j_ := ⟨_, rfl⟩
     replace H : (if 0 ≤ (ji39) then (if (ji39) < (y138.length : Int) then (if 0 ≤ x10_1 then (if x10_1 < (x5_1.length : Int) then (segmentation_costs.l0 kj16 l0 (x5_1.set (x10_1 : Int).toNat (wrap64 ((wrap64 ((wrap64 ((wrap64 ((rd y138 (ji39)) * (y138.length : Int))) - (wrap64 (x8_16 - (rd x6_16 (ji34)))))) + (wrap64 (x9_16 + (rd x6_16 (ji34)))))) - (wrap64 ((rd y138 (ji39)) * (t144.length : Int)))))) y138 t144 (wrap64 (x8_16 - (rd x6_16 (ji34)))) (wrap64 (x9_16 + (rd x6_16 (ji34)))) (wrap64 (x10_1 - 1))) else (none)) else (none)) else (none)) else (none)) = some r := by first | (rw [hji39] at H; exact H) | (simp only [hji39] at H ⊢; exact H)
     (try rw [hji39] at A38)
     have hji39w : (IntKind.i64.wrap ((y138.length : Int) - 1)) = ji39 := (i64_w _).trans hji39
     by_cases c40 : 0 ≤ (ji39)
     rotate_left
     ·rw [if_neg c40] at H
      exact absurd H (by simp)
     rw [if_pos c40] at H
     have c40b0 : decide (0 ≤ (ji39)) = true := decide_eq_true c40
     clear c40
     by_cases c41 : (ji39) < (y138.length : Int)
     rotate_left
     ·rw [if_neg c41] at H
      exact absurd H (by simp)
     rw [if_pos c41] at H
     have c41b0 : decide ((ji39) < (y138.length : Int)) = true := decide_eq_true c41
     clear c41
     by_cases c42 : 0 ≤ x10_1
     rotate_left
     ·rw [if_neg c42] at H
      exact absurd H (by simp)
     rw [if_pos c42] at H
     have c42b0 : decide (0 ≤ x10_1) = true := decide_eq_true c42
     clear c42
     by_cases c43 : x10_1 < (x5_1.length : Int)
     rotate_left
     ·rw [if_neg c43] at H
      exact absurd H (by simp)
     rw [if_pos c43] at H
     have c43b0 : decide (x10_1 < (x5_1.length : Int)) = true := decide_eq_true c43
     clear c43
     obtain ⟨y148, hy148⟩ : ∃ y_ : List Int, y_ = (x5_1.set (x10_1 : Int).toNat (wrap64 ((wrap64 ((wrap64 ((wrap64 ((rd y138 (ji39)) * (y138.length : Int))) - (wrap64 (x8_16 - (rd x6_16 (ji34)))))) + (wrap64 (x9_16 + (rd x6_16 (ji34)))))) - (wrap64 ((rd y138 (ji39)) * (t144.length : Int)))))) := ⟨_, rfl⟩
     replace H : (segmentation_costs.l0 kj16 l0 y148 y138 t144 (wrap64 (x8_16 - (rd x6_16 (ji34)))) (wrap64 (x9_16 + (rd x6_16 (ji34)))) (wrap64 (x10_1 - 1))) = some r := by first | (rw [hy148]; with_reducible exact H) | (have H2_ := (Option.bind_some _ _).symm.trans H; rw [hy148]; with_reducible exact H2_) | (have H2_ := (Option.bind_some _ _).symm.trans H; with_reducible exact H2_) | with_reducible exact H | (rw [hy148]; exact H) | exact H
     have Ny148 := Aside0.mk hy148
     clear hy148
     have H' := Aside0.mk H
     clear H
     obtain ⟨Ao45, co45, eo45⟩ := Kd.R_slice HO_6.out
     subst eo45
     obtain ⟨Ao46, co46, eo46⟩ := Kd.R_slice HO_7.out
     subst eo46
     have p137 : 0 ≤ ((ji34) : Int) := of_decide_eq_true qgcosts_1
     have q137 : (ji34) < (x6_16.length : Int) := of_decide_eq_true qgcosts_1
     obtain ⟨ad137, e137, hx137_0⟩ := Kd.at_int (Kd.R_reads' HO_6.out).2.2 (ji34) p137 q137
     cases e137
     replace p137 := eq_true p137
     replace q137 := eq_true q137
     have q47 : ((ji34) : Int) ≤ ((x6_16.length : Int) : Int) := of_decide_eq_true qgcosts_1
     obtain ⟨i047, hi047, _, hsz47, _⟩ := info_parts info3
     have hcut47 := cut_to (P := Try.prog) 26 3 .i64 Try.underlying26 hi047 (some ad137) x6_16.length co45 (ji34) (of_decide_eq_true qgcosts_1) q47 (Kd.R_reads' HO_6.out).2.1
     have hr47 := Kd.R_take (m := ((ji34) : Int).toNat) HO_6.out (by omega)
     have hy47 : y138.length = ((ji34) : Int).toNat := (by rw [Ny138.out, List.length_take]; omega)
     rw [← Ny138.out] at hr47
     rw [← hy47] at hr47 hcut47
     clear hy47 hi047 hsz47 HO_6
     have HO140 := Aside0.mk hr47
     clear hr47
     replace q47 := eq_true q47
     go_wp2_with (first | ((with_reducible refine gate_dst (N := 94) rfl ?_); (try (refine gate_guard (by rfl) ?_; dsimp only)); refine Kd.R_lit (Kd.int .i64) _ 3 ?hg (N := 94) ?hd (xs := ([rd x6_16 (ji34)] : List Int)) (inner := [.int .i64 (rd x6_16 (ji34))]) (ok := fun _ => True) (okp := fun _ => True) ?hr ?hp (fun _ hk => hk) trivial (Below.refl _ _) (Nat.le_refl _) (by simp) ?_; (case hd => rfl); (case hg => rfl); (case hr => exact qgcosts_16); (case hp => exact (Reps.one (show Kd.M (Kd.int .i64) _ _ _ (rd x6_16 (ji34)) [.int .i64 (rd x6_16 (ji34))] from rfl) (Reps.none _ _))); intro v142 w48 ho49 hb hg_ hnew_; clear hg_ hnew_; (first | rw [← Ny141.out] at ho49 | (simp only [Int.reduceToNat] at ho49; rw [← Ny141.out] at ho49)); have n0_ := Aside0.mk (Kd.R_elder' qgcosts_3 (Kd.R_base ho49) hb); have n1_ := Aside0.mk (Kd.R_elder' qgcosts_21 (Kd.R_base ho49) hb); have n2_ := Aside0.mk (Kd.R_elder' qgcosts_10 (Kd.R_base ho49) hb); have n3_ := Aside0.mk (Kd.R_lower (Kd.R_new' (Kd.R_new' (Kd.R_new' ho49 (Kd.R_lt qgcosts_3)) (Kd.R_lt qgcosts_21)) (Kd.R_lt qgcosts_10)) (below_size qgcosts_0)); have n4_ := Aside0.mk (below_step qgcosts_0 hb); clear HO_5; clear HO140; clear HO_7; clear HB; have HO_5 := n0_; have HO140 := n1_; have HO_7 := n2_; have HO143 := n3_; have HB := n4_; clear n0_ n1_ n2_ n3_ n4_; clear hb ho49; obtain ⟨Ao50, co50, eo50⟩ := Kd.R_slice HO143.out; subst eo50) | ((with_reducible refine gate_callee (f := 78) rfl ?_); refine goesL_ (some 95) rfl rfl Try.func78 (by kernel_rfl) rfl #[.slice Ao46 x7_16.length co46, .int .i64 0, .slice Ao50 y141.length co50] rfl qgcosts_6 ?_; (with_reducible refine (slices_Insert_int_int.calls (fun k_ => some k_ = (.slice Ao46 x7_16.length co46 : Value).ownBlock) (.slice Ao46 x7_16.length co46) x7_16 0 (fun k_ => some k_ = (.slice Ao50 y141.length co50 : Value).ownBlock) (.slice Ao50 y141.length co50) y141 t144 w _ ?side1 ?side2 ?side3 ?side4 ?side5 A38.out).mono ?_); (case side1 => exact qgcosts_0); (case side2 => exact Kd.R_tight rfl HO_7.out); (case side3 => exact fun k_ e_ => (HO_7.out.1 k_ e_.symm).2); (case side4 => exact Kd.R_tight rfl HO143.out); (case side5 => exact fun k_ e_ => (HO143.out.1 k_ e_.symm).2); rintro e w51 ⟨v145, rfl, ho0, hb, hkp⟩; refine ⟨_, rfl, ?_⟩; have n0_ := Aside0.mk (Kd.R_mono (ok' := fun k_ => some k_ ≠ (.slice (some ad137) y138.length co45 : Value).ownBlock ∧ some k_ ≠ (v145 : Value).ownBlock) (Kd.R_keptB (HO_5.out) hkp (fun k_ hk_ hs_ => Or.elim hs_ (fun e_ => (hk_.1.2) e_) (fun e_ => (hk_.2) e_))) (fun k_ hk_ => ⟨hk_.1.1.1, fun e_ => Or.elim (ho0.1 k_ e_.symm) (fun hs_ => hk_.2.1 hs_) (fun hn_ => Nat.not_le.2 hk_.2.2 hn_)⟩)); have n1_ := Aside0.mk (Kd.R_mono (ok' := fun k_ => some k_ ≠ (v117 : Value).ownBlock ∧ some k_ ≠ (v145 : Value).ownBlock) (Kd.R_keptB (HO140.out) hkp (fun k_ hk_ hs_ => Or.elim hs_ (fun e_ => (hk_.1.2) e_) (fun e_ => (hk_.2) e_))) (fun k_ hk_ => ⟨hk_.1.1.1, fun e_ => Or.elim (ho0.1 k_ e_.symm) (fun hs_ => hk_.2.1 hs_) (fun hn_ => Nat.not_le.2 hk_.2.2 hn_)⟩)); have n2_ := Aside0.mk (Kd.R_mono (ok' := fun k_ => some k_ ≠ (v117 : Value).ownBlock ∧ some k_ ≠ (.slice (some ad137) y138.length co45 : Value).ownBlock) ho0 (fun k_ hk_ => ⟨Or.elim hk_ (fun hs_ => Or.elim hs_ (fun hs_ => fun e_ => (((HO_5.out).1 k_ e_.symm).1.2) hs_) (fun hs_ => fun e_ => (((HO_5.out).1 k_ e_.symm).2) hs_)) (fun hn_ => (Kd.fresh' (Kd.R_lt qgcosts_3) k_ hn_)), Or.elim hk_ (fun hs_ => Or.elim hs_ (fun hs_ => fun e_ => (((HO140.out).1 k_ e_.symm).1.2) hs_) (fun hs_ => fun e_ => (((HO140.out).1 k_ e_.symm).2) hs_)) (fun hn_ => (Kd.fresh' (Kd.R_lt qgcosts_21) k_ hn_))⟩)); have n3_ := Aside0.mk (hb); clear HO_5; clear HO140; clear HB; clear HO143; clear HO_7; have HO_5 := n0_; have HO140 := n1_; have HO146 := n2_; have HB := n3_; clear n0_ n1_ n2_ n3_; (try clear hb); (try clear hkp); (try clear ho0); have p147 : 0 ≤ ((ji39) : Int) := of_decide_eq_true qgcosts_1; have q147 : (ji39) < (y138.length : Int) := of_decide_eq_true qgcosts_1; obtain ⟨ad147, e147, hx147_0⟩ := Kd.at_int (Kd.R_reads' HO140.out).2.2 (ji39) p147 q147; obtain rfl : ad137 = ad147 := (by injection e147); replace p147 := eq_true p147; replace q147 := eq_true q147; obtain ⟨Ao52, co52, eo52⟩ := Kd.R_slice HO146.out; subst eo52; have p44 : 0 ≤ (x10_1 : Int) := of_decide_eq_true qgcosts_1; have q44 : (x10_1 : Int) < ((x5_1.length : Int) : Int) := of_decide_eq_true qgcosts_1; obtain ⟨go44, co44, eo44, gb44, gl44, cl44, HG44⟩ := Kd.R_form HO_5.out (by omega); (first | cases eo44 | (injection eo44 with ea_ en_ ec_; (first | subst ea_ | (injection ea_ with ea_; subst ea_)); subst ec_; clear en_)); have GB44 := Aside0.mk gb44; have GG44 := Aside0.mk HG44; clear gb44 gl44 HG44; obtain ⟨hx44_0, hf44_0⟩ := Kd.R_celln 0 HO_5.out (x10_1 : Int) p44 q44; replace p44 := eq_true p44; replace q44 := eq_true q44; obtain ⟨hy53_, hz53_⟩ := Kd.R_celln 0 HO_5.out (x10_1 : Int) (of_decide_eq_true qgcosts_1) (of_decide_eq_true qgcosts_1); have HP53 := Kd.R_putg HO_5.out (x10_1 : Int) (wrap64 ((wrap64 ((wrap64 ((wrap64 ((rd y138 (ji39)) * (y138.length : Int))) - (wrap64 (x8_16 - (rd x6_16 (ji34)))))) + (wrap64 (x9_16 + (rd x6_16 (ji34)))))) - (wrap64 ((rd y138 (ji39)) * (t144.length : Int)))))) | ((with_reducible refine gate_store (t := 3) (p := 140) rfl ?_); refine store_event (t := 3) (p := 140) (v := ?vo_w54) (w1 := (w51.setCell ⟨go44, (x10_1 : Int).toNat, none⟩ (.int .i64 (wrap64 ((wrap64 ((wrap64 ((wrap64 ((rd y138 (ji39)) * (y138.length : Int))) - (wrap64 (x8_16 - (rd x6_16 (ji34)))))) + (wrap64 (x9_16 + (rd x6_16 (ji34)))))) - (wrap64 ((rd y138 (ji39)) * (t144.length : Int)))))))) ?hg ?ho ?hn ?hr ?_; (case ho => rfl); (case hg => rfl); (case hn => rfl); (case hr => exact qgcosts_16); intro w54 hw; have hg : w51.grownBy w54 (some go44) := (by rw [hw]; exact HP53.2); have hp_ : Kd.R (Kd.int .i64) 3 w54 w.heap.size (fun k_ => some k_ ≠ (.slice (some ad137) y138.length co45 : Value).ownBlock ∧ some k_ ≠ (.slice Ao52 t144.length co52 : Value).ownBlock) (.slice (some ⟨go44, 0, none⟩) x5_1.length co44) y148 := (by rw [hw, Ny148.out]; exact HP53.1); clear HP53; have n0_ := Aside0.mk (hp_); have n1_ := Aside0.mk (Kd.R_after (v := (.slice (some ⟨go44, 0, none⟩) x5_1.length co44)) (v1 := (.slice (some ⟨go44, 0, none⟩) x5_1.length co44)) (ok := (fun k_ => some k_ ≠ (.slice Ao52 t144.length co52 : Value).ownBlock)) qgcosts_22 hg (.inl rfl)); have n2_ := Aside0.mk (Kd.R_after (v := (.slice (some ⟨go44, 0, none⟩) x5_1.length co44)) (v1 := (.slice (some ⟨go44, 0, none⟩) x5_1.length co44)) (ok := (fun k_ => some k_ ≠ (.slice (some ad137) y138.length co45 : Value).ownBlock)) qgcosts_23 hg (.inl rfl)); have n3_ := Aside0.mk ((by rw [hw]; exact below_set (HB.out) GB44.out : Below w.heap.size w w54)); clear HO_5; clear HO140; clear HO146; clear HB; have HO_5 := n0_; have HO140 := n1_; have HO146 := n2_; have HB := n3_; clear n0_ n1_ n2_ n3_; clear hg hw hp_))
     go_roundg kj16
     case measure => have := HK1.out; have := HJ9.out; have := HJ16.out; omega
     case rel => exact ⟨(y148), (y138), (t144), (wrap64 (x8_16 - (rd x6_16 (ji34)))), (wrap64 (x9_16 + (rd x6_16 (ji34)))), (wrap64 (x10_1 - 1)), (by first | rfl | (simp; done) | (simp only [← hji34] <;> (first | rfl | simp)) | (simp [*]; done)), (by first | rfl | (simp; done) | (simp only [← hji34] <;> (first | rfl | simp)) | (simp [*]; done)), qgcosts_12, H', ⟨by have := HK1.out; have := HJ9.out; have := HJ16.out; omega⟩, ⟨qgcosts_3⟩, ⟨qgcosts_22⟩, ⟨qgcosts_23⟩, ⟨qgcosts_0⟩⟩
    rw [if_neg c33] at H
    have c33b0 : decide ((wrap64 ((x7_16.length : Int) + 1)) < (x6_16.length : Int)) = false := decide_eq_false c33
    clear c33
    by_cases c55 : (x6_16.length : Int) < (x7_16.length : Int)
    rotate_left
    ·rw [if_neg c55] at H
     have c55b0 : decide ((x6_16.length : Int) < (x7_16.length : Int)) = false := decide_eq_false c55
     have c55b1 : decide (x6_16.length < x7_16.length) = false := decide_eq_false (fun h => c55 (Int.ofNat_lt.mpr h))
     clear c55
     obtain ⟨ji73, hji73⟩ : ∃ j_ : Int, (wrap64 ((x6_16.length : Int) - 1)) = j_ := ⟨_, rfl⟩
     replace H : (if 0 ≤ (ji73) then (if (ji73) < (x6_16.length : Int) then (if 0 ≤ x10_1 then (if x10_1 < (x5_1.length : Int) then (segmentation_costs.l0 kj16 l0 (x5_1.set (x10_1 : Int).toNat (wrap64 ((wrap64 ((wrap64 ((wrap64 ((rd x6_16 (ji73)) * (x6_16.length : Int))) - x8_16)) + x9_16)) - (wrap64 ((rd x6_16 (ji73)) * (x7_16.length : Int)))))) x6_16 x7_16 x8_16 x9_16 (wrap64 (x10_1 - 1))) else (none)) else (none)) else (none)) else (none)) = some r := by first | (rw [hji73] at H; exact H) | (simp only [hji73] at H ⊢; exact H)
     have hji73w : (IntKind.i64.wrap ((x6_16.length : Int) - 1)) = ji73 := (i64_w _).trans hji73
     by_cases c74 : 0 ≤ (ji73)
     rotate_left
     ·rw [if_neg c74] at H
      exact absurd H (by simp)
     rw [if_pos c74] at H
     have c74b0 : decide (0 ≤ (ji73)) = true := decide_eq_true c74
     clear c74
     by_cases c75 : (ji73) < (x6_16.length : Int)
     rotate_left
     ·rw [if_neg c75] at H
      exact absurd H (by simp)
     rw [if_pos c75] at H
     have c75b0 : decide ((ji73) < (x6_16.length : Int)) = true := decide_eq_true c75
     clear c75
     by_cases c76 : 0 ≤ x10_1
     rotate_left
     ·rw [if_neg c76] at H
      exact absurd H (by simp)
     rw [if_pos c76] at H
     have c76b0 : decide (0 ≤ x10_1) = true := decide_eq_true c76
     clear c76
     by_cases c77 : x10_1 < (x5_1.length : Int)
     rotate_left
     ·rw [if_neg c77] at H
      exact absurd H (by simp)
     rw [if_pos c77] at H
     have c77b0 : decide (x10_1 < (x5_1.length : Int)) = true := decide_eq_true c77
     clear c77
     obtain ⟨y159, hy159⟩ : ∃ y_ : List Int, y_ = (x5_1.set (x10_1 : Int).toNat (wrap64 ((wrap64 ((wrap64 ((wrap64 ((rd x6_16 (ji73)) * (x6_16.length : Int))) - x8_16)) + x9_16)) - (wrap64 ((rd x6_16 (ji73)) * (x7_16.length : Int)))))) := ⟨_, rfl⟩
     replace H : (segmentation_costs.l0 kj16 l0 y159 x6_16 x7_16 x8_16 x9_16 (wrap64 (x10_1 - 1))) = some r := by first | (rw [hy159]; with_reducible exact H) | (have H2_ := (Option.bind_some _ _).symm.trans H; rw [hy159]; with_reducible exact H2_) | (have H2_ := (Option.bind_some _ _).symm.trans H; with_reducible exact H2_) | with_reducible exact H | (rw [hy159]; exact H) | exact H
     have Ny159 := Aside0.mk hy159
     clear hy159
     have H' := Aside0.mk H
     clear H
     obtain ⟨Ao79, co79, eo79⟩ := Kd.R_slice HO_6.out
     subst eo79
     obtain ⟨Ao80, co80, eo80⟩ := Kd.R_slice HO_7.out
     subst eo80
     have p158 : 0 ≤ ((ji73) : Int) := of_decide_eq_true qgcosts_1
     have q158 : (ji73) < (x6_16.length : Int) := of_decide_eq_true qgcosts_1
     obtain ⟨ad158, e158, hx158_0⟩ := Kd.at_int (Kd.R_reads' HO_6.out).2.2 (ji73) p158 q158
     cases e158
     replace p158 := eq_true p158
     replace q158 := eq_true q158
     have p78 : 0 ≤ (x10_1 : Int) := of_decide_eq_true qgcosts_1
     have q78 : (x10_1 : Int) < ((x5_1.length : Int) : Int) := of_decide_eq_true qgcosts_1
     obtain ⟨go78, co78, eo78, gb78, gl78, cl78, HG78⟩ := Kd.R_form HO_5.out (by omega)
     (first | cases eo78 | (injection eo78 with ea_ en_ ec_; (first | subst ea_ | (injection ea_ with ea_; subst ea_)); subst ec_; clear en_))
     have GB78 := Aside0.mk gb78
     have GG78 := Aside0.mk HG78
     clear gb78 gl78 HG78
     obtain ⟨hx78_0, hf78_0⟩ := Kd.R_celln 0 HO_5.out (x10_1 : Int) p78 q78
     replace p78 := eq_true p78
     replace q78 := eq_true q78
     have HP81 := Kd.R_putg HO_5.out (x10_1 : Int) (wrap64 ((wrap64 ((wrap64 ((wrap64 ((rd x6_16 (ji73)) * (x6_16.length : Int))) - x8_16)) + x9_16)) - (wrap64 ((rd x6_16 (ji73)) * (x7_16.length : Int)))))
     go_wp2_with (first | ((with_reducible refine gate_store (t := 3) (p := 140) rfl ?_); refine store_event (t := 3) (p := 140) (v := ?vo_w82) (w1 := (wc.setCell ⟨go78, (x10_1 : Int).toNat, none⟩ (.int .i64 (wrap64 ((wrap64 ((wrap64 ((wrap64 ((rd x6_16 (ji73)) * (x6_16.length : Int))) - x8_16)) + x9_16)) - (wrap64 ((rd x6_16 (ji73)) * (x7_16.length : Int)))))))) ?hg ?ho ?hn ?hr ?_; (case ho => rfl); (case hg => rfl); (case hn => rfl); (case hr => exact qgcosts_16); intro w82 hw; have hg : wc.grownBy w82 (some go78) := (by rw [hw]; exact HP81.2); have hp_ : Kd.R (Kd.int .i64) 3 w82 w.heap.size (fun k_ => some k_ ≠ (.slice (some ad158) x6_16.length co79 : Value).ownBlock ∧ some k_ ≠ (.slice Ao80 x7_16.length co80 : Value).ownBlock) (.slice (some ⟨go78, 0, none⟩) x5_1.length co78) y159 := (by rw [hw, Ny159.out]; exact HP81.1); clear HP81; have n0_ := Aside0.mk (hp_); have n1_ := Aside0.mk (Kd.R_after (v := (.slice (some ⟨go78, 0, none⟩) x5_1.length co78)) (v1 := (.slice (some ⟨go78, 0, none⟩) x5_1.length co78)) (ok := (fun k_ => some k_ ≠ (.slice Ao80 x7_16.length co80 : Value).ownBlock)) qgcosts_26 hg (.inl rfl)); have n2_ := Aside0.mk (Kd.R_after (v := (.slice (some ⟨go78, 0, none⟩) x5_1.length co78)) (v1 := (.slice (some ⟨go78, 0, none⟩) x5_1.length co78)) (ok := (fun k_ => some k_ ≠ (.slice (some ad158) x6_16.length co79 : Value).ownBlock)) qgcosts_27 hg (.inl rfl)); have n3_ := Aside0.mk ((by rw [hw]; exact below_set (HB.out) GB78.out : Below w.heap.size w w82)); clear HO_5; clear HO_6; clear HO_7; clear HB; have HO_5 := n0_; have HO_6 := n1_; have HO_7 := n2_; have HB := n3_; clear n0_ n1_ n2_ n3_; clear hg hw hp_))
     go_roundg kj16
     case measure => have := HK1.out; have := HJ9.out; have := HJ16.out; omega
     case rel => exact ⟨(y159), (x6_16), (x7_16), (x8_16), (x9_16), (wrap64 (x10_1 - 1)), qgcosts_12, qgcosts_12, qgcosts_12, H', ⟨by have := HK1.out; have := HJ9.out; have := HJ16.out; omega⟩, ⟨qgcosts_3⟩, ⟨qgcosts_26⟩, ⟨qgcosts_27⟩, ⟨qgcosts_0⟩⟩
    rw [if_pos c55] at H
    have c55b0 : decide ((x6_16.length : Int) < (x7_16.length : Int)) = true := decide_eq_true c55
    have c55b1 : decide (x6_16.length < x7_16.length) = true := decide_eq_true (Int.ofNat_lt.mp c55)
    clear c55
    by_cases c56 : 0 < (x7_16.length : Int)
    rotate_left
    ·rw [if_neg c56] at H
     exact absurd H (by simp)
    rw [if_pos c56] at H
    have c56b0 : decide (0 < (x7_16.length : Int)) = true := decide_eq_true c56
    have c56b1 : decide (0 < x7_16.length) = true := decide_eq_true (by omega)
    clear c56
    replace H := Option.bind_eq_some_iff.mp H
    obtain ⟨t150, A570, H⟩ := H
    replace H : (if x6_16.length < 17592186044416 then ((some (x6_16 ++ [rd x7_16 0] : List Int)).bind fun y153 => (if 0 ≤ (wrap64 ((y153.length : Int) - 1)) then (if (wrap64 ((y153.length : Int) - 1)) < (y153.length : Int) then (if 0 ≤ x10_1 then (if x10_1 < (x5_1.length : Int) then (segmentation_costs.l0 kj16 l0 (x5_1.set (x10_1 : Int).toNat (wrap64 ((wrap64 ((wrap64 ((wrap64 ((rd y153 (wrap64 ((y153.length : Int) - 1))) * (y153.length : Int))) - (wrap64 (x8_16 + (rd x7_16 0))))) + (wrap64 (x9_16 - (rd x7_16 0))))) - (wrap64 ((rd y153 (wrap64 ((y153.length : Int) - 1))) * (t150.length : Int)))))) y153 t150 (wrap64 (x8_16 + (rd x7_16 0))) (wrap64 (x9_16 - (rd x7_16 0))) (wrap64 (x10_1 - 1))) else (none)) else (none)) else (none)) else (none))) else (none)) = some r := H
    have A57 := Aside0.mk A570
    clear A570
    by_cases c58 : x6_16.length < 17592186044416
    rotate_left
    ·rw [if_neg c58] at H
     exact absurd H (by simp)
    rw [if_pos c58] at H
    have LMc58 := Aside0.mk c58
    clear c58
    obtain ⟨y153, hy153⟩ : ∃ y_ : List Int, y_ = (x6_16 ++ [rd x7_16 0]) := ⟨_, rfl⟩
    replace H : (if 0 ≤ (wrap64 ((y153.length : Int) - 1)) then (if (wrap64 ((y153.length : Int) - 1)) < (y153.length : Int) then (if 0 ≤ x10_1 then (if x10_1 < (x5_1.length : Int) then (segmentation_costs.l0 kj16 l0 (x5_1.set (x10_1 : Int).toNat (wrap64 ((wrap64 ((wrap64 ((wrap64 ((rd y153 (wrap64 ((y153.length : Int) - 1))) * (y153.length : Int))) - (wrap64 (x8_16 + (rd x7_16 0))))) + (wrap64 (x9_16 - (rd x7_16 0))))) - (wrap64 ((rd y153 (wrap64 ((y153.length : Int) - 1))) * (t150.length : Int)))))) y153 t150 (wrap64 (x8_16 + (rd x7_16 0))) (wrap64 (x9_16 - (rd x7_16 0))) (wrap64 (x10_1 - 1))) else (none)) else (none)) else (none)) else (none)) = some r := by first | (rw [hy153]; with_reducible exact H) | (have H2_ := (Option.bind_some _ _).symm.trans H; rw [hy153]; with_reducible exact H2_) | (have H2_ := (Option.bind_some _ _).symm.trans H; with_reducible exact H2_) | with_reducible exact H | (rw [hy153]; exact H) | exact H
    have Ny153 := Aside0.mk hy153
    clear hy153
    obtain ⟨ji59, hji59⟩ : ∃ j_ : Int, (wrap64 ((y153.length : Int) - 1)) = j_ := ⟨_, rfl⟩
    replace H : (if 0 ≤ (ji59) then (if (ji59) < (y153.length : Int) then (if 0 ≤ x10_1 then (if x10_1 < (x5_1.length : Int) then (segmentation_costs.l0 kj16 l0 (x5_1.set (x10_1 : Int).toNat (wrap64 ((wrap64 ((wrap64 ((wrap64 ((rd y153 (ji59)) * (y153.length : Int))) - (wrap64 (x8_16 + (rd x7_16 0))))) + (wrap64 (x9_16 - (rd x7_16 0))))) - (wrap64 ((rd y153 (ji59)) * (t150.length : Int)))))) y153 t150 (wrap64 (x8_16 + (rd x7_16 0))) (wrap64 (x9_16 - (rd x7_16 0))) (wrap64 (x10_1 - 1))) else (none)) else (none)) else (none)) else (none)) = some r := by first | (rw [hji59] at H; exact H) | (simp only [hji59] at H ⊢; exact H)
    (try rw [hji59] at A57)
    have hji59w : (IntKind.i64.wrap ((y153.length : Int) - 1)) = ji59 := (i64_w _).trans hji59
    by_cases c60 : 0 ≤ (ji59)
    rotate_left
    ·rw [if_neg c60] at H
     exact absurd H (by simp)
    rw [if_pos c60] at H
    have c60b0 : decide (0 ≤ (ji59)) = true := decide_eq_true c60
    clear c60
    by_cases c61 : (ji59) < (y153.length : Int)
    rotate_left
    ·rw [if_neg c61] at H
     exact absurd H (by simp)
    rw [if_pos c61] at H
    have c61b0 : decide ((ji59) < (y153.length : Int)) = true := decide_eq_true c61
    clear c61
    by_cases c62 : 0 ≤ x10_1
    rotate_left
    ·rw [if_neg c62] at H
     exact absurd H (by simp)
    rw [if_pos c62] at H
    have c62b0 : decide (0 ≤ x10_1) = true := decide_eq_true c62
    clear c62
    by_cases c63 : x10_1 < (x5_1.length : Int)
    rotate_left
    ·rw [if_neg c63] at H
     exact absurd H (by simp)
    rw [if_pos c63] at H
    have c63b0 : decide (x10_1 < (x5_1.length : Int)) = true := decide_eq_true c63
    clear c63
    obtain ⟨y157, hy157⟩ : ∃ y_ : List Int, y_ = (x5_1.set (x10_1 : Int).toNat (wrap64 ((wrap64 ((wrap64 ((wrap64 ((rd y153 (ji59)) * (y153.length : Int))) - (wrap64 (x8_16 + (rd x7_16 0))))) + (wrap64 (x9_16 - (rd x7_16 0))))) - (wrap64 ((rd y153 (ji59)) * (t150.length : Int)))))) := ⟨_, rfl⟩
    replace H : (segmentation_costs.l0 kj16 l0 y157 y153 t150 (wrap64 (x8_16 + (rd x7_16 0))) (wrap64 (x9_16 - (rd x7_16 0))) (wrap64 (x10_1 - 1))) = some r := by first | (rw [hy157]; with_reducible exact H) | (have H2_ := (Option.bind_some _ _).symm.trans H; rw [hy157]; with_reducible exact H2_) | (have H2_ := (Option.bind_some _ _).symm.trans H; with_reducible exact H2_) | with_reducible exact H | (rw [hy157]; exact H) | exact H
    have Ny157 := Aside0.mk hy157
    clear hy157
    have H' := Aside0.mk H
    clear H
    obtain ⟨Ao65, co65, eo65⟩ := Kd.R_slice HO_6.out
    subst eo65
    obtain ⟨Ao66, co66, eo66⟩ := Kd.R_slice HO_7.out
    subst eo66
    have p149 : 0 ≤ (0 : Int) := (by omega)
    have q149 : 0 < (x7_16.length : Int) := of_decide_eq_true qgcosts_1
    obtain ⟨ad149, e149, hx149_0⟩ := Kd.at_int (Kd.R_reads' HO_7.out).2.2 0 p149 q149
    cases e149
    have qi149 : (0 < x7_16.length) = True := eq_true (by omega)
    (try rw [show ((0 : Int)).toNat = 0 from rfl] at hx149_0)
    (try rw [Addr.add_zero'] at hx149_0)
    replace p149 := eq_true p149
    replace q149 := eq_true q149
    go_wp2_with (first | ((with_reducible refine gate_callee (f := 79) rfl ?_); refine goesL_ (some 108) rfl rfl Try.func79 (by kernel_rfl) rfl #[.slice (some ad149) x7_16.length co66, .int .i64 0, .int .i64 1] rfl qgcosts_6 ?_; (with_reducible refine (slices_Delete_int_int.calls (fun k_ => some k_ = (.slice (some ad149) x7_16.length co66 : Value).ownBlock) (.slice (some ad149) x7_16.length co66) x7_16 0 1 t150 w _ ?side1 ?side2 A57.out).mono ?_); (case side1 => exact qgcosts_0); (case side2 => exact Kd.R_tight rfl HO_7.out); rintro e w67 ⟨v151, rfl, ho0, hb, hkp⟩; refine ⟨_, rfl, ?_⟩; have n0_ := Aside0.mk (Kd.R_mono (ok' := fun k_ => some k_ ≠ (.slice Ao65 x6_16.length co65 : Value).ownBlock ∧ some k_ ≠ (v151 : Value).ownBlock) (Kd.R_keptB (HO_5.out) hkp (fun k_ hk_ hs_ => (hk_.2) hs_)) (fun k_ hk_ => ⟨hk_.1.1, fun e_ => Or.elim (ho0.1 k_ e_.symm) (fun hs_ => hk_.2.1 hs_) (fun hn_ => Nat.not_le.2 hk_.2.2 hn_)⟩)); have n1_ := Aside0.mk (Kd.R_mono (ok' := fun k_ => some k_ ≠ (v117 : Value).ownBlock ∧ some k_ ≠ (v151 : Value).ownBlock) (Kd.R_keptB (HO_6.out) hkp (fun k_ hk_ hs_ => (hk_.2) hs_)) (fun k_ hk_ => ⟨hk_.1.1, fun e_ => Or.elim (ho0.1 k_ e_.symm) (fun hs_ => hk_.2.1 hs_) (fun hn_ => Nat.not_le.2 hk_.2.2 hn_)⟩)); have n2_ := Aside0.mk (Kd.R_mono (ok' := fun k_ => some k_ ≠ (v117 : Value).ownBlock ∧ some k_ ≠ (.slice Ao65 x6_16.length co65 : Value).ownBlock) ho0 (fun k_ hk_ => ⟨Or.elim hk_ (fun hs_ => fun e_ => (((HO_5.out).1 k_ e_.symm).2) hs_) (fun hn_ => (Kd.fresh' (Kd.R_lt qgcosts_3) k_ hn_)), Or.elim hk_ (fun hs_ => fun e_ => (((HO_6.out).1 k_ e_.symm).2) hs_) (fun hn_ => (Kd.fresh' (Kd.R_lt qgcosts_9) k_ hn_))⟩)); have n3_ := Aside0.mk (hb); clear HO_5; clear HO_6; clear HB; clear HO_7; have HO_5 := n0_; have HO_6 := n1_; have HO152 := n2_; have HB := n3_; clear n0_ n1_ n2_ n3_; (try clear hb); (try clear hkp); (try clear ho0)) | ((with_reducible refine gate_builtin (b := .append) (xs := #[.tmp 112, .tmp 114]) rfl ?_); (try (refine gate_guard (by rfl) ?_; dsimp only)); at_builtin; refine Kd.R_append (Kd.int .i64) (w0 := w) w.heap.size rfl (.tmp 112) (.tmp 114) 26 3 (.int .i64 0) 8 rfl Try.underlying26 info3 rfl (by decide) (by omega) (.slice Ao65 x6_16.length co65) x6_16 (rd x7_16 0) [.int .i64 (rd x7_16 0)] (fun k_ => some k_ ≠ (v117 : Value).ownBlock ∧ some k_ ≠ (v151 : Value).ownBlock) (fun _ => False) rfl rfl ?aP (fun _ hk => hk.elim) ?aF ?aO ?aB ?aS ?aL ?_; (case aP => exact rfl); (case aB => exact qgcosts_0); (case aF => exact (fun k_ hk => ⟨Kd.fresh' (Kd.R_lt qgcosts_3) k_ hk, Kd.fresh' (Kd.R_lt (by (with_reducible repeat (first | apply Kd.R_alloc | apply Kd.R_drewN | apply Kd.R_drew)); exact HO152.out)) k_ hk⟩)); (case aO => exact qgcosts_9); (case aS => exact (below_size qgcosts_0)); (case aL => have := LMc58.out; omega); intro v154 w68 ho hb hg hat; rw [← Ny153.out] at ho; have n0_ := Aside0.mk (Kd.R_after (ok := (fun k_ => some k_ ≠ (v151 : Value).ownBlock)) qgcosts_19 hg hat); have n1_ := Aside0.mk (Kd.R_after (ok := (fun k_ => some k_ ≠ (v117 : Value).ownBlock)) (by (with_reducible repeat (first | apply Kd.R_alloc | apply Kd.R_drewN | apply Kd.R_drew)); exact HO152.out) hg hat); have n2_ := Aside0.mk (hb); have n3_ := Aside0.mk (ho); clear HO_5; clear HO152; clear HB; clear HO_6; have HO_5 := n0_; have HO152 := n1_; have HB := n2_; have HO155 := n3_; clear n0_ n1_ n2_ n3_; clear ho hb hg hat; obtain ⟨Ao69, co69, eo69⟩ := Kd.R_slice HO155.out; subst eo69; have p156 : 0 ≤ ((ji59) : Int) := of_decide_eq_true qgcosts_1; have q156 : (ji59) < (y153.length : Int) := of_decide_eq_true qgcosts_1; obtain ⟨ad156, e156, hx156_0⟩ := Kd.at_int (Kd.R_reads' HO155.out).2.2 (ji59) p156 q156; cases e156; replace p156 := eq_true p156; replace q156 := eq_true q156; obtain ⟨Ao70, co70, eo70⟩ := Kd.R_slice HO152.out; subst eo70; have p64 : 0 ≤ (x10_1 : Int) := of_decide_eq_true qgcosts_1; have q64 : (x10_1 : Int) < ((x5_1.length : Int) : Int) := of_decide_eq_true qgcosts_1; obtain ⟨go64, co64, eo64, gb64, gl64, cl64, HG64⟩ := Kd.R_form HO_5.out (by omega); (first | cases eo64 | (injection eo64 with ea_ en_ ec_; (first | subst ea_ | (injection ea_ with ea_; subst ea_)); subst ec_; clear en_)); have GB64 := Aside0.mk gb64; have GG64 := Aside0.mk HG64; clear gb64 gl64 HG64; obtain ⟨hx64_0, hf64_0⟩ := Kd.R_celln 0 HO_5.out (x10_1 : Int) p64 q64; replace p64 := eq_true p64; replace q64 := eq_true q64; obtain ⟨hy71_, hz71_⟩ := Kd.R_celln 0 HO_5.out (x10_1 : Int) (of_decide_eq_true qgcosts_1) (of_decide_eq_true qgcosts_1); have HP71 := Kd.R_putg HO_5.out (x10_1 : Int) (wrap64 ((wrap64 ((wrap64 ((wrap64 ((rd y153 (ji59)) * (y153.length : Int))) - (wrap64 (x8_16 + (rd x7_16 0))))) + (wrap64 (x9_16 - (rd x7_16 0))))) - (wrap64 ((rd y153 (ji59)) * (t150.length : Int)))))) | ((with_reducible refine gate_store (t := 3) (p := 140) rfl ?_); refine store_event (t := 3) (p := 140) (v := ?vo_w72) (w1 := (w68.setCell ⟨go64, (x10_1 : Int).toNat, none⟩ (.int .i64 (wrap64 ((wrap64 ((wrap64 ((wrap64 ((rd y153 (ji59)) * (y153.length : Int))) - (wrap64 (x8_16 + (rd x7_16 0))))) + (wrap64 (x9_16 - (rd x7_16 0))))) - (wrap64 ((rd y153 (ji59)) * (t150.length : Int)))))))) ?hg ?ho ?hn ?hr ?_; (case ho => rfl); (case hg => rfl); (case hn => rfl); (case hr => exact qgcosts_16); intro w72 hw; have hg : w68.grownBy w72 (some go64) := (by rw [hw]; exact HP71.2); have hp_ : Kd.R (Kd.int .i64) 3 w72 w.heap.size (fun k_ => some k_ ≠ (.slice Ao70 t150.length co70 : Value).ownBlock ∧ some k_ ≠ (.slice (some ad156) y153.length co69 : Value).ownBlock) (.slice (some ⟨go64, 0, none⟩) x5_1.length co64) y157 := (by rw [hw, Ny157.out]; exact HP71.1); clear HP71; have n0_ := Aside0.mk (hp_); have n1_ := Aside0.mk (Kd.R_after (v := (.slice (some ⟨go64, 0, none⟩) x5_1.length co64)) (v1 := (.slice (some ⟨go64, 0, none⟩) x5_1.length co64)) (ok := (fun k_ => some k_ ≠ (.slice (some ad156) y153.length co69 : Value).ownBlock)) qgcosts_24 hg (.inl rfl)); have n2_ := Aside0.mk (Kd.R_after (v := (.slice (some ⟨go64, 0, none⟩) x5_1.length co64)) (v1 := (.slice (some ⟨go64, 0, none⟩) x5_1.length co64)) (ok := (fun k_ => some k_ ≠ (.slice Ao70 t150.length co70 : Value).ownBlock)) qgcosts_25 hg (.inl rfl)); have n3_ := Aside0.mk ((by rw [hw]; exact below_set (HB.out) GB64.out : Below w.heap.size w w72)); clear HO_5; clear HO152; clear HO155; clear HB; have HO_5 := n0_; have HO152 := n1_; have HO155 := n2_; have HB := n3_; clear n0_ n1_ n2_ n3_; clear hg hw hp_))
    go_roundg kj16
    case measure => have := HK1.out; have := HJ9.out; have := HJ16.out; omega
    case rel => exact ⟨(y157), (y153), (t150), (wrap64 (x8_16 + (rd x7_16 0))), (wrap64 (x9_16 - (rd x7_16 0))), (wrap64 (x10_1 - 1)), qgcosts_12, qgcosts_12, qgcosts_12, H', ⟨by have := HK1.out; have := HJ9.out; have := HJ16.out; omega⟩, ⟨qgcosts_19⟩, ⟨qgcosts_25⟩, ⟨qgcosts_24⟩, ⟨qgcosts_0⟩⟩

/-! ### segmentation_best_after: function 61 -/
def segmentation_best_after.f (a0_0 : Int) (l0_1 : List Int) (a1 : Int) (a2 : Int) : Option (Int × List Int) := if a1 > 0 then ((slices_Clone_int_int.f l0_1).bind fun t163 => (if t163.length < 17592186044416 then (some (wrap64 (a0_0 + a2), (t163 ++ [a1]))) else (none))) else (some (wrap64 (a0_0 + a2), l0_1))
set_option maxHeartbeats 8000000 in
set_option maxRecDepth 100000 in
theorem segmentation_best_after.calls (a0_0 : Int) (P0_1_ : Nat → Prop) (A0_1 : Option Addr) (c0_1 : Nat) (l0_1 : List Int) (a1 : Int) (a2 : Int) (r1 : Int) (r2 : List Int) (w : World) (hs0_1 : Kd.V (Kd.int .i64) 3 w w.heap.size (fun k_ => P0_1_ k_) (.slice A0_1 l0_1.length c0_1) l0_1) (h : segmentation_best_after.f a0_0 l0_1 a1 a2 = some (r1, r2)) :
  Calls Try.prog 61 #[.agg #[.int .i64 a0_0, .slice A0_1 l0_1.length c0_1], .int .i64 a1, .int .i64 a2] w fun e w' => ∃ v1_ : Value, e = .returned (.agg #[.int .i64 r1, v1_]) ∧ Kd.V (Kd.int .i64) 3 w' w.heap.size (fun k_ => (P0_1_ k_ ∨ w.heap.size ≤ k_)) v1_ r2 ∧ Below w.heap.size w w' := by
 have hu108 := Try.underlying108
 have HO0_1 := Aside0.mk (show Kd.V (Kd.int .i64) 3 w w.heap.size (fun k_ => (P0_1_ k_ ∨ w.heap.size ≤ k_)) (.slice A0_1 l0_1.length c0_1) l0_1 from Kd.V_mono hs0_1 (fun k_ hk => .inl hk))
 have HB := Aside0.mk (Below.refl w.heap.size w)
 have H : (if a1 > 0 then ((slices_Clone_int_int.f l0_1).bind fun t163 => (if t163.length < 17592186044416 then (some (wrap64 (a0_0 + a2), (t163 ++ [a1]))) else (none))) else (some (wrap64 (a0_0 + a2), l0_1))) = some (r1, r2) := h
 clear h
 by_cases c4 : a1 > 0
 rotate_left
 ·rw [if_neg c4] at H
  have c4b0 : decide (0 < a1) = false := decide_eq_false c4
  clear c4
  simp only [Option.some.injEq, Prod.mk.injEq] at H
  obtain ⟨rfl, rfl⟩ := H
  go_enter Try.func61, Try.ntmps61
  go_wp2_with (first | ((with_reducible refine gate_dst (N := 3) rfl ?_); refine box_event ?hg (N := 3) ?hd (cs := #[.int .i64 a0_0, .slice A0_1 l0_1.length c0_1]) (t := 108) ?hr ?_; (case hd => rfl); (case hg => rfl); (case hr => exact qgcosts_16); intro gb160 hg w21 hbox hb; have n0_ := Aside0.mk (Kd.V_below (Kd.V_elderB qgcosts_14 gb160 (Nat.le_of_eq hg.symm)) hb); have n1_ := Aside0.mk (below_step qgcosts_0 hb); have n2_ := Aside0.mk (hbox); have n3_ := Aside0.mk ((by rw [hg]; exact (below_size qgcosts_0) : w.heap.size ≤ gb160)); have n4_ := Aside0.mk ((by rw [hg]; exact (below_size qgcosts_0) : w.heap.size ≤ gb160)); clear HO0_1; clear HB; have HO0_1 := n0_; have HB := n1_; have BK160 := n2_; have GW160 := n3_; have GE160 := n4_; clear n0_ n1_ n2_ n3_ n4_; clear hb hbox hg) | ((with_reducible refine gate_dst (N := 6) rfl ?_); refine box_event ?hg (N := 6) ?hd (cs := #[.int .i64 0, .slice none 0 0]) (t := 108) ?hr ?_; (case hd => rfl); (case hg => rfl); (case hr => exact qgcosts_16); intro gb161 hg w22 hbox hb; have n0_ := Aside0.mk (Kd.V_below (Kd.V_elderB qgcosts_14 gb161 (Nat.le_of_eq hg.symm)) hb); have n1_ := Aside0.mk (blk_below (g := gb160) (o := .cells #[.int .i64 a0_0, .slice A0_1 l0_1.length c0_1] 108 (0, 0)) qgcosts_4 hb); have n2_ := Aside0.mk (below_step qgcosts_11 hb); have n3_ := Aside0.mk (hbox); have n4_ := Aside0.mk ((by rw [hg]; exact (below_size qgcosts_11) : w.heap.size ≤ gb161)); have n5_ := Aside0.mk ((by rw [hg]; exact (below_size qgcosts_11) : w.heap.size ≤ gb161)); have n6_ := Aside0.mk ((by rw [hg]; exact Nat.ne_of_lt (blk_lt (g := gb160) (o := .cells #[.int .i64 a0_0, .slice A0_1 l0_1.length c0_1] 108 (0, 0)) qgcosts_4) : gb160 ≠ gb161)); have n7_ := Aside0.mk ((by rw [hg]; exact Nat.ne_of_gt (blk_lt (g := gb160) (o := .cells #[.int .i64 a0_0, .slice A0_1 l0_1.length c0_1] 108 (0, 0)) qgcosts_4) : gb161 ≠ gb160)); clear HO0_1; clear BK160; clear HB; have HO0_1 := n0_; have BK160 := n1_; have HB := n2_; have BK161 := n3_; have GW161 := n4_; have GE161 := n5_; have NB160_161 := n6_; have NB161_160 := n7_; clear n0_ n1_ n2_ n3_ n4_ n5_ n6_ n7_; clear hb hbox hg; have hnb23 := NB160_161.out; have hnc23 := NB161_160.out; have hcz24_0 : w22.cell? ⟨gb160, 0, none⟩ = some (.int .i64 a0_0) := (blk_cell BK160.out 0).trans rfl; have hcz24_1 : w22.cell? ⟨gb160, 1, none⟩ = some (.slice A0_1 l0_1.length c0_1) := (blk_cell BK160.out 1).trans rfl; have hfz24_0 := blk_frozen BK160.out 0; have hfz24_1 := blk_frozen BK160.out 1) | ((with_reducible refine gate_dst (N := 7) rfl ?_); refine box_event ?hg (N := 7) ?hd (cs := #[.int .i64 0, .slice none 0 0]) (t := 108) ?hr ?_; (case hd => rfl); (case hg => rfl); (case hr => exact qgcosts_16); intro gb162 hg w25 hbox hb; have n0_ := Aside0.mk (Kd.V_below (Kd.V_elderB qgcosts_14 gb162 (Nat.le_of_eq hg.symm)) hb); have n1_ := Aside0.mk (blk_below (g := gb160) (o := .cells #[.int .i64 a0_0, .slice A0_1 l0_1.length c0_1] 108 (0, 0)) qgcosts_4 hb); have n2_ := Aside0.mk (blk_below (g := gb161) (o := .cells #[.int .i64 0, .slice none 0 0] 108 (0, 0)) qgcosts_13 hb); have n3_ := Aside0.mk (below_step qgcosts_7 hb); have n4_ := Aside0.mk (hbox); have n5_ := Aside0.mk ((by rw [hg]; exact (below_size qgcosts_7) : w.heap.size ≤ gb162)); have n6_ := Aside0.mk ((by rw [hg]; exact (below_size qgcosts_7) : w.heap.size ≤ gb162)); have n7_ := Aside0.mk ((by rw [hg]; exact Nat.ne_of_lt (blk_lt (g := gb160) (o := .cells #[.int .i64 a0_0, .slice A0_1 l0_1.length c0_1] 108 (0, 0)) qgcosts_4) : gb160 ≠ gb162)); have n8_ := Aside0.mk ((by rw [hg]; exact Nat.ne_of_gt (blk_lt (g := gb160) (o := .cells #[.int .i64 a0_0, .slice A0_1 l0_1.length c0_1] 108 (0, 0)) qgcosts_4) : gb162 ≠ gb160)); have n9_ := Aside0.mk ((by rw [hg]; exact Nat.ne_of_lt (blk_lt (g := gb161) (o := .cells #[.int .i64 0, .slice none 0 0] 108 (0, 0)) qgcosts_13) : gb161 ≠ gb162)); have n10_ := Aside0.mk ((by rw [hg]; exact Nat.ne_of_gt (blk_lt (g := gb161) (o := .cells #[.int .i64 0, .slice none 0 0] 108 (0, 0)) qgcosts_13) : gb162 ≠ gb161)); clear HO0_1; clear BK160; clear BK161; clear HB; have HO0_1 := n0_; have BK160 := n1_; have BK161 := n2_; have HB := n3_; have BK162 := n4_; have GW162 := n5_; have GE162 := n6_; have NB160_162 := n7_; have NB162_160 := n8_; have NB161_162 := n9_; have NB162_161 := n10_; clear n0_ n1_ n2_ n3_ n4_ n5_ n6_ n7_ n8_ n9_ n10_; clear hb hbox hg; have hnb26 := NB162_160.out; have hnc26 := NB160_162.out; have hnb27 := NB162_161.out; have hnc27 := NB161_162.out; have hcz28_0 : w25.cell? ⟨gb162, 0, none⟩ = some (.int .i64 0) := (blk_cell BK162.out 0).trans rfl; have hcz28_1 : w25.cell? ⟨gb162, 1, none⟩ = some (.slice none 0 0) := (blk_cell BK162.out 1).trans rfl; have hfz28_0 := blk_frozen BK162.out 0; have hfz28_1 := blk_frozen BK162.out 1; have hcz29_0 : w25.cell? ⟨gb161, 0, none⟩ = some (.int .i64 0) := (blk_cell BK161.out 0).trans rfl; have hcz29_1 : w25.cell? ⟨gb161, 1, none⟩ = some (.slice none 0 0) := (blk_cell BK161.out 1).trans rfl; have hfz29_0 := blk_frozen BK161.out 0; have hfz29_1 := blk_frozen BK161.out 1))
  refine bodyPost_ret (results_cell_row rfl _ _ gb161 108 #[.int .i64 (wrap64 (a0_0 + a2)), .slice A0_1 l0_1.length c0_1] (0, 0) _ rfl (by (with_reducible repeat (first | refine blk_drewN ?_ _ | refine blk_drew ?_ | refine blk_alloc ?_ _)); refine blk_put (cs := #[.int .i64 (wrap64 (a0_0 + a2)), .slice none 0 0]) ?_ 1 _ rfl; (with_reducible repeat (first | refine blk_drewN ?_ _ | refine blk_drew ?_ | refine blk_alloc ?_ _)); refine blk_put (cs := #[.int .i64 0, .slice none 0 0]) ?_ 0 _ rfl; (with_reducible repeat (first | refine blk_drewN ?_ _ | refine blk_drew ?_ | refine blk_alloc ?_ _)); refine blk_far ?_ NB161_162.out _; (with_reducible repeat (first | refine blk_drewN ?_ _ | refine blk_drew ?_ | refine blk_alloc ?_ _)); refine blk_far ?_ NB161_162.out _; (with_reducible repeat (first | refine blk_drewN ?_ _ | refine blk_drew ?_ | refine blk_alloc ?_ _)); exact BK161.out) Try.underlying108 rfl (by kernel_rfl)) rfl ?_
  exact ⟨_, qgcosts_15, by (with_reducible repeat (first | apply Kd.V_alloc | apply Kd.V_drewN | apply Kd.V_drew)); exact Kd.V_mono (Kd.V_far (p := ⟨gb161, 1, none⟩) (Kd.V_far (p := ⟨gb161, 0, none⟩) (Kd.V_far (p := ⟨gb162, 1, none⟩) (Kd.V_far (p := ⟨gb162, 0, none⟩) (Kd.V_mono (Kd.V_mono HO0_1.out (fun k_ hk => (⟨hk, hk.2⟩ : _ ∧ k_ ≠ gb162))) (fun k_ hk => (⟨hk, hk.1.1.2⟩ : _ ∧ k_ ≠ gb161))) (fun _ hk => hk.1.2) (.int .i64 (wrap64 (a0_0 + a2)))) (fun _ hk => hk.1.2) (.slice A0_1 l0_1.length c0_1)) (fun _ hk => hk.2) (.int .i64 (wrap64 (a0_0 + a2)))) (fun _ hk => hk.2) (.slice A0_1 l0_1.length c0_1)) (fun _ hk => hk.1.1.1.1.1), qgcosts_2⟩
 rw [if_pos c4] at H
 have c4b0 : decide (0 < a1) = true := decide_eq_true c4
 clear c4
 replace H := Option.bind_eq_some_iff.mp H
 obtain ⟨t163, A50, H⟩ := H
 replace H : (if t163.length < 17592186044416 then (some (wrap64 (a0_0 + a2), (t163 ++ [a1]))) else (none)) = some (r1, r2) := H
 have A5 := Aside0.mk A50
 clear A50
 by_cases c6 : t163.length < 17592186044416
 rotate_left
 ·rw [if_neg c6] at H
  exact absurd H (by simp)
 rw [if_pos c6] at H
 have LMc6 := Aside0.mk c6
 clear c6
 obtain ⟨y166, hy166⟩ : ∃ y_ : List Int, y_ = (t163 ++ [a1]) := ⟨_, rfl⟩
 replace H : (some (wrap64 (a0_0 + a2), y166)) = some (r1, r2) := by first | (rw [hy166]; with_reducible exact H) | (have H2_ := (Option.bind_some _ _).symm.trans H; rw [hy166]; with_reducible exact H2_) | (have H2_ := (Option.bind_some _ _).symm.trans H; with_reducible exact H2_) | with_reducible exact H | (rw [hy166]; exact H) | exact H
 have Ny166 := Aside0.mk hy166
 clear hy166
 simp only [Option.some.injEq, Prod.mk.injEq] at H
 obtain ⟨rfl, rfl⟩ := H
 go_enter Try.func61, Try.ntmps61
 go_wp2_with (first | ((with_reducible refine gate_dst (N := 3) rfl ?_); refine box_event ?hg (N := 3) ?hd (cs := #[.int .i64 a0_0, .slice A0_1 l0_1.length c0_1]) (t := 108) ?hr ?_; (case hd => rfl); (case hg => rfl); (case hr => exact qgcosts_16); intro gb160 hg w7 hbox hb; have n0_ := Aside0.mk (Kd.V_below (Kd.V_elderB qgcosts_14 gb160 (Nat.le_of_eq hg.symm)) hb); have n1_ := Aside0.mk (below_step qgcosts_0 hb); have n2_ := Aside0.mk (hbox); have n3_ := Aside0.mk ((by rw [hg]; exact (below_size qgcosts_0) : w.heap.size ≤ gb160)); have n4_ := Aside0.mk ((by rw [hg]; exact (below_size qgcosts_0) : w.heap.size ≤ gb160)); clear HO0_1; clear HB; have HO0_1 := n0_; have HB := n1_; have BK160 := n2_; have GW160 := n3_; have GE160 := n4_; clear n0_ n1_ n2_ n3_ n4_; clear hb hbox hg) | ((with_reducible refine gate_dst (N := 6) rfl ?_); refine box_event ?hg (N := 6) ?hd (cs := #[.int .i64 0, .slice none 0 0]) (t := 108) ?hr ?_; (case hd => rfl); (case hg => rfl); (case hr => exact qgcosts_16); intro gb161 hg w8 hbox hb; have n0_ := Aside0.mk (Kd.V_below (Kd.V_elderB qgcosts_14 gb161 (Nat.le_of_eq hg.symm)) hb); have n1_ := Aside0.mk (blk_below (g := gb160) (o := .cells #[.int .i64 a0_0, .slice A0_1 l0_1.length c0_1] 108 (0, 0)) qgcosts_4 hb); have n2_ := Aside0.mk (below_step qgcosts_11 hb); have n3_ := Aside0.mk (hbox); have n4_ := Aside0.mk ((by rw [hg]; exact (below_size qgcosts_11) : w.heap.size ≤ gb161)); have n5_ := Aside0.mk ((by rw [hg]; exact (below_size qgcosts_11) : w.heap.size ≤ gb161)); have n6_ := Aside0.mk ((by rw [hg]; exact Nat.ne_of_lt (blk_lt (g := gb160) (o := .cells #[.int .i64 a0_0, .slice A0_1 l0_1.length c0_1] 108 (0, 0)) qgcosts_4) : gb160 ≠ gb161)); have n7_ := Aside0.mk ((by rw [hg]; exact Nat.ne_of_gt (blk_lt (g := gb160) (o := .cells #[.int .i64 a0_0, .slice A0_1 l0_1.length c0_1] 108 (0, 0)) qgcosts_4) : gb161 ≠ gb160)); clear HO0_1; clear BK160; clear HB; have HO0_1 := n0_; have BK160 := n1_; have HB := n2_; have BK161 := n3_; have GW161 := n4_; have GE161 := n5_; have NB160_161 := n6_; have NB161_160 := n7_; clear n0_ n1_ n2_ n3_ n4_ n5_ n6_ n7_; clear hb hbox hg; have hnb9 := NB160_161.out; have hnc9 := NB161_160.out; have hcz10_0 : w8.cell? ⟨gb160, 0, none⟩ = some (.int .i64 a0_0) := (blk_cell BK160.out 0).trans rfl; have hcz10_1 : w8.cell? ⟨gb160, 1, none⟩ = some (.slice A0_1 l0_1.length c0_1) := (blk_cell BK160.out 1).trans rfl; have hfz10_0 := blk_frozen BK160.out 0; have hfz10_1 := blk_frozen BK160.out 1) | ((with_reducible refine gate_dst (N := 7) rfl ?_); refine box_event ?hg (N := 7) ?hd (cs := #[.int .i64 0, .slice none 0 0]) (t := 108) ?hr ?_; (case hd => rfl); (case hg => rfl); (case hr => exact qgcosts_16); intro gb162 hg w11 hbox hb; have n0_ := Aside0.mk (Kd.V_below (Kd.V_elderB qgcosts_14 gb162 (Nat.le_of_eq hg.symm)) hb); have n1_ := Aside0.mk (blk_below (g := gb160) (o := .cells #[.int .i64 a0_0, .slice A0_1 l0_1.length c0_1] 108 (0, 0)) qgcosts_4 hb); have n2_ := Aside0.mk (blk_below (g := gb161) (o := .cells #[.int .i64 0, .slice none 0 0] 108 (0, 0)) qgcosts_13 hb); have n3_ := Aside0.mk (below_step qgcosts_7 hb); have n4_ := Aside0.mk (hbox); have n5_ := Aside0.mk ((by rw [hg]; exact (below_size qgcosts_7) : w.heap.size ≤ gb162)); have n6_ := Aside0.mk ((by rw [hg]; exact (below_size qgcosts_7) : w.heap.size ≤ gb162)); have n7_ := Aside0.mk ((by rw [hg]; exact Nat.ne_of_lt (blk_lt (g := gb160) (o := .cells #[.int .i64 a0_0, .slice A0_1 l0_1.length c0_1] 108 (0, 0)) qgcosts_4) : gb160 ≠ gb162)); have n8_ := Aside0.mk ((by rw [hg]; exact Nat.ne_of_gt (blk_lt (g := gb160) (o := .cells #[.int .i64 a0_0, .slice A0_1 l0_1.length c0_1] 108 (0, 0)) qgcosts_4) : gb162 ≠ gb160)); have n9_ := Aside0.mk ((by rw [hg]; exact Nat.ne_of_lt (blk_lt (g := gb161) (o := .cells #[.int .i64 0, .slice none 0 0] 108 (0, 0)) qgcosts_13) : gb161 ≠ gb162)); have n10_ := Aside0.mk ((by rw [hg]; exact Nat.ne_of_gt (blk_lt (g := gb161) (o := .cells #[.int .i64 0, .slice none 0 0] 108 (0, 0)) qgcosts_13) : gb162 ≠ gb161)); clear HO0_1; clear BK160; clear BK161; clear HB; have HO0_1 := n0_; have BK160 := n1_; have BK161 := n2_; have HB := n3_; have BK162 := n4_; have GW162 := n5_; have GE162 := n6_; have NB160_162 := n7_; have NB162_160 := n8_; have NB161_162 := n9_; have NB162_161 := n10_; clear n0_ n1_ n2_ n3_ n4_ n5_ n6_ n7_ n8_ n9_ n10_; clear hb hbox hg; have hnb12 := NB162_160.out; have hnc12 := NB160_162.out; have hnb13 := NB162_161.out; have hnc13 := NB161_162.out; have hcz14_0 : w11.cell? ⟨gb162, 0, none⟩ = some (.int .i64 0) := (blk_cell BK162.out 0).trans rfl; have hcz14_1 : w11.cell? ⟨gb162, 1, none⟩ = some (.slice none 0 0) := (blk_cell BK162.out 1).trans rfl; have hfz14_0 := blk_frozen BK162.out 0; have hfz14_1 := blk_frozen BK162.out 1; have hcz15_0 : w11.cell? ⟨gb160, 0, none⟩ = some (.int .i64 a0_0) := (blk_cell BK160.out 0).trans rfl; have hcz15_1 : w11.cell? ⟨gb160, 1, none⟩ = some (.slice A0_1 l0_1.length c0_1) := (blk_cell BK160.out 1).trans rfl; have hfz15_0 := blk_frozen BK160.out 0; have hfz15_1 := blk_frozen BK160.out 1) | ((with_reducible refine gate_callee (f := 50) rfl ?_); refine goesL_ (some 19) rfl rfl Try.func50 (by kernel_rfl) rfl #[.slice A0_1 l0_1.length c0_1] rfl qgcosts_6 ?_; (with_reducible refine (slices_Clone_int_int.calls _ _ l0_1 t163 _ ?side1 ?side2 A5.out).mono ?_); (case side1 => refine (Kd.V_reads' (e := 3) (base := w.heap.size) (ok := fun k_ => ((((P0_1_ k_ ∨ w.heap.size ≤ k_) ∧ k_ ≠ gb160) ∧ k_ ≠ gb161) ∧ k_ ≠ gb162)) (n := l0_1.length) (c := c0_1) ?_).2.2; exact qgcosts_18); (case side2 => exact (Kd.V_reads' HO0_1.out).2.1); rintro e w16 ⟨v164, rfl, ho0, hb⟩; refine ⟨_, rfl, ?_⟩; have n0_ := Aside0.mk (Kd.V_elder' qgcosts_18 (Kd.R_base ho0) hb); have n1_ := Aside0.mk (Kd.R_lower (Kd.R_newM (M := fun k_ => (w.heap.size ≤ k_)) ho0 (below_size qgcosts_2) (fun k_ h_ => h_)) (below_size qgcosts_2)); have n2_ := Aside0.mk (blk_below (g := gb160) (o := .cells #[.int .i64 a0_0, .slice A0_1 l0_1.length c0_1] 108 (0, 0)) (by (with_reducible repeat (first | refine blk_drewN ?_ _ | refine blk_drew ?_ | refine blk_alloc ?_ _)); refine blk_far ?_ NB160_162.out _; (with_reducible repeat (first | refine blk_drewN ?_ _ | refine blk_drew ?_ | refine blk_alloc ?_ _)); refine blk_far ?_ NB160_162.out _; (with_reducible repeat (first | refine blk_drewN ?_ _ | refine blk_drew ?_ | refine blk_alloc ?_ _)); exact BK160.out) hb); have n3_ := Aside0.mk (blk_below (g := gb161) (o := .cells #[.int .i64 0, .slice none 0 0] 108 (0, 0)) (by (with_reducible repeat (first | refine blk_drewN ?_ _ | refine blk_drew ?_ | refine blk_alloc ?_ _)); refine blk_far ?_ NB161_162.out _; (with_reducible repeat (first | refine blk_drewN ?_ _ | refine blk_drew ?_ | refine blk_alloc ?_ _)); refine blk_far ?_ NB161_162.out _; (with_reducible repeat (first | refine blk_drewN ?_ _ | refine blk_drew ?_ | refine blk_alloc ?_ _)); exact BK161.out) hb); have n4_ := Aside0.mk (blk_below (g := gb162) (o := .cells #[.int .i64 (wrap64 (a0_0 + a2)), .slice A0_1 l0_1.length c0_1] 108 (0, 0)) (by (with_reducible repeat (first | refine blk_drewN ?_ _ | refine blk_drew ?_ | refine blk_alloc ?_ _)); refine blk_put (cs := #[.int .i64 (wrap64 (a0_0 + a2)), .slice none 0 0]) ?_ 1 _ rfl; (with_reducible repeat (first | refine blk_drewN ?_ _ | refine blk_drew ?_ | refine blk_alloc ?_ _)); refine blk_put (cs := #[.int .i64 0, .slice none 0 0]) ?_ 0 _ rfl; (with_reducible repeat (first | refine blk_drewN ?_ _ | refine blk_drew ?_ | refine blk_alloc ?_ _)); exact BK162.out) hb); have n5_ := Aside0.mk (below_step qgcosts_2 hb); clear HO0_1; clear BK160; clear BK161; clear BK162; clear HB; have HO0_1 := n0_; have HO165 := n1_; have BK160 := n2_; have BK161 := n3_; have BK162 := n4_; have HB := n5_; clear n0_ n1_ n2_ n3_ n4_ n5_; (try clear hb); (try clear hb2); (try clear hk); (try clear hi); (try clear ho0)) | ((with_reducible refine gate_builtin (b := .append) (xs := #[.tmp 19, .tmp 21]) rfl ?_); at_builtin; refine Kd.R_append (Kd.int .i64) (w0 := w) w.heap.size rfl (.tmp 19) (.tmp 21) 26 3 (.int .i64 0) 8 rfl Try.underlying26 info3 rfl (by decide) (by omega) v164 t163 a1 [.int .i64 a1] (fun k_ => (w.heap.size ≤ k_)) (fun _ => False) rfl rfl ?aP (fun _ hk => hk.elim) ?aF ?aO ?aB ?aS ?aL ?_; (case aP => exact rfl); (case aB => exact qgcosts_2); (case aF => exact (fun k_ hk => (Nat.le_trans (below_size qgcosts_2) hk))); (case aO => exact (by (with_reducible repeat (first | apply Kd.R_alloc | apply Kd.R_drewN | apply Kd.R_drew)); exact Kd.R_mono HO165.out (fun _ hk => hk.1))); (case aS => exact (below_size qgcosts_2)); (case aL => have := LMc6.out; omega); intro v167 w17 ho hb hg hat; rw [← Ny166.out] at ho; have n0_ := Aside0.mk (Kd.V_afterv (ok := (fun k_ => (P0_1_ k_ ∨ w.heap.size ≤ k_) ∧ k_ ≠ gb160 ∧ k_ ≠ gb161 ∧ k_ ≠ gb162)) (by (with_reducible repeat (first | apply Kd.V_alloc | apply Kd.V_drewN | apply Kd.V_drew)); exact Kd.V_mono HO0_1.out (fun _ hk => ⟨⟨hk.1.1.1.1, ⟨hk.1.1.1.2, ⟨hk.1.1.2, hk.1.2⟩⟩⟩, hk.2⟩)) hg hat); have n1_ := Aside0.mk (blk_grown (g := gb160) (o := .cells #[.int .i64 a0_0, .slice A0_1 l0_1.length c0_1] 108 (0, 0)) qgcosts_4 hg (Kd.R_ne HO165.out BK160.out (by decide))); have n2_ := Aside0.mk (blk_grown (g := gb161) (o := .cells #[.int .i64 0, .slice none 0 0] 108 (0, 0)) qgcosts_13 hg (Kd.R_ne HO165.out BK161.out (by decide))); have n3_ := Aside0.mk (blk_grown (g := gb162) (o := .cells #[.int .i64 (wrap64 (a0_0 + a2)), .slice A0_1 l0_1.length c0_1] 108 (0, 0)) (by (with_reducible repeat (first | refine blk_drewN ?_ _ | refine blk_drew ?_ | refine blk_alloc ?_ _)); exact BK162.out) hg (Kd.R_ne HO165.out BK162.out (by decide))); have n4_ := Aside0.mk (hb); have n5_ := Aside0.mk (ho); clear HO0_1; clear BK160; clear BK161; clear BK162; clear HB; clear HO165; have HO0_1 := n0_; have BK160 := n1_; have BK161 := n2_; have BK162 := n3_; have HB := n4_; have HO168 := n5_; clear n0_ n1_ n2_ n3_ n4_ n5_; clear ho hb hg hat; obtain ⟨Ao18, co18, eo18⟩ := Kd.R_slice HO168.out; subst eo18; have hcz19_0 : w17.cell? ⟨gb162, 0, none⟩ = some (.int .i64 (wrap64 (a0_0 + a2))) := (blk_cell BK162.out 0).trans rfl; have hcz19_1 : w17.cell? ⟨gb162, 1, none⟩ = some (.slice A0_1 l0_1.length c0_1) := (blk_cell BK162.out 1).trans rfl; have hfz19_0 := blk_frozen BK162.out 0; have hfz19_1 := blk_frozen BK162.out 1; have hcz20_0 : w17.cell? ⟨gb161, 0, none⟩ = some (.int .i64 0) := (blk_cell BK161.out 0).trans rfl; have hcz20_1 : w17.cell? ⟨gb161, 1, none⟩ = some (.slice none 0 0) := (blk_cell BK161.out 1).trans rfl; have hfz20_0 := blk_frozen BK161.out 0; have hfz20_1 := blk_frozen BK161.out 1))
 refine bodyPost_ret (results_cell_row rfl _ _ gb161 108 #[.int .i64 (wrap64 (a0_0 + a2)), .slice Ao18 y166.length co18] (0, 0) _ rfl (by (with_reducible repeat (first | refine blk_drewN ?_ _ | refine blk_drew ?_ | refine blk_alloc ?_ _)); refine blk_put (cs := #[.int .i64 (wrap64 (a0_0 + a2)), .slice none 0 0]) ?_ 1 _ rfl; (with_reducible repeat (first | refine blk_drewN ?_ _ | refine blk_drew ?_ | refine blk_alloc ?_ _)); refine blk_put (cs := #[.int .i64 0, .slice none 0 0]) ?_ 0 _ rfl; (with_reducible repeat (first | refine blk_drewN ?_ _ | refine blk_drew ?_ | refine blk_alloc ?_ _)); refine blk_far ?_ NB161_162.out _; (with_reducible repeat (first | refine blk_drewN ?_ _ | refine blk_drew ?_ | refine blk_alloc ?_ _)); exact BK161.out) Try.underlying108 rfl (by kernel_rfl)) rfl ?_
 exact ⟨_, qgcosts_15, Kd.V_mono (Kd.R_V (by (with_reducible repeat (first | apply Kd.R_alloc | apply Kd.R_drewN | apply Kd.R_drew)); exact Kd.R_mono (Kd.R_far (p := ⟨gb161, 1, none⟩) (Kd.R_far (p := ⟨gb161, 0, none⟩) (Kd.R_far (p := ⟨gb162, 1, none⟩) (Kd.R_types (Kd.R_types HO168.out BK162.out (by decide)) BK161.out (by decide)) (fun _ hk => hk.1.2) (.slice Ao18 y166.length co18)) (fun _ hk => hk.2) (.int .i64 (wrap64 (a0_0 + a2)))) (fun _ hk => hk.2) (.slice Ao18 y166.length co18)) (fun _ hk => hk.1.1))) (fun k_ hk => by first | exact ⟨(.inr (hk.1)), hk.2⟩ | exact (.inr (hk))), qgcosts_2⟩

/-! ### slices_Compare_int_int: function 70 -/
def slices_Compare_int_int.l0 : Nat → List Int → List Int → List Int → Int → Int → Option (Int)
 | 0, _, _, _, _, _ => none
 | k + 1, x0, x1, x9, x10, x11 => if x11 < x10 then (if 0 ≤ x11 then (if x11 < (x9.length : Int) then (if x11 ≥ (x1.length : Int) then (some 1) else (if x11 < (x1.length : Int) then ((cmp_Compare_int.f (rd x9 x11) (rd x1 x11)).bind fun t173 => (if t173 = 0 then (slices_Compare_int_int.l0 k x0 x1 x9 x10 (wrap64 (x11 + 1))) else (some t173))) else (none))) else (none)) else (none)) else (if (x0.length : Int) < (x1.length : Int) then (some (-1)) else (some 0))
def slices_Compare_int_int.f (k : Nat) (l0 : List Int) (l1 : List Int) : Option (Int) := slices_Compare_int_int.l0 k l0 l1 l0 (l0.length : Int) 0
theorem slices_Compare_int_int.mono_l : ∀ k, (∀ y0 y1 y2 y3 y4, LeO (slices_Compare_int_int.l0 k y0 y1 y2 y3 y4) (slices_Compare_int_int.l0 (k + 1) y0 y1 y2 y3 y4))
 | 0 => fun _ _ _ _ _ r h => by simp [slices_Compare_int_int.l0] at h
 | k + 1 => by
  have ih0 := slices_Compare_int_int.mono_l k
  ·intro y0 y1 y2 y3 y4
   unfold slices_Compare_int_int.l0
   repeat' first
   | (with_reducible exact ih0 _ _ _ _ _)
   | (with_reducible exact LeO.refl _)
   | (with_reducible exact LeO.none _)
   | (with_reducible refine LeO.ite ?_ ?_)
   | (with_reducible refine LeO.bind ?_ (fun _ => ?_))
   | exact ih0 _ _ _ _ _
   | exact LeO.none _
   | refine LeO.ite ?_ ?_
   | refine LeO.bind ?_ (fun _ => ?_)
theorem slices_Compare_int_int.mono : ∀ a0 a1 k, LeO (slices_Compare_int_int.f k a0 a1) (slices_Compare_int_int.f (k + 1) a0 a1) := by
 intro a0 a1 k
 have ih0 := slices_Compare_int_int.mono_l k
 unfold slices_Compare_int_int.f
 repeat' first
   | (with_reducible exact ih0 _ _ _ _ _)
   | (with_reducible exact LeO.refl _)
   | (with_reducible exact LeO.none _)
   | (with_reducible refine LeO.ite ?_ ?_)
   | (with_reducible refine LeO.bind ?_ (fun _ => ?_))
   | exact ih0 _ _ _ _ _
   | exact LeO.none _
   | refine LeO.ite ?_ ?_
   | refine LeO.bind ?_ (fun _ => ?_)
set_option maxHeartbeats 8000000 in
set_option maxRecDepth 100000 in
theorem slices_Compare_int_int.calls (k : Nat) (A0 : Option Addr) (c0 : Nat) (l0 : List Int) (A1 : Option Addr) (c1 : Nat) (l1 : List Int) (r : Int) (w : World) (hr0 : Kd.C (Kd.int .i64) w A0 l0.length l0) (hc0 : l0.length ≤ c0) (hr1 : Kd.C (Kd.int .i64) w A1 l1.length l1) (hc1 : l1.length ≤ c1) (h : slices_Compare_int_int.f k l0 l1 = some r) :
  Calls Try.prog 70 #[.slice A0 l0.length c0, .slice A1 l1.length c1] w fun e w' => e = .returned (.int .i64 r) ∧ Drawn0 w w' := by
 have HR0 := Aside0.mk hr0
 have HC0 := Aside0.mk hc0
 clear hr0 hc0
 have HR1 := Aside0.mk hr1
 have HC1 := Aside0.mk hc1
 clear hr1 hc1
 have H : (slices_Compare_int_int.l0 k l0 l1 l0 (l0.length : Int) 0) = some r := h
 clear h
 have H' := Aside0.mk H
 clear H
 go_enter Try.func70, Try.ntmps70
 go_wp2
 go_loopg [11] k (fun kq v11 w' => ∃ (x11_1 : Int), v11 = .int .i64 x11_1 ∧ Aside0 (slices_Compare_int_int.l0 kq l0 l1 l0 (l0.length : Int) x11_1 = some r) ∧ Aside0 (kq ≤ k) ∧ Drawn0 w w')
 case atStart => exact ⟨(0), qgcosts_12, H', ⟨Nat.le_refl _⟩, qgcosts_20⟩
 clear H'
 try clear c1
 try clear p2
 obtain ⟨x11_1, rfl, HA, HK1, ⟨m1, rfl⟩⟩ := hrel
 cases gk with
 | zero => exact absurd HA.out (by simp [slices_Compare_int_int.l0])
 | succ k1 =>
  have H := HA.out
  clear HA
  simp only [slices_Compare_int_int.l0] at H
  by_cases c3 : x11_1 < (l0.length : Int)
  rotate_left
  ·rw [if_neg c3] at H
   have c3b0 : decide (x11_1 < (l0.length : Int)) = false := decide_eq_false c3
   clear c3
   by_cases c10 : (l0.length : Int) < (l1.length : Int)
   ·rw [if_pos c10] at H
    have c10b0 : decide ((l0.length : Int) < (l1.length : Int)) = true := decide_eq_true c10
    have c10b1 : decide (l0.length < l1.length) = true := decide_eq_true (Int.ofNat_lt.mp c10)
    clear c10
    obtain rfl := Option.some.inj H
    go_wp2
    go_ret
    exact ⟨qgcosts_12, qgcosts_20⟩
   rw [if_neg c10] at H
   have c10b0 : decide ((l0.length : Int) < (l1.length : Int)) = false := decide_eq_false c10
   have c10b1 : decide (l0.length < l1.length) = false := decide_eq_false (fun h => c10 (Int.ofNat_lt.mpr h))
   clear c10
   obtain rfl := Option.some.inj H
   go_wp2
   go_ret
   exact ⟨qgcosts_12, qgcosts_20⟩
  rw [if_pos c3] at H
  have c3b0 : decide (x11_1 < (l0.length : Int)) = true := decide_eq_true c3
  clear c3
  by_cases c4 : 0 ≤ x11_1
  rotate_left
  ·rw [if_neg c4] at H
   exact absurd H (by simp)
  rw [if_pos c4] at H
  have c4b0 : decide (0 ≤ x11_1) = true := decide_eq_true c4
  clear c4
  by_cases c5 : x11_1 < (l0.length : Int)
  rotate_left
  ·rw [if_neg c5] at H
   exact absurd H (by simp)
  rw [if_pos c5] at H
  have c5b0 : decide (x11_1 < (l0.length : Int)) = true := decide_eq_true c5
  clear c5
  by_cases c6 : x11_1 ≥ (l1.length : Int)
  ·rw [if_pos c6] at H
   have c6b0 : decide ((l1.length : Int) ≤ x11_1) = true := decide_eq_true c6
   clear c6
   obtain rfl := Option.some.inj H
   have p171 : 0 ≤ (x11_1 : Int) := of_decide_eq_true qgcosts_1
   have q171 : x11_1 < (l0.length : Int) := of_decide_eq_true qgcosts_1
   obtain ⟨ad171, e171, hx171_0⟩ := Kd.at_int HR0.out x11_1 p171 q171
   cases e171
   replace p171 := eq_true p171
   replace q171 := eq_true q171
   go_wp2
   go_ret
   exact ⟨qgcosts_12, qgcosts_20⟩
  rw [if_neg c6] at H
  have c6b0 : decide ((l1.length : Int) ≤ x11_1) = false := decide_eq_false c6
  clear c6
  by_cases c7 : x11_1 < (l1.length : Int)
  rotate_left
  ·rw [if_neg c7] at H
   exact absurd H (by simp)
  rw [if_pos c7] at H
  have c7b0 : decide (x11_1 < (l1.length : Int)) = true := decide_eq_true c7
  clear c7
  replace H := Option.bind_eq_some_iff.mp H
  obtain ⟨t173, A80, H⟩ := H
  replace H : (if t173 = 0 then (slices_Compare_int_int.l0 k1 l0 l1 l0 (l0.length : Int) (wrap64 (x11_1 + 1))) else (some t173)) = some r := H
  have A8 := Aside0.mk A80
  clear A80
  by_cases c9 : t173 = 0
  rotate_left
  ·rw [if_neg c9] at H
   have c9b0 : (t173 == 0) = false := beq_eq_false_iff_ne.mpr c9
   have c9b1 : (t173 != 0) = true := bne_iff_ne.mpr c9
   obtain rfl := Option.some.inj H
   have p171 : 0 ≤ (x11_1 : Int) := of_decide_eq_true qgcosts_1
   have q171 : x11_1 < (l0.length : Int) := of_decide_eq_true qgcosts_1
   obtain ⟨ad171, e171, hx171_0⟩ := Kd.at_int HR0.out x11_1 p171 q171
   cases e171
   replace p171 := eq_true p171
   replace q171 := eq_true q171
   have p172 : 0 ≤ (x11_1 : Int) := of_decide_eq_true qgcosts_1
   have q172 : x11_1 < (l1.length : Int) := of_decide_eq_true qgcosts_1
   obtain ⟨ad172, e172, hx172_0⟩ := Kd.at_int HR1.out x11_1 p172 q172
   cases e172
   replace p172 := eq_true p172
   replace q172 := eq_true q172
   go_wp2_with (first | ((with_reducible refine gate_callee (f := 53) rfl ?_); refine goesL_ (some 26) rfl rfl Try.func53 (by kernel_rfl) rfl #[.int .i64 (rd l0 x11_1), .int .i64 (rd l1 x11_1)] rfl qgcosts_6 ?_; (with_reducible refine (cmp_Compare_int.calls (rd l0 x11_1) (rd l1 x11_1) t173 _ A8.out).mono ?_); rintro e w' ⟨rfl, ⟨nd, rfl⟩⟩; refine ⟨_, rfl, ?_⟩))
   go_ret
   exact ⟨qgcosts_12, qgcosts_20⟩
  rw [if_pos c9] at H
  have c9b0 : (t173 == 0) = true := beq_iff_eq.mpr c9
  have c9b1 : (t173 != 0) = false := bne_eq_false_iff_eq.mpr c9
  clear c9
  have H' := Aside0.mk H
  clear H
  have p171 : 0 ≤ (x11_1 : Int) := of_decide_eq_true qgcosts_1
  have q171 : x11_1 < (l0.length : Int) := of_decide_eq_true qgcosts_1
  obtain ⟨ad171, e171, hx171_0⟩ := Kd.at_int HR0.out x11_1 p171 q171
  cases e171
  replace p171 := eq_true p171
  replace q171 := eq_true q171
  have p172 : 0 ≤ (x11_1 : Int) := of_decide_eq_true qgcosts_1
  have q172 : x11_1 < (l1.length : Int) := of_decide_eq_true qgcosts_1
  obtain ⟨ad172, e172, hx172_0⟩ := Kd.at_int HR1.out x11_1 p172 q172
  cases e172
  replace p172 := eq_true p172
  replace q172 := eq_true q172
  go_wp2_with (first | ((with_reducible refine gate_callee (f := 53) rfl ?_); refine goesL_ (some 26) rfl rfl Try.func53 (by kernel_rfl) rfl #[.int .i64 (rd l0 x11_1), .int .i64 (rd l1 x11_1)] rfl qgcosts_6 ?_; (with_reducible refine (cmp_Compare_int.calls (rd l0 x11_1) (rd l1 x11_1) t173 _ A8.out).mono ?_); rintro e w' ⟨rfl, ⟨nd, rfl⟩⟩; refine ⟨_, rfl, ?_⟩))
  go_roundg k1
  case measure => have := HK1.out; omega
  case rel => exact ⟨(wrap64 (x11_1 + 1)), qgcosts_12, H', ⟨by have := HK1.out; omega⟩, qgcosts_20⟩

/-! ### segmentation_best_better: function 62 -/
def segmentation_best_better.f (k : Nat) (a0_0 : Int) (l0_1 : List Int) (a1_0 : Int) (l1_1 : List Int) : Option (Bool) := if a0_0 = a1_0 then (if (l0_1.length : Int) = (l1_1.length : Int) then ((slices_Compare_int_int.f k l0_1 l1_1).bind fun t176 => (some (decide (t176 < 0)))) else (some (decide ((l0_1.length : Int) < (l1_1.length : Int))))) else (some (decide (a0_0 < a1_0)))
theorem segmentation_best_better.mono : ∀ a0 a1 a2 a3 k, LeO (segmentation_best_better.f k a0 a1 a2 a3) (segmentation_best_better.f (k + 1) a0 a1 a2 a3) := by
 intro a0 a1 a2 a3 k
 unfold segmentation_best_better.f
 repeat' first
   | (with_reducible exact slices_Compare_int_int.mono _ _ _)
   | (with_reducible exact LeO.refl _)
   | (with_reducible exact LeO.none _)
   | (with_reducible refine LeO.ite ?_ ?_)
   | (with_reducible refine LeO.bind ?_ (fun _ => ?_))
   | exact slices_Compare_int_int.mono _ _ _
   | exact LeO.none _
   | refine LeO.ite ?_ ?_
   | refine LeO.bind ?_ (fun _ => ?_)
set_option maxHeartbeats 8000000 in
set_option maxRecDepth 100000 in
theorem segmentation_best_better.calls (k : Nat) (a0_0 : Int) (A0_1 : Option Addr) (c0_1 : Nat) (l0_1 : List Int) (a1_0 : Int) (A1_1 : Option Addr) (c1_1 : Nat) (l1_1 : List Int) (r : Bool) (w : World) (hr0_1 : Kd.C (Kd.int .i64) w A0_1 l0_1.length l0_1) (hc0_1 : l0_1.length ≤ c0_1) (hr1_1 : Kd.C (Kd.int .i64) w A1_1 l1_1.length l1_1) (hc1_1 : l1_1.length ≤ c1_1) (h : segmentation_best_better.f k a0_0 l0_1 a1_0 l1_1 = some r) :
  Calls Try.prog 62 #[.agg #[.int .i64 a0_0, .slice A0_1 l0_1.length c0_1], .agg #[.int .i64 a1_0, .slice A1_1 l1_1.length c1_1]] w fun e w' => e = .returned (.bool r) ∧ Below w.heap.size w w' := by
 have hu108 := Try.underlying108
 have HR0_1 := Aside0.mk hr0_1
 have HC0_1 := Aside0.mk hc0_1
 clear hr0_1 hc0_1
 have HR1_1 := Aside0.mk hr1_1
 have HC1_1 := Aside0.mk hc1_1
 clear hr1_1 hc1_1
 have HB := Aside0.mk (Below.refl w.heap.size w)
 have H : (if a0_0 = a1_0 then (if (l0_1.length : Int) = (l1_1.length : Int) then ((slices_Compare_int_int.f k l0_1 l1_1).bind fun t176 => (some (decide (t176 < 0)))) else (some (decide ((l0_1.length : Int) < (l1_1.length : Int))))) else (some (decide (a0_0 < a1_0)))) = some r := h
 clear h
 by_cases c3 : a0_0 = a1_0
 rotate_left
 ·rw [if_neg c3] at H
  have c3b0 : (a0_0 == a1_0) = false := beq_eq_false_iff_ne.mpr c3
  have c3b1 : (a0_0 != a1_0) = true := bne_iff_ne.mpr c3
  obtain rfl := Option.some.inj H
  go_enter Try.func62, Try.ntmps62
  go_wp2_with (first | ((with_reducible refine gate_dst (N := 2) rfl ?_); refine box_event ?hg (N := 2) ?hd (cs := #[.int .i64 a0_0, .slice A0_1 l0_1.length c0_1]) (t := 108) ?hr ?_; (case hd => rfl); (case hg => rfl); (case hr => exact qgcosts_16); intro gb174 hg w16 hbox hb; have n0_ := Aside0.mk (below_step qgcosts_0 hb); have n1_ := Aside0.mk (hbox); have n2_ := Aside0.mk ((by rw [hg]; exact (below_size qgcosts_0) : w.heap.size ≤ gb174)); have n3_ := Aside0.mk ((by rw [hg]; exact (below_size qgcosts_0) : w.heap.size ≤ gb174)); clear HB; have HB := n0_; have BK174 := n1_; have GW174 := n2_; have GE174 := n3_; clear n0_ n1_ n2_ n3_; clear hb hbox hg) | ((with_reducible refine gate_dst (N := 3) rfl ?_); refine box_event ?hg (N := 3) ?hd (cs := #[.int .i64 a1_0, .slice A1_1 l1_1.length c1_1]) (t := 108) ?hr ?_; (case hd => rfl); (case hg => rfl); (case hr => exact qgcosts_16); intro gb175 hg w17 hbox hb; have n0_ := Aside0.mk (blk_below (g := gb174) (o := .cells #[.int .i64 a0_0, .slice A0_1 l0_1.length c0_1] 108 (0, 0)) qgcosts_8 hb); have n1_ := Aside0.mk (below_step qgcosts_5 hb); have n2_ := Aside0.mk (hbox); have n3_ := Aside0.mk ((by rw [hg]; exact (below_size qgcosts_5) : w.heap.size ≤ gb175)); have n4_ := Aside0.mk ((by rw [hg]; exact (below_size qgcosts_5) : w.heap.size ≤ gb175)); have n5_ := Aside0.mk ((by rw [hg]; exact Nat.ne_of_lt (blk_lt (g := gb174) (o := .cells #[.int .i64 a0_0, .slice A0_1 l0_1.length c0_1] 108 (0, 0)) qgcosts_8) : gb174 ≠ gb175)); have n6_ := Aside0.mk ((by rw [hg]; exact Nat.ne_of_gt (blk_lt (g := gb174) (o := .cells #[.int .i64 a0_0, .slice A0_1 l0_1.length c0_1] 108 (0, 0)) qgcosts_8) : gb175 ≠ gb174)); clear BK174; clear HB; have BK174 := n0_; have HB := n1_; have BK175 := n2_; have GW175 := n3_; have GE175 := n4_; have NB174_175 := n5_; have NB175_174 := n6_; clear n0_ n1_ n2_ n3_ n4_ n5_ n6_; clear hb hbox hg; have hnb18 := NB174_175.out; have hnc18 := NB175_174.out; have hcz19_0 : w17.cell? ⟨gb174, 0, none⟩ = some (.int .i64 a0_0) := (blk_cell BK174.out 0).trans rfl; have hcz19_1 : w17.cell? ⟨gb174, 1, none⟩ = some (.slice A0_1 l0_1.length c0_1) := (blk_cell BK174.out 1).trans rfl; have hfz19_0 := blk_frozen BK174.out 0; have hfz19_1 := blk_frozen BK174.out 1; have hcz20_0 : w17.cell? ⟨gb175, 0, none⟩ = some (.int .i64 a1_0) := (blk_cell BK175.out 0).trans rfl; have hcz20_1 : w17.cell? ⟨gb175, 1, none⟩ = some (.slice A1_1 l1_1.length c1_1) := (blk_cell BK175.out 1).trans rfl; have hfz20_0 := blk_frozen BK175.out 0; have hfz20_1 := blk_frozen BK175.out 1))
  go_ret
  exact ⟨qgcosts_15, qgcosts_17⟩
 rw [if_pos c3] at H
 have c3b0 : (a0_0 == a1_0) = true := beq_iff_eq.mpr c3
 have c3b1 : (a0_0 != a1_0) = false := bne_eq_false_iff_eq.mpr c3
 clear c3
 by_cases c4 : (l0_1.length : Int) = (l1_1.length : Int)
 rotate_left
 ·rw [if_neg c4] at H
  have c4b0 : ((l0_1.length : Int) == (l1_1.length : Int)) = false := beq_eq_false_iff_ne.mpr c4
  have c4b1 : ((l0_1.length : Int) != (l1_1.length : Int)) = true := bne_iff_ne.mpr c4
  have c4b2 : (l0_1.length == l1_1.length) = false := by first | simpa using c4 | (simp at c4 ⊢; omega)
  obtain rfl := Option.some.inj H
  go_enter Try.func62, Try.ntmps62
  go_wp2_with (first | ((with_reducible refine gate_dst (N := 2) rfl ?_); refine box_event ?hg (N := 2) ?hd (cs := #[.int .i64 a0_0, .slice A0_1 l0_1.length c0_1]) (t := 108) ?hr ?_; (case hd => rfl); (case hg => rfl); (case hr => exact qgcosts_16); intro gb174 hg w11 hbox hb; have n0_ := Aside0.mk (below_step qgcosts_0 hb); have n1_ := Aside0.mk (hbox); have n2_ := Aside0.mk ((by rw [hg]; exact (below_size qgcosts_0) : w.heap.size ≤ gb174)); have n3_ := Aside0.mk ((by rw [hg]; exact (below_size qgcosts_0) : w.heap.size ≤ gb174)); clear HB; have HB := n0_; have BK174 := n1_; have GW174 := n2_; have GE174 := n3_; clear n0_ n1_ n2_ n3_; clear hb hbox hg) | ((with_reducible refine gate_dst (N := 3) rfl ?_); refine box_event ?hg (N := 3) ?hd (cs := #[.int .i64 a1_0, .slice A1_1 l1_1.length c1_1]) (t := 108) ?hr ?_; (case hd => rfl); (case hg => rfl); (case hr => exact qgcosts_16); intro gb175 hg w12 hbox hb; have n0_ := Aside0.mk (blk_below (g := gb174) (o := .cells #[.int .i64 a0_0, .slice A0_1 l0_1.length c0_1] 108 (0, 0)) qgcosts_8 hb); have n1_ := Aside0.mk (below_step qgcosts_5 hb); have n2_ := Aside0.mk (hbox); have n3_ := Aside0.mk ((by rw [hg]; exact (below_size qgcosts_5) : w.heap.size ≤ gb175)); have n4_ := Aside0.mk ((by rw [hg]; exact (below_size qgcosts_5) : w.heap.size ≤ gb175)); have n5_ := Aside0.mk ((by rw [hg]; exact Nat.ne_of_lt (blk_lt (g := gb174) (o := .cells #[.int .i64 a0_0, .slice A0_1 l0_1.length c0_1] 108 (0, 0)) qgcosts_8) : gb174 ≠ gb175)); have n6_ := Aside0.mk ((by rw [hg]; exact Nat.ne_of_gt (blk_lt (g := gb174) (o := .cells #[.int .i64 a0_0, .slice A0_1 l0_1.length c0_1] 108 (0, 0)) qgcosts_8) : gb175 ≠ gb174)); clear BK174; clear HB; have BK174 := n0_; have HB := n1_; have BK175 := n2_; have GW175 := n3_; have GE175 := n4_; have NB174_175 := n5_; have NB175_174 := n6_; clear n0_ n1_ n2_ n3_ n4_ n5_ n6_; clear hb hbox hg; have hnb13 := NB174_175.out; have hnc13 := NB175_174.out; have hcz14_0 : w12.cell? ⟨gb174, 0, none⟩ = some (.int .i64 a0_0) := (blk_cell BK174.out 0).trans rfl; have hcz14_1 : w12.cell? ⟨gb174, 1, none⟩ = some (.slice A0_1 l0_1.length c0_1) := (blk_cell BK174.out 1).trans rfl; have hfz14_0 := blk_frozen BK174.out 0; have hfz14_1 := blk_frozen BK174.out 1; have hcz15_0 : w12.cell? ⟨gb175, 0, none⟩ = some (.int .i64 a1_0) := (blk_cell BK175.out 0).trans rfl; have hcz15_1 : w12.cell? ⟨gb175, 1, none⟩ = some (.slice A1_1 l1_1.length c1_1) := (blk_cell BK175.out 1).trans rfl; have hfz15_0 := blk_frozen BK175.out 0; have hfz15_1 := blk_frozen BK175.out 1))
  go_ret
  exact ⟨qgcosts_15, qgcosts_17⟩
 rw [if_pos c4] at H
 have c4b0 : ((l0_1.length : Int) == (l1_1.length : Int)) = true := beq_iff_eq.mpr c4
 have c4b1 : ((l0_1.length : Int) != (l1_1.length : Int)) = false := bne_eq_false_iff_eq.mpr c4
 have c4b2 : (l0_1.length == l1_1.length) = true := by first | simpa using c4 | (simp at c4 ⊢; omega)
 clear c4
 replace H := Option.bind_eq_some_iff.mp H
 obtain ⟨t176, A50, H⟩ := H
 replace H : (some (decide (t176 < 0))) = some r := H
 have A5 := Aside0.mk A50
 clear A50
 obtain rfl := Option.some.inj H
 go_enter Try.func62, Try.ntmps62
 go_wp2_with (first | ((with_reducible refine gate_dst (N := 2) rfl ?_); refine box_event ?hg (N := 2) ?hd (cs := #[.int .i64 a0_0, .slice A0_1 l0_1.length c0_1]) (t := 108) ?hr ?_; (case hd => rfl); (case hg => rfl); (case hr => exact qgcosts_16); intro gb174 hg w6 hbox hb; have n0_ := Aside0.mk (below_step qgcosts_0 hb); have n1_ := Aside0.mk (hbox); have n2_ := Aside0.mk ((by rw [hg]; exact (below_size qgcosts_0) : w.heap.size ≤ gb174)); have n3_ := Aside0.mk ((by rw [hg]; exact (below_size qgcosts_0) : w.heap.size ≤ gb174)); clear HB; have HB := n0_; have BK174 := n1_; have GW174 := n2_; have GE174 := n3_; clear n0_ n1_ n2_ n3_; clear hb hbox hg) | ((with_reducible refine gate_dst (N := 3) rfl ?_); refine box_event ?hg (N := 3) ?hd (cs := #[.int .i64 a1_0, .slice A1_1 l1_1.length c1_1]) (t := 108) ?hr ?_; (case hd => rfl); (case hg => rfl); (case hr => exact qgcosts_16); intro gb175 hg w7 hbox hb; have n0_ := Aside0.mk (blk_below (g := gb174) (o := .cells #[.int .i64 a0_0, .slice A0_1 l0_1.length c0_1] 108 (0, 0)) qgcosts_8 hb); have n1_ := Aside0.mk (below_step qgcosts_5 hb); have n2_ := Aside0.mk (hbox); have n3_ := Aside0.mk ((by rw [hg]; exact (below_size qgcosts_5) : w.heap.size ≤ gb175)); have n4_ := Aside0.mk ((by rw [hg]; exact (below_size qgcosts_5) : w.heap.size ≤ gb175)); have n5_ := Aside0.mk ((by rw [hg]; exact Nat.ne_of_lt (blk_lt (g := gb174) (o := .cells #[.int .i64 a0_0, .slice A0_1 l0_1.length c0_1] 108 (0, 0)) qgcosts_8) : gb174 ≠ gb175)); have n6_ := Aside0.mk ((by rw [hg]; exact Nat.ne_of_gt (blk_lt (g := gb174) (o := .cells #[.int .i64 a0_0, .slice A0_1 l0_1.length c0_1] 108 (0, 0)) qgcosts_8) : gb175 ≠ gb174)); clear BK174; clear HB; have BK174 := n0_; have HB := n1_; have BK175 := n2_; have GW175 := n3_; have GE175 := n4_; have NB174_175 := n5_; have NB175_174 := n6_; clear n0_ n1_ n2_ n3_ n4_ n5_ n6_; clear hb hbox hg; have hnb8 := NB174_175.out; have hnc8 := NB175_174.out; have hcz9_0 : w7.cell? ⟨gb174, 0, none⟩ = some (.int .i64 a0_0) := (blk_cell BK174.out 0).trans rfl; have hcz9_1 : w7.cell? ⟨gb174, 1, none⟩ = some (.slice A0_1 l0_1.length c0_1) := (blk_cell BK174.out 1).trans rfl; have hfz9_0 := blk_frozen BK174.out 0; have hfz9_1 := blk_frozen BK174.out 1; have hcz10_0 : w7.cell? ⟨gb175, 0, none⟩ = some (.int .i64 a1_0) := (blk_cell BK175.out 0).trans rfl; have hcz10_1 : w7.cell? ⟨gb175, 1, none⟩ = some (.slice A1_1 l1_1.length c1_1) := (blk_cell BK175.out 1).trans rfl; have hfz10_0 := blk_frozen BK175.out 0; have hfz10_1 := blk_frozen BK175.out 1) | ((with_reducible refine gate_callee (f := 70) rfl ?_); refine goesL_ (some 33) rfl rfl Try.func70 (by kernel_rfl) rfl #[.slice A0_1 l0_1.length c0_1, .slice A1_1 l1_1.length c1_1] rfl qgcosts_6 ?_; (with_reducible refine (slices_Compare_int_int.calls k _ _ l0_1 _ _ l1_1 t176 _ ?side1 ?side2 ?side3 ?side4 A5.out).mono ?_); (case side1 => repeat (first | exact (Kd.C_below HR0_1.out HB.out) | (with_reducible refine Kd.C_alloc ?_ _) | (with_reducible refine Kd.C_drewN ?_ _) | (with_reducible refine Kd.C_drew ?_))); (case side2 => exact HC0_1.out); (case side3 => repeat (first | exact (Kd.C_below HR1_1.out HB.out) | (with_reducible refine Kd.C_alloc ?_ _) | (with_reducible refine Kd.C_drewN ?_ _) | (with_reducible refine Kd.C_drew ?_))); (case side4 => exact HC1_1.out); rintro e w' ⟨rfl, ⟨nd, rfl⟩⟩; refine ⟨_, rfl, ?_⟩))
 go_ret
 exact ⟨qgcosts_15, qgcosts_17⟩

-- NOT PRINTED: function 67 (slices_IndexFunc_int_int)

-- NOT PRINTED: function 63 (slices_DeleteFunc_int_int)

end Go.Proofs.Ytcjgmofgfblmnaa.Q
