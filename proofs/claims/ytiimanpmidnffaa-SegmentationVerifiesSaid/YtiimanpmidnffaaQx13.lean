-- Laid by myprint.py (a program of this session's, over the kit's printer and with functions proved by hand)
import Derived.Test.YtiimanpmidnffaaQx0
import Derived.Test.YtiimanpmidnffaaQx7
import Derived.Test.YtiimanpmidnffaaQx8
import Derived.Test.YtiimanpmidnffaaQx9
import Derived.Test.YtiimanpmidnffaaQy4
import Derived.Test.YtiimanpmidnffaaQx12
namespace Go.Proofs.Ytiimanpmidnffaa.Q
open Go.RowKit Go.Proofs.YtiimanpmidnffaaW.PrintWords Go.Proofs.YtiimanpmidnffaaW.PrintLast Go.Proofs.YtiimanpmidnffaaW.PrintMore
attribute [local go_sem] max2_int min2_int max_two min_two max_three min_three max_four min_four   -- for this text's walks alone
set_option linter.unusedVariables false
set_option linter.unusedSimpArgs false

theorem qx13_0 {p : Prop} (h : p := by repeat (first | (with_reducible first | exact HB.out | apply below_alloc | apply pw_below_drewN | apply below_drew1 | refine below_set ?_ GE415.out | refine below_set ?_ GE430.out) | exact HB.out)) : p := h
theorem qx13_1 {p : Prop} (h : p := by repeat (first | (with_reducible first | exact HB.out | apply below_alloc | apply pw_below_drewN | apply below_drew1 | refine below_set ?_ GE415.out) | exact HB.out)) : p := h
theorem qx13_2 {p : Prop} (h : p := by (with_reducible repeat (first | refine blk_drewN ?_ _ | refine blk_drew ?_ | refine blk_alloc ?_ _)); exact BK415.out) : p := h
theorem qx13_3 {p : Prop} (h : p := by (with_reducible repeat (first | apply Kd.R_alloc | apply Kd.R_drewN | apply Kd.R_drew)); exact (Kd.R_mono (Kd.R_far (p := ⟨gb430, 1, none⟩) (Kd.R_far (p := ⟨gb430, 0, none⟩) (Kd.R_types HO_7.out BK430.out (by decide)) (fun _ hk => hk.2) (.slice A2_1 l2_1.length c2_1)) (fun _ hk => hk.2) (.int .i64 0)) (fun _ h_ => h_.1))) : p := h
theorem qx13_4 {p : Prop} (h : p := by (try simp only [List.map_toArray, List.map_cons, List.map_nil]); first | done | rfl | (simp only [List.length_drop, List.length_take]; rfl)) : p := h
theorem qx13_5 {p : Prop} (h : p := by (with_reducible repeat (first | apply Kd.R_alloc | apply Kd.R_drewN | apply Kd.R_drew)); exact (Kd.R_mono (Kd.R_far (p := ⟨gb430, 1, none⟩) (Kd.R_types HO_7.out BK430.out (by decide)) (fun _ hk => hk.2) (.int .i64 (wrap64 (t431 + (wrap64 (a2_2)))))) (fun _ h_ => h_.1))) : p := h
theorem qx13_6 {p : Prop} (h : p := by (with_reducible repeat (first | apply Kd.R_alloc | apply Kd.R_drewN | apply Kd.R_drew)); exact (Kd.R_mono (Kd.R_far (p := ⟨gb430, 1, none⟩) (Kd.R_types HO_9.out BK430.out (by decide)) (fun _ hk => hk.2) (.int .i64 (wrap64 (t431 + (wrap64 (a2_2)))))) (fun _ h_ => h_.1))) : p := h
theorem qx13_7 {p : Prop} (h : p := by (with_reducible repeat (first | refine blk_drewN ?_ _ | refine blk_drew ?_ | refine blk_alloc ?_ _)); refine blk_put (cs := #[.slice A2_1 l2_1.length c2_1, .int .i64 0]) ?_ 1 _ rfl; (with_reducible repeat (first | refine blk_drewN ?_ _ | refine blk_drew ?_ | refine blk_alloc ?_ _)); refine blk_put (cs := #[.slice none 0 0, .int .i64 0]) ?_ 0 _ rfl; (with_reducible repeat (first | refine blk_drewN ?_ _ | refine blk_drew ?_ | refine blk_alloc ?_ _)); exact BK430.out) : p := h
theorem qx13_8 {p : Prop} (h : p := by (with_reducible repeat (first | apply Kd.R_alloc | apply Kd.R_drewN | apply Kd.R_drew)); exact HO_7.out) : p := h
theorem qx13_9 {p : Prop} (h : p := by (with_reducible repeat (first | apply Kd.R_alloc | apply Kd.R_drewN | apply Kd.R_drew)); exact HO_9.out) : p := h
theorem qx13_10 {p : Prop} (h : p := by (with_reducible repeat (first | refine blk_drewN ?_ _ | refine blk_drew ?_ | refine blk_alloc ?_ _)); refine blk_far ?_ NB415_430.out _; (with_reducible repeat (first | refine blk_drewN ?_ _ | refine blk_drew ?_ | refine blk_alloc ?_ _)); refine blk_far ?_ NB415_430.out _; (with_reducible repeat (first | refine blk_drewN ?_ _ | refine blk_drew ?_ | refine blk_alloc ?_ _)); exact BK415.out) : p := h
theorem qx13_11 {p : Prop} (h : p := by (with_reducible repeat (first | apply Kd.R_alloc | apply Kd.R_drewN | apply Kd.R_drew)); exact (Kd.R_mono (Kd.R_far (p := ⟨gb430, 1, none⟩) (Kd.R_far (p := ⟨gb430, 0, none⟩) (Kd.R_types HO_9.out BK430.out (by decide)) (fun _ hk => hk.2) (.slice A2_1 l2_1.length c2_1)) (fun _ hk => hk.2) (.int .i64 0)) (fun _ h_ => h_.1))) : p := h
theorem qx13_12 {p : Prop} (h : p := by (with_reducible repeat (first | refine blk_drewN ?_ _ | refine blk_drew ?_ | refine blk_alloc ?_ _)); refine blk_put (cs := #[.slice A2_1 l2_1.length c2_1, .int .i64 0]) ?_ 1 _ rfl; (with_reducible repeat (first | refine blk_drewN ?_ _ | refine blk_drew ?_ | refine blk_alloc ?_ _)); exact BK430.out) : p := h
theorem qx13_13 {p : Prop} (h : p := by (with_reducible repeat (first | refine blk_drewN ?_ _ | refine blk_drew ?_ | refine blk_alloc ?_ _)); refine blk_far ?_ NB415_430.out _; (with_reducible repeat (first | refine blk_drewN ?_ _ | refine blk_drew ?_ | refine blk_alloc ?_ _)); exact BK415.out) : p := h
theorem qx13_14 {p : Prop} (h : p := by repeat (first | exact (Kd.R_reads' HO_7.out).2.2 | (with_reducible refine Kd.C_alloc ?_ _) | (with_reducible refine Kd.C_drewN ?_ _) | (with_reducible refine Kd.C_drew ?_))) : p := h
theorem qx13_15 {p : Prop} (h : p := by refine (Kd.R_reads' (e := 3) (base := w.heap.size) (ok := fun k_ => some k_ ≠ (u9 : Value).ownBlock) (n := t418.length) (c := co18) ?_).2.2; exact qx13_3) : p := h
theorem qx13_16 {p : Prop} (h : p := by first | rfl | (simp [errW_none, errW_some] <;> rfl) | (simp [*, errW_none, errW_some] <;> rfl)) : p := h
theorem qx13_17 {p : Prop} (h : p := by (with_reducible repeat (first | refine blk_drewN ?_ _ | refine blk_drew ?_ | refine blk_alloc ?_ _)); exact BK430.out) : p := h
theorem qx13_18 {p : Prop} (h : p := by repeat (first | exact (Kd.C_below HR2_1.out HB.out) | (with_reducible refine Kd.C_alloc ?_ _) | (with_reducible refine Kd.C_drewN ?_ _) | (with_reducible refine Kd.C_drew ?_))) : p := h
theorem qx13_19 {p : Prop} (h : p := by repeat (first | exact (Kd.R_reads' HO_9.out).2.2 | (with_reducible refine Kd.C_alloc ?_ _) | (with_reducible refine Kd.C_drewN ?_ _) | (with_reducible refine Kd.C_drew ?_))) : p := h
theorem qx13_20 {p : Prop} (h : p := by repeat (first | (with_reducible first | exact HB.out | apply below_alloc | apply pw_below_drewN | apply below_drew1) | exact HB.out)) : p := h
theorem qx13_21 {p : Prop} (h : p := by first | (with_reducible assumption) | assumption) : p := h
theorem qx13_22 {p : Prop} (h : p := by exact (Kd.R_reads' HO_7.out).2.1) : p := h
theorem qx13_23 {p : Prop} (h : p := by first | rfl | (simp; done) | (simp [*]; done)) : p := h
theorem qx13_24 {p : Prop} (h : p := by exact Kd.C_below HR2_1.out qx13_0) : p := h
/-! ### sleuthlaw44_SegmentationVerifies: function 5 -/
mutual
def sleuthlaw44_SegmentationVerifies.j0 : Nat → List Int → Int → Bool → List Int → List Int → Int → Bool → Option (Bool)
 | 0, _, _, _, _, _, _, _ => none
 | k + 1, x0, x1, x22, x416000, x416001, x416002, x416003 => if x22 = true then ((sleuthlaw44_known.f k).bind fun t417 => (some t417)) else ((sleuthlaw44_points.f k x0).bind fun t418 => ((sleuthlaw44_potentials.f k t418 (wrap64 (Int.tmod x1 64))).bind fun t421 => (sleuthlaw44_SegmentationVerifies.l0 k t418 (wrap64 (Int.tmod x1 64)) t421 0 x416000 x416001 x416002 x416003)))
def sleuthlaw44_SegmentationVerifies.j2 : Nat → List Int → Int → List Int → List Int → List Int → Int → Bool → Option (Bool)
 | 0, _, _, _, _, _, _, _ => none
 | k + 1, x7, x8, x9, x416000, x416001, x416002, x416003 => if x416003 = true then (if x9.length < 17592186044416 then (sleuthlaw44_SegmentationVerifies.j3 k x7 x8 (x9 ++ [0]) x416000 x416001 x416002 x416003) else (none)) else (sleuthlaw44_SegmentationVerifies.j3 k x7 x8 x9 x416000 x416001 x416002 x416003)
def sleuthlaw44_SegmentationVerifies.j3 : Nat → List Int → Int → List Int → List Int → List Int → Int → Bool → Option (Bool)
 | 0, _, _, _, _, _, _, _ => none
 | k + 1, x7, x8, x9, x416000, x416001, x416002, x416003 => (sleuthlaw44_total.f k x7 x8 x416001).bind fun bt431 => ((segmentation_Verify.f k x7 x8 x9 x416001 (wrap64 (bt431.1 + (wrap64 (x416002))))).bind fun t433 => (if bt431.2 = 0 then ((sleuthlaw44_proves.f k x7 x8 x9 x416001 (wrap64 (bt431.1 + (wrap64 (x416002))))).bind fun t434 => (if t434 = true then (if t433 = 0 then ((sleuthlaw44_best.f k x7 x8 (-1)).bind fun bt435 => (some ((wrap64 (bt431.1 + (wrap64 (x416002)))) == bt435.2))) else (some false)) else (some (t433 == 24)))) else (some (t433 == bt431.2))))
def sleuthlaw44_SegmentationVerifies.l0 : Nat → List Int → Int → List Int → Int → List Int → List Int → Int → Bool → Option (Bool)
 | 0, _, _, _, _, _, _, _, _ => none
 | k + 1, x7, x8, x9, x10, x416000, x416001, x416002, x416003 => if x10 < (x9.length : Int) then (if x10 < (x416000.length : Int) then (if 0 ≤ x10 then (sleuthlaw44_SegmentationVerifies.l0 k x7 x8 (x9.set (x10 : Int).toNat (wrap64 ((rd x9 x10) + (wrap64 (rd x416000 x10))))) (wrap64 (x10 + 1)) x416000 x416001 x416002 x416003) else (none)) else (sleuthlaw44_SegmentationVerifies.j2 k x7 x8 x9 x416000 x416001 x416002 x416003)) else (sleuthlaw44_SegmentationVerifies.j2 k x7 x8 x9 x416000 x416001 x416002 x416003)
end
def sleuthlaw44_SegmentationVerifies.f (k : Nat) (l0 : List Int) (a1 : Int) (l2_0 : List Int) (l2_1 : List Int) (a2_2 : Int) (a2_3 : Bool) : Option (Bool) := (sleuthlaw44_known.f k).bind fun t416 => (if t416 = true then (sleuthlaw44_SegmentationVerifies.j0 k l0 a1 (decide ((l2_1.length : Int) > 10)) l2_0 l2_1 a2_2 a2_3) else (sleuthlaw44_SegmentationVerifies.j0 k l0 a1 true l2_0 l2_1 a2_2 a2_3))
theorem sleuthlaw44_SegmentationVerifies.mono_l : ∀ k, (∀ y0 y1 y2 y3 y4 y5 y6, LeO (sleuthlaw44_SegmentationVerifies.j0 k y0 y1 y2 y3 y4 y5 y6) (sleuthlaw44_SegmentationVerifies.j0 (k + 1) y0 y1 y2 y3 y4 y5 y6)) ∧ (∀ y0 y1 y2 y3 y4 y5 y6, LeO (sleuthlaw44_SegmentationVerifies.j2 k y0 y1 y2 y3 y4 y5 y6) (sleuthlaw44_SegmentationVerifies.j2 (k + 1) y0 y1 y2 y3 y4 y5 y6)) ∧ (∀ y0 y1 y2 y3 y4 y5 y6, LeO (sleuthlaw44_SegmentationVerifies.j3 k y0 y1 y2 y3 y4 y5 y6) (sleuthlaw44_SegmentationVerifies.j3 (k + 1) y0 y1 y2 y3 y4 y5 y6)) ∧ (∀ y0 y1 y2 y3 y4 y5 y6 y7, LeO (sleuthlaw44_SegmentationVerifies.l0 k y0 y1 y2 y3 y4 y5 y6 y7) (sleuthlaw44_SegmentationVerifies.l0 (k + 1) y0 y1 y2 y3 y4 y5 y6 y7))
 | 0 => ⟨fun _ _ _ _ _ _ _ r h => by simp [sleuthlaw44_SegmentationVerifies.j0] at h, fun _ _ _ _ _ _ _ r h => by simp [sleuthlaw44_SegmentationVerifies.j2] at h, fun _ _ _ _ _ _ _ r h => by simp [sleuthlaw44_SegmentationVerifies.j3] at h, fun _ _ _ _ _ _ _ _ r h => by simp [sleuthlaw44_SegmentationVerifies.l0] at h⟩
 | k + 1 => by
  obtain ⟨ih0, ih1, ih2, ih3⟩ := sleuthlaw44_SegmentationVerifies.mono_l k
  refine ⟨?_, ?_, ?_, ?_⟩
  ·intro y0 y1 y2 y3 y4 y5 y6
   unfold sleuthlaw44_SegmentationVerifies.j0
   repeat' first
   | (with_reducible exact ih0 _ _ _ _ _ _ _)
   | (with_reducible exact ih1 _ _ _ _ _ _ _)
   | (with_reducible exact ih2 _ _ _ _ _ _ _)
   | (with_reducible exact ih3 _ _ _ _ _ _ _ _)
   | (with_reducible exact segmentation_Verify.mono _ _ _ _ _ _)
   | (with_reducible exact sleuthlaw44_best.mono _ _ _ _)
   | (with_reducible exact sleuthlaw44_known.mono _)
   | (with_reducible exact sleuthlaw44_points.mono _ _)
   | (with_reducible exact sleuthlaw44_potentials.mono _ _ _)
   | (with_reducible exact sleuthlaw44_proves.mono _ _ _ _ _ _)
   | (with_reducible exact sleuthlaw44_total.mono _ _ _ _)
   | (with_reducible exact LeO.refl _)
   | (with_reducible exact LeO.none _)
   | (with_reducible refine LeO.ite ?_ ?_)
   | (with_reducible refine LeO.bind ?_ (fun _ => ?_))
   | exact ih0 _ _ _ _ _ _ _
   | exact ih1 _ _ _ _ _ _ _
   | exact ih2 _ _ _ _ _ _ _
   | exact ih3 _ _ _ _ _ _ _ _
   | exact segmentation_Verify.mono _ _ _ _ _ _
   | exact sleuthlaw44_best.mono _ _ _ _
   | exact sleuthlaw44_known.mono _
   | exact sleuthlaw44_points.mono _ _
   | exact sleuthlaw44_potentials.mono _ _ _
   | exact sleuthlaw44_proves.mono _ _ _ _ _ _
   | exact sleuthlaw44_total.mono _ _ _ _
   | exact LeO.none _
   | refine LeO.ite ?_ ?_
   | refine LeO.bind ?_ (fun _ => ?_)
  ·intro y0 y1 y2 y3 y4 y5 y6
   unfold sleuthlaw44_SegmentationVerifies.j2
   repeat' first
   | (with_reducible exact ih0 _ _ _ _ _ _ _)
   | (with_reducible exact ih1 _ _ _ _ _ _ _)
   | (with_reducible exact ih2 _ _ _ _ _ _ _)
   | (with_reducible exact ih3 _ _ _ _ _ _ _ _)
   | (with_reducible exact segmentation_Verify.mono _ _ _ _ _ _)
   | (with_reducible exact sleuthlaw44_best.mono _ _ _ _)
   | (with_reducible exact sleuthlaw44_known.mono _)
   | (with_reducible exact sleuthlaw44_points.mono _ _)
   | (with_reducible exact sleuthlaw44_potentials.mono _ _ _)
   | (with_reducible exact sleuthlaw44_proves.mono _ _ _ _ _ _)
   | (with_reducible exact sleuthlaw44_total.mono _ _ _ _)
   | (with_reducible exact LeO.refl _)
   | (with_reducible exact LeO.none _)
   | (with_reducible refine LeO.ite ?_ ?_)
   | (with_reducible refine LeO.bind ?_ (fun _ => ?_))
   | exact ih0 _ _ _ _ _ _ _
   | exact ih1 _ _ _ _ _ _ _
   | exact ih2 _ _ _ _ _ _ _
   | exact ih3 _ _ _ _ _ _ _ _
   | exact segmentation_Verify.mono _ _ _ _ _ _
   | exact sleuthlaw44_best.mono _ _ _ _
   | exact sleuthlaw44_known.mono _
   | exact sleuthlaw44_points.mono _ _
   | exact sleuthlaw44_potentials.mono _ _ _
   | exact sleuthlaw44_proves.mono _ _ _ _ _ _
   | exact sleuthlaw44_total.mono _ _ _ _
   | exact LeO.none _
   | refine LeO.ite ?_ ?_
   | refine LeO.bind ?_ (fun _ => ?_)
  ·intro y0 y1 y2 y3 y4 y5 y6
   unfold sleuthlaw44_SegmentationVerifies.j3
   repeat' first
   | (with_reducible exact ih0 _ _ _ _ _ _ _)
   | (with_reducible exact ih1 _ _ _ _ _ _ _)
   | (with_reducible exact ih2 _ _ _ _ _ _ _)
   | (with_reducible exact ih3 _ _ _ _ _ _ _ _)
   | (with_reducible exact segmentation_Verify.mono _ _ _ _ _ _)
   | (with_reducible exact sleuthlaw44_best.mono _ _ _ _)
   | (with_reducible exact sleuthlaw44_known.mono _)
   | (with_reducible exact sleuthlaw44_points.mono _ _)
   | (with_reducible exact sleuthlaw44_potentials.mono _ _ _)
   | (with_reducible exact sleuthlaw44_proves.mono _ _ _ _ _ _)
   | (with_reducible exact sleuthlaw44_total.mono _ _ _ _)
   | (with_reducible exact LeO.refl _)
   | (with_reducible exact LeO.none _)
   | (with_reducible refine LeO.ite ?_ ?_)
   | (with_reducible refine LeO.bind ?_ (fun _ => ?_))
   | exact ih0 _ _ _ _ _ _ _
   | exact ih1 _ _ _ _ _ _ _
   | exact ih2 _ _ _ _ _ _ _
   | exact ih3 _ _ _ _ _ _ _ _
   | exact segmentation_Verify.mono _ _ _ _ _ _
   | exact sleuthlaw44_best.mono _ _ _ _
   | exact sleuthlaw44_known.mono _
   | exact sleuthlaw44_points.mono _ _
   | exact sleuthlaw44_potentials.mono _ _ _
   | exact sleuthlaw44_proves.mono _ _ _ _ _ _
   | exact sleuthlaw44_total.mono _ _ _ _
   | exact LeO.none _
   | refine LeO.ite ?_ ?_
   | refine LeO.bind ?_ (fun _ => ?_)
  ·intro y0 y1 y2 y3 y4 y5 y6 y7
   unfold sleuthlaw44_SegmentationVerifies.l0
   repeat' first
   | (with_reducible exact ih0 _ _ _ _ _ _ _)
   | (with_reducible exact ih1 _ _ _ _ _ _ _)
   | (with_reducible exact ih2 _ _ _ _ _ _ _)
   | (with_reducible exact ih3 _ _ _ _ _ _ _ _)
   | (with_reducible exact segmentation_Verify.mono _ _ _ _ _ _)
   | (with_reducible exact sleuthlaw44_best.mono _ _ _ _)
   | (with_reducible exact sleuthlaw44_known.mono _)
   | (with_reducible exact sleuthlaw44_points.mono _ _)
   | (with_reducible exact sleuthlaw44_potentials.mono _ _ _)
   | (with_reducible exact sleuthlaw44_proves.mono _ _ _ _ _ _)
   | (with_reducible exact sleuthlaw44_total.mono _ _ _ _)
   | (with_reducible exact LeO.refl _)
   | (with_reducible exact LeO.none _)
   | (with_reducible refine LeO.ite ?_ ?_)
   | (with_reducible refine LeO.bind ?_ (fun _ => ?_))
   | exact ih0 _ _ _ _ _ _ _
   | exact ih1 _ _ _ _ _ _ _
   | exact ih2 _ _ _ _ _ _ _
   | exact ih3 _ _ _ _ _ _ _ _
   | exact segmentation_Verify.mono _ _ _ _ _ _
   | exact sleuthlaw44_best.mono _ _ _ _
   | exact sleuthlaw44_known.mono _
   | exact sleuthlaw44_points.mono _ _
   | exact sleuthlaw44_potentials.mono _ _ _
   | exact sleuthlaw44_proves.mono _ _ _ _ _ _
   | exact sleuthlaw44_total.mono _ _ _ _
   | exact LeO.none _
   | refine LeO.ite ?_ ?_
   | refine LeO.bind ?_ (fun _ => ?_)
theorem sleuthlaw44_SegmentationVerifies.mono : ∀ a0 a1 a2 a3 a4 a5 k, LeO (sleuthlaw44_SegmentationVerifies.f k a0 a1 a2 a3 a4 a5) (sleuthlaw44_SegmentationVerifies.f (k + 1) a0 a1 a2 a3 a4 a5) := by
 intro a0 a1 a2 a3 a4 a5 k
 obtain ⟨ih0, ih1, ih2, ih3⟩ := sleuthlaw44_SegmentationVerifies.mono_l k
 unfold sleuthlaw44_SegmentationVerifies.f
 repeat' first
   | (with_reducible exact ih0 _ _ _ _ _ _ _)
   | (with_reducible exact ih1 _ _ _ _ _ _ _)
   | (with_reducible exact ih2 _ _ _ _ _ _ _)
   | (with_reducible exact ih3 _ _ _ _ _ _ _ _)
   | (with_reducible exact segmentation_Verify.mono _ _ _ _ _ _)
   | (with_reducible exact sleuthlaw44_best.mono _ _ _ _)
   | (with_reducible exact sleuthlaw44_known.mono _)
   | (with_reducible exact sleuthlaw44_points.mono _ _)
   | (with_reducible exact sleuthlaw44_potentials.mono _ _ _)
   | (with_reducible exact sleuthlaw44_proves.mono _ _ _ _ _ _)
   | (with_reducible exact sleuthlaw44_total.mono _ _ _ _)
   | (with_reducible exact LeO.refl _)
   | (with_reducible exact LeO.none _)
   | (with_reducible refine LeO.ite ?_ ?_)
   | (with_reducible refine LeO.bind ?_ (fun _ => ?_))
   | exact ih0 _ _ _ _ _ _ _
   | exact ih1 _ _ _ _ _ _ _
   | exact ih2 _ _ _ _ _ _ _
   | exact ih3 _ _ _ _ _ _ _ _
   | exact segmentation_Verify.mono _ _ _ _ _ _
   | exact sleuthlaw44_best.mono _ _ _ _
   | exact sleuthlaw44_known.mono _
   | exact sleuthlaw44_points.mono _ _
   | exact sleuthlaw44_potentials.mono _ _ _
   | exact sleuthlaw44_proves.mono _ _ _ _ _ _
   | exact sleuthlaw44_total.mono _ _ _ _
   | exact LeO.none _
   | refine LeO.ite ?_ ?_
   | refine LeO.bind ?_ (fun _ => ?_)
def sleuthlaw44_SegmentationVerifies.T8 : Bool × List (List Nat × List Nat) := (true, [([], []), ([], []), ([], []), ([], []), ([2, 3], [2, 3]), ([4], [4]), ([], []), ([6], [6]), ([], []), ([7, 8], [7, 8]), ([9], [9]), ([10], [10]), ([5, 11], [5, 11]), ([0, 1, 0, 1, 2, 3, 4, 5, 6, 7, 8, 9, 10, 11, 12], [0, 1]), ([13, 12, 0, 1, 2, 3, 4, 5, 6, 7, 8, 9, 10, 11, 12], [12, 13])])
def sleuthlaw44_SegmentationVerifies.B8 : List Nat := [0, 0, 0, 0, 12, 28, 0, 64, 0, 448, 960, 1984, 4092, 8191, 16383]
theorem sleuthlaw44_SegmentationVerifies.tab8 : rtab .any (opsOf Try.f5 8) = sleuthlaw44_SegmentationVerifies.T8 := by kernel_rfl
theorem sleuthlaw44_SegmentationVerifies.bits8 : waitsOk sleuthlaw44_SegmentationVerifies.T8.2 sleuthlaw44_SegmentationVerifies.B8 = true := by kernel_rfl
def sleuthlaw44_SegmentationVerifies.T19 : Bool × List (List Nat × List Nat) := (true, [([], []), ([0], [0]), ([1], [1]), ([2], [2]), ([3, 2], [2, 3]), ([2], [2]), ([2], [2]), ([5, 6, 2, 2], [2, 5, 6]), ([7, 2], [2, 7]), ([4, 8, 2], [2, 4, 8]), ([2, 9], [2, 9]), ([10, 7, 0, 1, 2, 3, 4, 5, 6, 7, 8, 9, 10], [10])])
def sleuthlaw44_SegmentationVerifies.B19 : List Nat := [0, 1, 3, 7, 15, 7, 7, 103, 231, 511, 1023, 2047]
theorem sleuthlaw44_SegmentationVerifies.tab19 : rtab .any (opsOf Try.f5 19) = sleuthlaw44_SegmentationVerifies.T19 := by kernel_rfl
theorem sleuthlaw44_SegmentationVerifies.bits19 : waitsOk sleuthlaw44_SegmentationVerifies.T19.2 sleuthlaw44_SegmentationVerifies.B19 = true := by kernel_rfl
set_option maxHeartbeats 8000000 in
set_option maxRecDepth 100000 in
theorem sleuthlaw44_SegmentationVerifies.calls (k : Nat) (A0 : Option Addr) (c0 : Nat) (l0 : List Int) (a1 : Int) (A2_0 : Option Addr) (c2_0 : Nat) (l2_0 : List Int) (A2_1 : Option Addr) (c2_1 : Nat) (l2_1 : List Int) (a2_2 : Int) (a2_3 : Bool) (r : Bool) (w : World) (hr0 : Kd.C (Kd.int .u8) w A0 l0.length l0) (hc0 : l0.length ≤ c0) (hr2_0 : Kd.C (Kd.int .i8) w A2_0 l2_0.length l2_0) (hc2_0 : l2_0.length ≤ c2_0) (hr2_1 : Kd.C (Kd.int .i64) w A2_1 l2_1.length l2_1) (hc2_1 : l2_1.length ≤ c2_1) (h : sleuthlaw44_SegmentationVerifies.f k l0 a1 l2_0 l2_1 a2_2 a2_3 = some r) :
  Calls Try.prog 5 #[.slice A0 l0.length c0, .int .u8 a1, .agg #[.slice A2_0 l2_0.length c2_0, .slice A2_1 l2_1.length c2_1, .int .i8 a2_2, .bool a2_3]] w fun e w' => e = .returned (.bool r) ∧ Below w.heap.size w w' := by
 have hu41 := Try.underlying41
 have hu27 := Try.underlying27
 have hfd27_1 : ∀ (z0_ z1_ : Value) (W : World), (Instr.field 27 (.agg #[z0_, z1_]) 1).run Try.prog W = .ok (z1_) W := fun _ _ _ => by kernel_rfl
 have HR0 := Aside0.mk hr0
 have HC0 := Aside0.mk hc0
 clear hr0 hc0
 have HR2_0 := Aside0.mk hr2_0
 have HC2_0 := Aside0.mk hc2_0
 clear hr2_0 hc2_0
 have HR2_1 := Aside0.mk hr2_1
 have HC2_1 := Aside0.mk hc2_1
 clear hr2_1 hc2_1
 have HB := Aside0.mk (Below.refl w.heap.size w)
 have H : ((sleuthlaw44_known.f k).bind fun t416 => (if t416 = true then (sleuthlaw44_SegmentationVerifies.j0 k l0 a1 (decide ((l2_1.length : Int) > 10)) l2_0 l2_1 a2_2 a2_3) else (sleuthlaw44_SegmentationVerifies.j0 k l0 a1 true l2_0 l2_1 a2_2 a2_3))) = some r := h
 clear h
 have HC4 := Aside0.mk H
 clear H
 go_enter Try.func5, Try.ntmps5
 go_upto_region 1 with (first | ((with_reducible refine gate_dst (N := 5) rfl ?_); (try (refine gate_guard (by rfl) ?_; dsimp only)); refine box_event ?hg (N := 5) ?hd (cs := #[.slice A2_0 l2_0.length c2_0, .slice A2_1 l2_1.length c2_1, .int .i8 a2_2, .bool a2_3]) (t := 41) ?hr ?_; (case hd => rfl); (case hg => rfl); (case hr => first | (go_simp; done) | (go_simp; rfl)); intro gb415 hg w5 hbox hb; have n0_ := Aside0.mk (below_step qx13_20 hb); have n1_ := Aside0.mk (hbox); have n2_ := Aside0.mk ((by rw [hg]; exact (below_size qx13_20) : w.heap.size ≤ gb415)); have n3_ := Aside0.mk ((by rw [hg]; exact (below_size qx13_20) : w.heap.size ≤ gb415)); clear HB; have HB := n0_; have BK415 := n1_; have GW415 := n2_; have GE415 := n3_; clear n0_ n1_ n2_ n3_; clear hb hbox hg))
 (try simp only [Act.put, List.setIfInBounds_toArray, List.set_cons_zero, List.set_cons_succ])
 go_cut [22] (fun v22 wc => ∃ (kq : Nat) (x22_3 : Bool), v22 = .bool x22_3 ∧ Aside0 (sleuthlaw44_SegmentationVerifies.j0 kq l0 a1 x22_3 l2_0 l2_1 a2_2 a2_3 = some r) ∧ Aside0 (kq ≤ k) ∧ Aside0 (wc.heap[gb415]? = some (.cells #[(.slice A2_0 l2_0.length c2_0), (.slice A2_1 l2_1.length c2_1), .int .i8 a2_2, .bool a2_3] 41 (0, 0))) ∧ Aside0 (Below w.heap.size w wc))
 case first =>
  have H := HC4.out
  clear HC4
  replace H := Option.bind_eq_some_iff.mp H
  obtain ⟨t416, A60, H⟩ := H
  replace H : (if t416 = true then (sleuthlaw44_SegmentationVerifies.j0 k l0 a1 (decide ((l2_1.length : Int) > 10)) l2_0 l2_1 a2_2 a2_3) else (sleuthlaw44_SegmentationVerifies.j0 k l0 a1 true l2_0 l2_1 a2_2 a2_3)) = some r := H
  have A6 := Aside0.mk A60
  clear A60
  by_cases c7 : t416 = true
  ·subst c7
   have H1 : (sleuthlaw44_SegmentationVerifies.j0 k l0 a1 (decide ((l2_1.length : Int) > 10)) l2_0 l2_1 a2_2 a2_3) = some r := by rw [if_pos rfl] at H; exact H
   clear H
   have H := H1
   clear H1
   have H' := Aside0.mk H
   clear H
   go_wp2_with (first | ((with_reducible refine gate_callee (f := 13) rfl ?_); refine goesL_ (some 15) rfl rfl Try.func13 (by kernel_rfl) rfl #[] rfl qx13_4 ?_; (with_reducible refine (sleuthlaw44_known.calls k  true _ A6.out).mono ?_); rintro e w8 ⟨rfl, hb⟩; refine ⟨_, rfl, ?_⟩; have n0_ := Aside0.mk (blk_below (g := gb415) (o := .cells #[.slice A2_0 l2_0.length c2_0, .slice A2_1 l2_1.length c2_1, .int .i8 a2_2, .bool a2_3] 41 (0, 0)) qx13_2 hb); have n1_ := Aside0.mk (below_step qx13_1 hb); clear BK415; clear HB; have BK415 := n0_; have HB := n1_; clear n0_ n1_; (try clear hb); (try clear hb2); (try clear hk); (try clear hi); have hcz9_0 : w8.cell? ⟨gb415, 0, none⟩ = some (.slice A2_0 l2_0.length c2_0) := (blk_cell BK415.out 0).trans rfl; have hcz9_1 : w8.cell? ⟨gb415, 1, none⟩ = some (.slice A2_1 l2_1.length c2_1) := (blk_cell BK415.out 1).trans rfl; have hcz9_2 : w8.cell? ⟨gb415, 2, none⟩ = some (.int .i8 a2_2) := (blk_cell BK415.out 2).trans rfl; have hcz9_3 : w8.cell? ⟨gb415, 3, none⟩ = some (.bool a2_3) := (blk_cell BK415.out 3).trans rfl; have hfz9_0 := blk_frozen BK415.out 0; have hfz9_1 := blk_frozen BK415.out 1; have hfz9_2 := blk_frozen BK415.out 2; have hfz9_3 := blk_frozen BK415.out 3))
   go_meet
   case rel => exact ⟨_, (decide ((l2_1.length : Int) > 10)), qx13_23, H', ⟨by first | omega | exact Nat.le_refl _⟩, ⟨qx13_2⟩, ⟨qx13_1⟩⟩
  ·replace c7 := Bool.eq_false_iff.mpr c7
   subst c7
   have H1 : (sleuthlaw44_SegmentationVerifies.j0 k l0 a1 true l2_0 l2_1 a2_2 a2_3) = some r := by rw [if_neg (show ¬ (false = true) by decide)] at H; exact H
   clear H
   have H := H1
   clear H1
   have H' := Aside0.mk H
   clear H
   go_wp2_with (first | ((with_reducible refine gate_callee (f := 13) rfl ?_); refine goesL_ (some 15) rfl rfl Try.func13 (by kernel_rfl) rfl #[] rfl qx13_4 ?_; (with_reducible refine (sleuthlaw44_known.calls k  false _ A6.out).mono ?_); rintro e w10 ⟨rfl, hb⟩; refine ⟨_, rfl, ?_⟩; have n0_ := Aside0.mk (blk_below (g := gb415) (o := .cells #[.slice A2_0 l2_0.length c2_0, .slice A2_1 l2_1.length c2_1, .int .i8 a2_2, .bool a2_3] 41 (0, 0)) qx13_2 hb); have n1_ := Aside0.mk (below_step qx13_1 hb); clear BK415; clear HB; have BK415 := n0_; have HB := n1_; clear n0_ n1_; (try clear hb); (try clear hb2); (try clear hk); (try clear hi)))
   go_meet
   case rel => exact ⟨_, (true), qx13_23, H', ⟨by first | omega | exact Nat.le_refl _⟩, ⟨qx13_2⟩, ⟨qx13_1⟩⟩
 case rest =>
  clear HC4
  try clear c1
  try clear c2
  try clear p2
  try clear c5
  try clear c7
  try clear hcz9_0
  try clear hcz9_1
  try clear hcz9_2
  try clear hcz9_3
  try clear hfz9_0
  try clear hfz9_1
  try clear hfz9_2
  try clear hfz9_3
  obtain ⟨kq, x22_3, rfl, HA, HJ3, BK415, HB⟩ := hcut
  cases kq with
  | zero => exact absurd HA.out (by simp [sleuthlaw44_SegmentationVerifies.j0])
  | succ kj3 =>
   have H := HA.out
   clear HA
   simp only [sleuthlaw44_SegmentationVerifies.j0] at H
   by_cases c11 : x22_3 = true
   ·subst c11
    have H1 : ((sleuthlaw44_known.f kj3).bind fun t417 => (some t417)) = some r := by rw [if_pos rfl] at H; exact H
    clear H
    have H := H1
    clear H1
    replace H := Option.bind_eq_some_iff.mp H
    obtain ⟨t417, A120, H⟩ := H
    replace H : (some t417) = some r := H
    have A12 := Aside0.mk A120
    clear A120
    obtain rfl := Option.some.inj H
    go_wp2_with (first | ((with_reducible refine gate_callee (f := 13) rfl ?_); refine goesL_ (some 23) rfl rfl Try.func13 (by kernel_rfl) rfl #[] rfl qx13_4 ?_; (with_reducible refine (sleuthlaw44_known.calls kj3  t417 _ A12.out).mono ?_); rintro e w13 ⟨rfl, hb⟩; refine ⟨_, rfl, ?_⟩; have n0_ := Aside0.mk (blk_below (g := gb415) (o := .cells #[.slice A2_0 l2_0.length c2_0, .slice A2_1 l2_1.length c2_1, .int .i8 a2_2, .bool a2_3] 41 (0, 0)) qx13_2 hb); have n1_ := Aside0.mk (below_step qx13_1 hb); clear BK415; clear HB; have BK415 := n0_; have HB := n1_; clear n0_ n1_; (try clear hb); (try clear hb2); (try clear hk); (try clear hi)))
    go_ret
    exact ⟨qx13_16, qx13_1⟩
   ·replace c11 := Bool.eq_false_iff.mpr c11
    subst c11
    have H1 : ((sleuthlaw44_points.f kj3 l0).bind fun t418 => ((sleuthlaw44_potentials.f kj3 t418 (wrap64 (Int.tmod a1 64))).bind fun t421 => (sleuthlaw44_SegmentationVerifies.l0 kj3 t418 (wrap64 (Int.tmod a1 64)) t421 0 l2_0 l2_1 a2_2 a2_3))) = some r := by rw [if_neg (show ¬ (false = true) by decide)] at H; exact H
    clear H
    have H := H1
    clear H1
    replace H := Option.bind_eq_some_iff.mp H
    obtain ⟨t418, A140, H⟩ := H
    replace H : ((sleuthlaw44_potentials.f kj3 t418 (wrap64 (Int.tmod a1 64))).bind fun t421 => (sleuthlaw44_SegmentationVerifies.l0 kj3 t418 (wrap64 (Int.tmod a1 64)) t421 0 l2_0 l2_1 a2_2 a2_3)) = some r := H
    have A14 := Aside0.mk A140
    clear A140
    replace H := Option.bind_eq_some_iff.mp H
    obtain ⟨t421, A150, H⟩ := H
    replace H : (sleuthlaw44_SegmentationVerifies.l0 kj3 t418 (wrap64 (Int.tmod a1 64)) t421 0 l2_0 l2_1 a2_2 a2_3) = some r := H
    have A15 := Aside0.mk A150
    clear A150
    have HC16 := Aside0.mk H
    clear H
    go_upto_block 0 with (first | ((with_reducible refine gate_callee (f := 14) rfl ?_); refine goesL_ (some 25) rfl rfl Try.func14 (by kernel_rfl) rfl #[.slice A0 l0.length c0] rfl qx13_4 ?_; (with_reducible refine (sleuthlaw44_points.calls kj3 _ _ l0 t418 _ ?side1 ?side2 A14.out).mono ?_); (case side1 => repeat (first | exact (Kd.C_below HR0.out HB.out) | (with_reducible refine Kd.C_alloc ?_ _) | (with_reducible refine Kd.C_drewN ?_ _) | (with_reducible refine Kd.C_drew ?_))); (case side2 => exact HC0.out); rintro e w17 ⟨v419, rfl, ho0, hb⟩; refine ⟨_, rfl, ?_⟩; have n0_ := Aside0.mk (Kd.R_lower ho0 (below_size qx13_1)); have n1_ := Aside0.mk (blk_below (g := gb415) (o := .cells #[.slice A2_0 l2_0.length c2_0, .slice A2_1 l2_1.length c2_1, .int .i8 a2_2, .bool a2_3] 41 (0, 0)) qx13_2 hb); have n2_ := Aside0.mk (below_step qx13_1 hb); clear BK415; clear HB; have HO420 := n0_; have BK415 := n1_; have HB := n2_; clear n0_ n1_ n2_; (try clear hb); (try clear hb2); (try clear hk); (try clear hi); (try clear ho0); obtain ⟨Ao18, co18, eo18⟩ := Kd.R_slice HO420.out; subst eo18) | ((with_reducible refine gate_callee (f := 19) rfl ?_); refine goesL_ (some 31) rfl rfl Try.func19 (by kernel_rfl) rfl #[.slice Ao18 t418.length co18, .int .i64 (wrap64 (Int.tmod a1 64))] rfl qx13_4 ?_; (with_reducible refine (sleuthlaw44_potentials.calls kj3 _ _ t418 (wrap64 (Int.tmod a1 64)) t421 _ ?side1 ?side2 A15.out).mono ?_); (case side1 => repeat (first | exact (Kd.R_reads' HO420.out).2.2 | (with_reducible refine Kd.C_alloc ?_ _) | (with_reducible refine Kd.C_drewN ?_ _) | (with_reducible refine Kd.C_drew ?_))); (case side2 => exact (Kd.R_reads' HO420.out).2.1); rintro e w19 ⟨v422, rfl, ho0, hb⟩; refine ⟨_, rfl, ?_⟩; have n0_ := Aside0.mk (Kd.R_elder' (by (with_reducible repeat (first | apply Kd.R_alloc | apply Kd.R_drewN | apply Kd.R_drew)); exact HO420.out) (Kd.R_base ho0) hb); have n1_ := Aside0.mk (Kd.R_lower (Kd.R_new' ho0 (Kd.R_lt (by (with_reducible repeat (first | apply Kd.R_alloc | apply Kd.R_drewN | apply Kd.R_drew)); exact HO420.out))) (below_size qx13_1)); have n2_ := Aside0.mk (blk_below (g := gb415) (o := .cells #[.slice A2_0 l2_0.length c2_0, .slice A2_1 l2_1.length c2_1, .int .i8 a2_2, .bool a2_3] 41 (0, 0)) qx13_2 hb); have n3_ := Aside0.mk (below_step qx13_1 hb); clear HO420; clear BK415; clear HB; have HO420 := n0_; have HO423 := n1_; have BK415 := n2_; have HB := n3_; clear n0_ n1_ n2_ n3_; (try clear hb); (try clear hb2); (try clear hk); (try clear hi); (try clear ho0)))
    (try simp only [Act.put, List.setIfInBounds_toArray, List.set_cons_zero, List.set_cons_succ])
    go_cut [] (fun wc => ∃ (kq : Nat) (x9_15 : List Int), Aside0 (sleuthlaw44_SegmentationVerifies.j2 kq t418 (wrap64 (Int.tmod a1 64)) x9_15 l2_0 l2_1 a2_2 a2_3 = some r) ∧ Aside0 (kq ≤ kj3) ∧ Aside0 (Kd.R (Kd.int .i64) 3 wc w.heap.size (fun k_ => some k_ ≠ (v422 : Value).ownBlock) (.slice Ao18 t418.length co18) t418) ∧ Aside0 (Kd.R (Kd.int .i64) 3 wc w.heap.size (fun k_ => some k_ ≠ ((.slice Ao18 t418.length co18) : Value).ownBlock) v422 x9_15) ∧ Aside0 (wc.heap[gb415]? = some (.cells #[(.slice A2_0 l2_0.length c2_0), (.slice A2_1 l2_1.length c2_1), .int .i8 a2_2, .bool a2_3] 41 (0, 0))) ∧ Aside0 (Below w.heap.size w wc))
    case first =>
     have H := HC16.out
     clear HC16
     have H' := Aside0.mk H
     clear H
     go_wp2
     go_loopg [10] kj3 (fun kq v10 w' => ∃ (x9_2 : List Int) (x10_2 : Int), v10 = .int .i64 x10_2 ∧ Aside0 (sleuthlaw44_SegmentationVerifies.l0 kq t418 (wrap64 (Int.tmod a1 64)) x9_2 x10_2 l2_0 l2_1 a2_2 a2_3 = some r) ∧ Aside0 (kq ≤ kj3) ∧ Aside0 (Kd.R (Kd.int .i64) 3 w' w.heap.size (fun k_ => some k_ ≠ (v422 : Value).ownBlock) (.slice Ao18 t418.length co18) t418) ∧ Aside0 (Kd.R (Kd.int .i64) 3 w' w.heap.size (fun k_ => some k_ ≠ ((.slice Ao18 t418.length co18) : Value).ownBlock) v422 x9_2) ∧ Aside0 (w'.heap[gb415]? = some (.cells #[(.slice A2_0 l2_0.length c2_0), (.slice A2_1 l2_1.length c2_1), .int .i8 a2_2, .bool a2_3] 41 (0, 0))) ∧ Aside0 (Below w.heap.size w w'))
     case atStart => exact ⟨(t421), (0), qx13_23, H', ⟨Nat.le_refl _⟩, ⟨by (with_reducible repeat (first | apply Kd.R_alloc | apply Kd.R_drewN | apply Kd.R_drew)); exact Kd.R_mono HO420.out (fun _ hk => hk.2)⟩, ⟨by (with_reducible repeat (first | apply Kd.R_alloc | apply Kd.R_drewN | apply Kd.R_drew)); exact Kd.R_mono HO423.out (fun _ hk => hk.2)⟩, ⟨qx13_2⟩, ⟨qx13_1⟩⟩
     case round =>
      clear H'
      try clear c1
      try clear c2
      try clear p2
      try clear c5
      try clear p6
      try clear c7
      try clear c11
      try clear c13
      try clear c14
      try clear c19
      try clear hcz9_0
      try clear hcz9_1
      try clear hcz9_2
      try clear hcz9_3
      try clear hfz9_0
      try clear hfz9_1
      try clear hfz9_2
      try clear hfz9_3
      try clear p2
      obtain ⟨x9_2, x10_2, rfl, HA, HK2, HO_7, HO_9, BK415, HB⟩ := hrel
      cases gk with
      | zero => exact absurd HA.out (by simp [sleuthlaw44_SegmentationVerifies.l0])
      | succ k2 =>
       have H := HA.out
       clear HA
       simp only [sleuthlaw44_SegmentationVerifies.l0] at H
       by_cases c20 : x10_2 < (x9_2.length : Int)
       ·rw [if_pos c20] at H
        have c20b0 : decide (x10_2 < (x9_2.length : Int)) = true := decide_eq_true c20
        clear c20
        (first | rw [c20b0] | (simp only [i64_w, i32_w]; rw [c20b0]) | skip)
        by_cases c21 : x10_2 < (l2_0.length : Int)
        ·rw [if_pos c21] at H
         have c21b0 : decide (x10_2 < (l2_0.length : Int)) = true := decide_eq_true c21
         clear c21
         by_cases c22 : 0 ≤ x10_2
         ·rw [if_pos c22] at H
          have c22b0 : decide (0 ≤ x10_2) = true := decide_eq_true c22
          clear c22
          obtain ⟨y426, hy426⟩ : ∃ y_ : List Int, y_ = (x9_2.set (x10_2 : Int).toNat (wrap64 ((rd x9_2 x10_2) + (wrap64 (rd l2_0 x10_2))))) := ⟨_, rfl⟩
          replace H : (sleuthlaw44_SegmentationVerifies.l0 k2 t418 (wrap64 (Int.tmod a1 64)) y426 (wrap64 (x10_2 + 1)) l2_0 l2_1 a2_2 a2_3) = some r := by first | (rw [hy426]; with_reducible exact H) | (have H2_ := (Option.bind_some _ _).symm.trans H; rw [hy426]; with_reducible exact H2_) | (have H2_ := (Option.bind_some _ _).symm.trans H; with_reducible exact H2_) | with_reducible exact H | (rw [hy426]; exact H) | exact H
          have Ny426 := Aside0.mk hy426
          clear hy426
          have H' := Aside0.mk H
          clear H
          obtain ⟨Ao24, co24, eo24⟩ := Kd.R_slice HO_9.out
          subst eo24
          have hcz25_0 : wr.cell? ⟨gb415, 0, none⟩ = some (.slice A2_0 l2_0.length c2_0) := (blk_cell BK415.out 0).trans rfl
          have hcz25_1 : wr.cell? ⟨gb415, 1, none⟩ = some (.slice A2_1 l2_1.length c2_1) := (blk_cell BK415.out 1).trans rfl
          have hcz25_2 : wr.cell? ⟨gb415, 2, none⟩ = some (.int .i8 a2_2) := (blk_cell BK415.out 2).trans rfl
          have hcz25_3 : wr.cell? ⟨gb415, 3, none⟩ = some (.bool a2_3) := (blk_cell BK415.out 3).trans rfl
          have hfz25_0 := blk_frozen BK415.out 0
          have hfz25_1 := blk_frozen BK415.out 1
          have hfz25_2 := blk_frozen BK415.out 2
          have hfz25_3 := blk_frozen BK415.out 3
          try go_wp2
          have n0_ := Aside0.mk (Kd.R_drew HO_7.out)
          have n1_ := Aside0.mk (Kd.R_drew HO_9.out)
          have n2_ := Aside0.mk (blk_drew BK415.out)
          have n3_ := Aside0.mk (below_drew1 HB.out)
          clear HO_7
          clear HO_9
          clear BK415
          clear HB
          have HO_7 := n0_
          have HO_9 := n1_
          have BK415 := n2_
          have HB := n3_
          clear n0_ n1_ n2_ n3_
          have p424 : 0 ≤ (x10_2 : Int) := of_decide_eq_true qx13_21
          have q424 : x10_2 < (x9_2.length : Int) := of_decide_eq_true qx13_21
          obtain ⟨ad424, e424, hx424_0⟩ := Kd.at_int (Kd.R_reads' HO_9.out).2.2 x10_2 p424 q424
          cases e424
          replace p424 := eq_true p424
          replace q424 := eq_true q424
          have p425 : 0 ≤ (x10_2 : Int) := of_decide_eq_true qx13_21
          have q425 : x10_2 < (l2_0.length : Int) := of_decide_eq_true qx13_21
          obtain ⟨ad425, e425, hx425_0⟩ := Kd.at_int HR2_0.out x10_2 p425 q425
          have hw425_0 := hx425_0
          cases e425
          replace hx425_0 := (HB.out.cell (World.block_lt_of_cell? w _ hx425_0)).trans hx425_0
          replace p425 := eq_true p425
          replace q425 := eq_true q425
          have p23 : 0 ≤ (x10_2 : Int) := of_decide_eq_true qx13_21
          have q23 : (x10_2 : Int) < ((x9_2.length : Int) : Int) := of_decide_eq_true qx13_21
          obtain ⟨go23, co23, eo23, gb23, gl23, cl23, HG23⟩ := Kd.R_form HO_9.out (by omega)
          (first | cases eo23 | (injection eo23 with ea_ en_ ec_; (first | subst ea_ | (injection ea_ with ea_; subst ea_)); subst ec_; clear en_))
          have GB23 := Aside0.mk gb23
          have GG23 := Aside0.mk HG23
          clear gb23 gl23 HG23
          (first | simp only [add_plain] at hx424_0 | skip)
          obtain ⟨hx23_0, hf23_0⟩ := Kd.R_celln 0 HO_9.out (x10_2 : Int) p23 q23
          replace p23 := eq_true p23
          replace q23 := eq_true q23
          have HP27 := Kd.R_putn HO_9.out (x10_2 : Int) (wrap64 ((rd x9_2 x10_2) + (wrap64 (rd l2_0 x10_2))))
          rw [← Ny426.out] at HP27
          have HQ27 := Aside0.mk HP27
          clear HP27
          refine start_ (n := 15) (S := fun w' => w'.cell? ⟨gb415, 0, none⟩ = some (.slice (some ad425) l2_0.length c2_0) ∧ w'.cell? ⟨gb415, 1, none⟩ = some (.slice A2_1 l2_1.length c2_1) ∧ w'.cell? ⟨gb415, 2, none⟩ = some (.int .i8 a2_2) ∧ w'.cell? ⟨gb415, 3, none⟩ = some (.bool a2_3) ∧ w'.cell? ⟨go23, (x10_2).toNat, none⟩ = some (.int .i64 (rd x9_2 x10_2)) ∧ w'.cell? (ad425.add (x10_2).toNat) = some (.int .i8 (rd l2_0 x10_2))) (ds := [14]) #[F, F, F, F, F, F, F, F, F, F, F, F, F, F, F] (by kernel_rfl) rfl rfl ⟨(blk_cell BK415.out 0).trans rfl, (blk_cell BK415.out 1).trans rfl, (blk_cell BK415.out 2).trans rfl, (blk_cell BK415.out 3).trans rfl, hx424_0, ((HB.out.cell (World.block_lt_of_cell? w _ hw425_0)).trans hw425_0)⟩ (fun hHeld => ?_); refine with_tabW sleuthlaw44_SegmentationVerifies.tab8 sleuthlaw44_SegmentationVerifies.bits8 (fun HT_ HW_ => ?_)
          generalize wr.drew = w26 at HO_7 HO_9 BK415 HB GG23 HQ27 hf23_0 hx23_0 hx424_0 hx425_0 hHeld ⊢
          refine pure_ (i := 0) (N := some 45) (v := ?_) (a' := ?_) #[T, F, F, F, F, F, F, F, F, F, F, F, F, F, F] rfl rfl (any_of HT_.out (by kernel_rfl)) (fun _ _ _ h => h) (Or.inl ⟨by rfl, ?_⟩) ?_ ?_
          rotate_left
          ·intro w'
           go_simp
           with_reducible rfl
          rotate_left
          ·simp only [Act.put, List.setIfInBounds_toArray, List.set_cons_zero, List.set_cons_succ, i64_w, i32_w]
           rfl
          refine pure_ (i := 1) (N := some 46) (v := ?_) (a' := ?_) #[T, T, F, F, F, F, F, F, F, F, F, F, F, F, F] rfl rfl (any_of HT_.out (by kernel_rfl)) (fun _ _ _ h => h) (Or.inl ⟨by rfl, ?_⟩) ?_ ?_
          rotate_left
          ·intro w'
           go_simp
           with_reducible rfl
          rotate_left
          ·simp only [Act.put, List.setIfInBounds_toArray, List.set_cons_zero, List.set_cons_succ, i64_w, i32_w]
           rfl
          refine pure_ (i := 2) (N := some 47) (v := ?_) (a' := ?_) #[T, T, T, F, F, F, F, F, F, F, F, F, F, F, F] rfl rfl (any_of HT_.out (by kernel_rfl)) (fun _ _ _ h => h) (Or.inl ⟨by rfl, ?_⟩) ?_ ?_
          rotate_left
          ·intro w'
           go_simp
           with_reducible rfl
          rotate_left
          ·simp only [Act.put, List.setIfInBounds_toArray, List.set_cons_zero, List.set_cons_succ, i64_w, i32_w]
           rfl
          refine pure_ (i := 3) (N := some 48) (v := ?_) (a' := ?_) #[T, T, T, T, F, F, F, F, F, F, F, F, F, F, F] rfl rfl (any_of HT_.out (by kernel_rfl)) (fun _ _ _ h => h) (Or.inl ⟨by rfl, ?_⟩) ?_ ?_
          rotate_left
          ·intro w'
           go_simp
           with_reducible rfl
          rotate_left
          ·simp only [Act.put, List.setIfInBounds_toArray, List.set_cons_zero, List.set_cons_succ, i64_w, i32_w]
           rfl
          refine pure_ (i := 4) (N := some 49) (v := ?_) (a' := ?_) #[T, T, T, T, T, F, F, F, F, F, F, F, F, F, F] rfl rfl (any_of HT_.out (by kernel_rfl)) (fun _ _ _ h => h) (Or.inl ⟨by rfl, ?_⟩) ?_ ?_
          rotate_left
          ·intro w'
           go_simp
           with_reducible rfl
          rotate_left
          ·simp only [Act.put, List.setIfInBounds_toArray, List.set_cons_zero, List.set_cons_succ, i64_w, i32_w]
           rfl
          refine pure_ (i := 6) (N := some 51) (v := ?_) (a' := ?_) #[T, T, T, T, T, F, T, F, F, F, F, F, F, F, F] rfl rfl (any_of HT_.out (by kernel_rfl)) (fun _ _ _ h => h) (Or.inl ⟨by rfl, ?_⟩) ?_ ?_
          rotate_left
          ·intro w'
           go_simp
           with_reducible rfl
          rotate_left
          ·simp only [Act.put, List.setIfInBounds_toArray, List.set_cons_zero, List.set_cons_succ, i64_w, i32_w]
           rfl
          refine pure_ (i := 8) (N := some 53) (v := ?_) (a' := ?_) #[T, T, T, T, T, F, T, F, T, F, F, F, F, F, F] rfl rfl (any_of HT_.out (by kernel_rfl)) (fun _ _ _ h => h) (Or.inl ⟨by rfl, ?_⟩) ?_ ?_
          rotate_left
          ·intro w'
           go_simp
           with_reducible rfl
          rotate_left
          ·simp only [Act.put, List.setIfInBounds_toArray, List.set_cons_zero, List.set_cons_succ, i64_w, i32_w]
           rfl
          refine take_ (i := 5) (N := some 50) (v := ?_) (a' := ?_) #[T, T, T, T, T, T, T, F, T, F, F, F, F, F, F] rfl rfl (take_ofW HT_.out HW_.out (by kernel_rfl)) (fun _ _ _ h => h) (Or.inl ⟨by rfl, ?_⟩) hHeld ?_ ?_
          rotate_left
          ·rintro w' ⟨s0, s1, s2, s3, s4, s5⟩
           go_simp
           with_reducible rfl
          rotate_left
          ·simp only [Act.put, List.setIfInBounds_toArray, List.set_cons_zero, List.set_cons_succ, i64_w, i32_w]
           rfl
          refine take_ (i := 7) (N := some 52) (v := ?_) (a' := ?_) #[T, T, T, T, T, T, T, T, T, F, F, F, F, F, F] rfl rfl (take_ofW HT_.out HW_.out (by kernel_rfl)) (fun _ _ _ h => h) (Or.inl ⟨by rfl, ?_⟩) hHeld ?_ ?_
          rotate_left
          ·rintro w' ⟨s0, s1, s2, s3, s4, s5⟩
           go_simp
           with_reducible rfl
          rotate_left
          ·simp only [Act.put, List.setIfInBounds_toArray, List.set_cons_zero, List.set_cons_succ, i64_w, i32_w]
           rfl
          refine pure_ (i := 9) (N := some 54) (v := ?_) (a' := ?_) #[T, T, T, T, T, T, T, T, T, T, F, F, F, F, F] rfl rfl (any_of HT_.out (by kernel_rfl)) (fun _ _ _ h => h) (Or.inl ⟨by rfl, ?_⟩) ?_ ?_
          rotate_left
          ·intro w'
           go_simp
           with_reducible rfl
          rotate_left
          ·simp only [Act.put, List.setIfInBounds_toArray, List.set_cons_zero, List.set_cons_succ, i64_w, i32_w]
           rfl
          refine take_ (i := 10) (N := some 55) (v := ?_) (a' := ?_) #[T, T, T, T, T, T, T, T, T, T, T, F, F, F, F] rfl rfl (take_ofW HT_.out HW_.out (by kernel_rfl)) (fun _ _ _ h => h) (Or.inl ⟨by rfl, ?_⟩) hHeld ?_ ?_
          rotate_left
          ·rintro w' ⟨s0, s1, s2, s3, s4, s5⟩
           go_simp
           with_reducible rfl
          rotate_left
          ·simp only [Act.put, List.setIfInBounds_toArray, List.set_cons_zero, List.set_cons_succ, i64_w, i32_w]
           rfl
          refine pure_ (i := 11) (N := some 56) (v := ?_) (a' := ?_) #[T, T, T, T, T, T, T, T, T, T, T, T, F, F, F] rfl rfl (any_of HT_.out (by kernel_rfl)) (fun _ _ _ h => h) (Or.inl ⟨by rfl, ?_⟩) ?_ ?_
          rotate_left
          ·intro w'
           go_simp
           with_reducible rfl
          rotate_left
          ·simp only [Act.put, List.setIfInBounds_toArray, List.set_cons_zero, List.set_cons_succ, i64_w, i32_w]
           rfl
          refine pure_ (i := 12) (N := some 57) (v := ?_) (a' := ?_) #[T, T, T, T, T, T, T, T, T, T, T, T, T, F, F] rfl rfl (any_of HT_.out (by kernel_rfl)) (fun _ _ _ h => h) (Or.inl ⟨by rfl, ?_⟩) ?_ ?_
          rotate_left
          ·intro w'
           go_simp
           with_reducible rfl
          rotate_left
          ·simp only [Act.put, List.setIfInBounds_toArray, List.set_cons_zero, List.set_cons_succ, i64_w, i32_w]
           rfl
          refine pure_ (i := 13) (N := some 58) (v := ?_) (a' := ?_) #[T, T, T, T, T, T, T, T, T, T, T, T, T, T, F] rfl rfl (any_of HT_.out (by kernel_rfl)) (fun _ _ _ h => h) (Or.inl ⟨by rfl, ?_⟩) ?_ ?_
          rotate_left
          ·intro w'
           go_simp
           with_reducible rfl
          rotate_left
          ·simp only [Act.put, List.setIfInBounds_toArray, List.set_cons_zero, List.set_cons_succ, i64_w, i32_w]
           rfl
          refine last_ (i := 14) (N := none) #[T, T, T, T, T, T, T, T, T, T, T, T, T, T, T] rfl rfl (one_of HT_.out (by kernel_rfl)) (by decide) (fun K hK => ?_)
          refine skip_ (w1 := ?_) (by rfl) rfl ?_ ?_
          rotate_left
          ·go_simp
           rfl
          refine hK.out _ _ ?_
          clear hK K
          refine done_ (done_of HT_.out (by kernel_rfl)) ?_
          try go_wp2
          go_roundg k2
          case measure => have := HJ3.out; have := HK2.out; omega
          case rel => exact ⟨(y426), (wrap64 (x10_2 + 1)), qx13_23, H', ⟨by have := HJ3.out; have := HK2.out; omega⟩, ⟨by (with_reducible repeat (first | apply Kd.R_alloc | apply Kd.R_drewN | apply Kd.R_drew)); exact Kd.R_mono (Kd.R_far (p := ⟨go23, (x10_2 : Int).toNat, none⟩) (Kd.R_mono HO_7.out (fun k_ hk => (⟨hk, fun e_ => hk (by rw [e_]; rfl)⟩ : _ ∧ k_ ≠ go23))) (fun _ hk => hk.2) (.int .i64 (wrap64 ((rd x9_2 x10_2) + (wrap64 (rd l2_0 x10_2)))))) (fun _ hk => hk.1)⟩, ⟨by (with_reducible repeat (first | apply Kd.R_alloc | apply Kd.R_drewN | apply Kd.R_drew)); exact HQ27.out⟩, ⟨by (with_reducible repeat (first | refine blk_drewN ?_ _ | refine blk_drew ?_ | refine blk_alloc ?_ _)); refine blk_far ?_ (by have h_ := Kd.R_ne HO_9.out BK415.out (by decide); intro e_; exact h_ (by rw [e_]; rfl)) _; (with_reducible repeat (first | refine blk_drewN ?_ _ | refine blk_drew ?_ | refine blk_alloc ?_ _)); exact BK415.out⟩, ⟨by repeat (first | (with_reducible first | exact HB.out | apply below_alloc | apply pw_below_drewN | apply below_drew1 | refine below_set ?_ GB23.out | refine below_set ?_ GE415.out) | exact HB.out)⟩⟩
         ·rw [if_neg c22] at H
          exact absurd H (by simp)
        ·rw [if_neg c21] at H
         have c21b0 : decide (x10_2 < (l2_0.length : Int)) = false := decide_eq_false c21
         clear c21
         have H' := Aside0.mk H
         clear H
         obtain ⟨Ao28, co28, eo28⟩ := Kd.R_slice HO_9.out
         subst eo28
         have hcz29_0 : wr.cell? ⟨gb415, 0, none⟩ = some (.slice A2_0 l2_0.length c2_0) := (blk_cell BK415.out 0).trans rfl
         have hcz29_1 : wr.cell? ⟨gb415, 1, none⟩ = some (.slice A2_1 l2_1.length c2_1) := (blk_cell BK415.out 1).trans rfl
         have hcz29_2 : wr.cell? ⟨gb415, 2, none⟩ = some (.int .i8 a2_2) := (blk_cell BK415.out 2).trans rfl
         have hcz29_3 : wr.cell? ⟨gb415, 3, none⟩ = some (.bool a2_3) := (blk_cell BK415.out 3).trans rfl
         have hfz29_0 := blk_frozen BK415.out 0
         have hfz29_1 := blk_frozen BK415.out 1
         have hfz29_2 := blk_frozen BK415.out 2
         have hfz29_3 := blk_frozen BK415.out 3
         go_wp2
         go_meet
         case rel => exact ⟨_, (x9_2), H', ⟨by have := HJ3.out; have := HK2.out; first | omega | exact Nat.le_refl _⟩, ⟨qx13_8⟩, ⟨qx13_9⟩, ⟨qx13_2⟩, ⟨qx13_1⟩⟩
       ·rw [if_neg c20] at H
        have c20b0 : decide (x10_2 < (x9_2.length : Int)) = false := decide_eq_false c20
        clear c20
        (first | rw [c20b0] | (simp only [i64_w, i32_w]; rw [c20b0]) | skip)
        have H' := Aside0.mk H
        clear H
        obtain ⟨Ao30, co30, eo30⟩ := Kd.R_slice HO_9.out
        subst eo30
        go_wp2
        go_meet
        case rel => exact ⟨_, (x9_2), H', ⟨by have := HJ3.out; have := HK2.out; first | omega | exact Nat.le_refl _⟩, ⟨qx13_8⟩, ⟨qx13_9⟩, ⟨qx13_2⟩, ⟨qx13_1⟩⟩
    case rest =>
     clear HC16
     try clear c1
     try clear c2
     try clear p2
     try clear q2
     try clear hx2
     try clear p4
     try clear q4
     try clear hx4
     try clear c5
     try clear p6
     try clear c7
     try clear c11
     try clear c13
     try clear c14
     try clear c19
     try clear c20
     try clear c20b0
     try clear c21
     try clear c21b0
     try clear c22
     try clear c22b0
     try clear p23
     try clear q23
     try clear hx23
     try clear hf23
     try clear hcz25_0
     try clear hcz25_1
     try clear hcz25_2
     try clear hcz25_3
     try clear hcz29_0
     try clear hcz29_1
     try clear hcz29_2
     try clear hcz29_3
     try clear hcz9_0
     try clear hcz9_1
     try clear hcz9_2
     try clear hcz9_3
     try clear hfz25_0
     try clear hfz25_1
     try clear hfz25_2
     try clear hfz25_3
     try clear hfz29_0
     try clear hfz29_1
     try clear hfz29_2
     try clear hfz29_3
     try clear hfz9_0
     try clear hfz9_1
     try clear hfz9_2
     try clear hfz9_3
     try clear hx23_0
     try clear hx424_0
     try clear hx425_0
     try clear p2
     try clear p23
     try clear p424
     try clear p425
     try clear p6
     try clear q23
     try clear q424
     try clear q425
     obtain ⟨kq, x9_15, HA, HJ15, HO_7, HO_9, BK415, HB⟩ := hcut
     cases kq with
     | zero => exact absurd HA.out (by simp [sleuthlaw44_SegmentationVerifies.j2])
     | succ kj15 =>
      have H := HA.out
      clear HA
      simp only [sleuthlaw44_SegmentationVerifies.j2] at H
      have HC31 := Aside0.mk H
      clear H
      have hcz32_0 : wc.cell? ⟨gb415, 0, none⟩ = some (.slice A2_0 l2_0.length c2_0) := (blk_cell BK415.out 0).trans rfl
      have hcz32_1 : wc.cell? ⟨gb415, 1, none⟩ = some (.slice A2_1 l2_1.length c2_1) := (blk_cell BK415.out 1).trans rfl
      have hcz32_2 : wc.cell? ⟨gb415, 2, none⟩ = some (.int .i8 a2_2) := (blk_cell BK415.out 2).trans rfl
      have hcz32_3 : wc.cell? ⟨gb415, 3, none⟩ = some (.bool a2_3) := (blk_cell BK415.out 3).trans rfl
      have hfz32_0 := blk_frozen BK415.out 0
      have hfz32_1 := blk_frozen BK415.out 1
      have hfz32_2 := blk_frozen BK415.out 2
      have hfz32_3 := blk_frozen BK415.out 3
      go_upto_if 60 with (fail)
      go_cut [9] (fun v9 wc => ∃ (kq : Nat) (x9_30 : List Int), Aside0 (sleuthlaw44_SegmentationVerifies.j3 kq t418 (wrap64 (Int.tmod a1 64)) x9_30 l2_0 l2_1 a2_2 a2_3 = some r) ∧ Aside0 (kq ≤ kj15) ∧ Aside0 (Kd.R (Kd.int .i64) 3 wc w.heap.size (fun k_ => some k_ ≠ (v9 : Value).ownBlock) (.slice Ao18 t418.length co18) t418) ∧ Aside0 (Kd.R (Kd.int .i64) 3 wc w.heap.size (fun k_ => some k_ ≠ ((.slice Ao18 t418.length co18) : Value).ownBlock) v9 x9_30) ∧ Aside0 (wc.heap[gb415]? = some (.cells #[(.slice A2_0 l2_0.length c2_0), (.slice A2_1 l2_1.length c2_1), .int .i8 a2_2, .bool a2_3] 41 (0, 0))) ∧ Aside0 (Below w.heap.size w wc))
      case first =>
       have H := HC31.out
       clear HC31
       by_cases c33 : a2_3 = true
       ·subst c33
        have H1 : (if x9_15.length < 17592186044416 then (sleuthlaw44_SegmentationVerifies.j3 kj15 t418 (wrap64 (Int.tmod a1 64)) (x9_15 ++ [0]) l2_0 l2_1 a2_2 true) else (none)) = some r := by rw [if_pos rfl] at H; exact H
        clear H
        have H := H1
        clear H1
        by_cases c34 : x9_15.length < 17592186044416
        ·rw [if_pos c34] at H
         have LMc34 := Aside0.mk c34
         clear c34
         obtain ⟨y427, hy427⟩ : ∃ y_ : List Int, y_ = (x9_15 ++ [0]) := ⟨_, rfl⟩
         replace H : (sleuthlaw44_SegmentationVerifies.j3 kj15 t418 (wrap64 (Int.tmod a1 64)) y427 l2_0 l2_1 a2_2 true) = some r := by first | (rw [hy427]; with_reducible exact H) | (have H2_ := (Option.bind_some _ _).symm.trans H; rw [hy427]; with_reducible exact H2_) | (have H2_ := (Option.bind_some _ _).symm.trans H; with_reducible exact H2_) | with_reducible exact H | (rw [hy427]; exact H) | exact H
         have Ny427 := Aside0.mk hy427
         clear hy427
         have H' := Aside0.mk H
         clear H
         go_wp2_with (first | ((with_reducible refine gate_builtin (b := .append) (xs := #[.tmp 61, .tmp 62]) rfl ?_); (try (refine gate_guard (by rfl) ?_; dsimp only)); at_builtin; refine Kd.R_append (Kd.int .i64) (w0 := w) w.heap.size rfl (.tmp 61) (.tmp 62) 24 3 (.int .i64 0) 8 rfl Try.underlying24 info3 rfl (by decide) (by omega) v422 x9_15 0 [.int .i64 0] (fun k_ => some k_ ≠ (.slice Ao18 t418.length co18 : Value).ownBlock) (fun _ => False) rfl rfl ?aP (fun _ hk => hk.elim) ?aF ?aO ?aB ?aS ?aL ?_; (case aP => exact rfl); (case aB => exact qx13_1); (case aF => exact (fun k_ hk => Kd.fresh' (Kd.R_lt qx13_8) k_ hk)); (case aO => exact qx13_9); (case aS => exact (below_size qx13_1)); (case aL => have := LMc34.out; omega); intro v428 w35 ho hb hg hat; rw [← Ny427.out] at ho; have n0_ := Aside0.mk (Kd.R_after (ok := (fun _ => True)) (by (with_reducible repeat (first | apply Kd.R_alloc | apply Kd.R_drewN | apply Kd.R_drew)); exact Kd.R_mono HO_7.out (fun _ hk => ⟨trivial, hk⟩)) hg hat); have n1_ := Aside0.mk (blk_grown (g := gb415) (o := .cells #[.slice A2_0 l2_0.length c2_0, .slice A2_1 l2_1.length c2_1, .int .i8 a2_2, .bool true] 41 (0, 0)) qx13_2 hg (Kd.R_ne HO_9.out BK415.out (by decide))); have n2_ := Aside0.mk (hb); have n3_ := Aside0.mk (ho); clear HO_7; clear BK415; clear HB; clear HO_9; have HO_7 := n0_; have BK415 := n1_; have HB := n2_; have HO429 := n3_; clear n0_ n1_ n2_ n3_; clear ho hb hg hat))
         go_meet
         case rel => exact ⟨_, (y427), H', ⟨by have := HJ3.out; have := HJ15.out; first | omega | exact Nat.le_refl _⟩, ⟨by (with_reducible repeat (first | apply Kd.R_alloc | apply Kd.R_drewN | apply Kd.R_drew)); exact Kd.R_mono HO_7.out (fun _ hk => hk.2)⟩, ⟨by (with_reducible repeat (first | apply Kd.R_alloc | apply Kd.R_drewN | apply Kd.R_drew)); exact HO429.out⟩, ⟨qx13_2⟩, ⟨qx13_1⟩⟩
        ·rw [if_neg c34] at H
         exact absurd H (by simp)
       ·replace c33 := Bool.eq_false_iff.mpr c33
        subst c33
        have H1 : (sleuthlaw44_SegmentationVerifies.j3 kj15 t418 (wrap64 (Int.tmod a1 64)) x9_15 l2_0 l2_1 a2_2 false) = some r := by rw [if_neg (show ¬ (false = true) by decide)] at H; exact H
        clear H
        have H := H1
        clear H1
        have H' := Aside0.mk H
        clear H
        go_wp2
        go_meet
        case rel => exact ⟨_, (x9_15), H', ⟨by have := HJ3.out; have := HJ15.out; first | omega | exact Nat.le_refl _⟩, ⟨qx13_8⟩, ⟨qx13_9⟩, ⟨qx13_2⟩, ⟨qx13_1⟩⟩
      case rest =>
       clear HC31
       try clear c1
       try clear c2
       try clear p2
       try clear q2
       try clear hx2
       try clear c3
       try clear p4
       try clear q4
       try clear hx4
       try clear c5
       try clear p6
       try clear c7
       try clear c11
       try clear c13
       try clear c14
       try clear c19
       try clear c20
       try clear c20b0
       try clear c21
       try clear c21b0
       try clear c22
       try clear c22b0
       try clear p23
       try clear q23
       try clear hx23
       try clear hf23
       try clear c33
       try clear c34
       try clear hcz25_0
       try clear hcz25_1
       try clear hcz25_2
       try clear hcz25_3
       try clear hcz29_0
       try clear hcz29_1
       try clear hcz29_2
       try clear hcz29_3
       try clear hcz32_0
       try clear hcz32_1
       try clear hcz32_2
       try clear hcz32_3
       try clear hcz9_0
       try clear hcz9_1
       try clear hcz9_2
       try clear hcz9_3
       try clear hfz25_0
       try clear hfz25_1
       try clear hfz25_2
       try clear hfz25_3
       try clear hfz29_0
       try clear hfz29_1
       try clear hfz29_2
       try clear hfz29_3
       try clear hfz32_0
       try clear hfz32_1
       try clear hfz32_2
       try clear hfz32_3
       try clear hfz9_0
       try clear hfz9_1
       try clear hfz9_2
       try clear hfz9_3
       try clear hx23_0
       try clear hx424_0
       try clear hx425_0
       try clear p2
       try clear p23
       try clear p4
       try clear p424
       try clear p425
       try clear p6
       try clear q2
       try clear q23
       try clear q4
       try clear q424
       try clear q425
       obtain ⟨kq, x9_30, HA, HJ30, HO_7, HO_9, BK415, HB⟩ := hcut
       cases kq with
       | zero => exact absurd HA.out (by simp [sleuthlaw44_SegmentationVerifies.j3])
       | succ kj30 =>
        have H := HA.out
        clear HA
        simp only [sleuthlaw44_SegmentationVerifies.j3] at H
        replace H := Option.bind_eq_some_iff.mp H
        obtain ⟨⟨t431, t432⟩, A360, H⟩ := H
        replace H : ((segmentation_Verify.f kj30 t418 (wrap64 (Int.tmod a1 64)) x9_30 l2_1 (wrap64 (t431 + (wrap64 (a2_2))))).bind fun t433 => (if t432 = 0 then ((sleuthlaw44_proves.f kj30 t418 (wrap64 (Int.tmod a1 64)) x9_30 l2_1 (wrap64 (t431 + (wrap64 (a2_2))))).bind fun t434 => (if t434 = true then (if t433 = 0 then ((sleuthlaw44_best.f kj30 t418 (wrap64 (Int.tmod a1 64)) (-1)).bind fun bt435 => (some ((wrap64 (t431 + (wrap64 (a2_2)))) == bt435.2))) else (some false)) else (some (t433 == 24)))) else (some (t433 == t432)))) = some r := H
        have A36 := Aside0.mk A360
        clear A360
        replace H := Option.bind_eq_some_iff.mp H
        obtain ⟨t433, A370, H⟩ := H
        replace H : (if t432 = 0 then ((sleuthlaw44_proves.f kj30 t418 (wrap64 (Int.tmod a1 64)) x9_30 l2_1 (wrap64 (t431 + (wrap64 (a2_2))))).bind fun t434 => (if t434 = true then (if t433 = 0 then ((sleuthlaw44_best.f kj30 t418 (wrap64 (Int.tmod a1 64)) (-1)).bind fun bt435 => (some ((wrap64 (t431 + (wrap64 (a2_2)))) == bt435.2))) else (some false)) else (some (t433 == 24)))) else (some (t433 == t432))) = some r := H
        have A37 := Aside0.mk A370
        clear A370
        by_cases c38 : t432 = 0
        ·rw [if_pos c38] at H
         have c38b0 : (t432 == 0) = true := beq_iff_eq.mpr c38
         have c38b1 : (t432 != 0) = false := bne_eq_false_iff_eq.mpr c38
         clear c38
         replace H := Option.bind_eq_some_iff.mp H
         obtain ⟨t434, A390, H⟩ := H
         replace H : (if t434 = true then (if t433 = 0 then ((sleuthlaw44_best.f kj30 t418 (wrap64 (Int.tmod a1 64)) (-1)).bind fun bt435 => (some ((wrap64 (t431 + (wrap64 (a2_2)))) == bt435.2))) else (some false)) else (some (t433 == 24))) = some r := H
         have A39 := Aside0.mk A390
         clear A390
         by_cases c40 : t434 = true
         ·subst c40
          have H1 : (if t433 = 0 then ((sleuthlaw44_best.f kj30 t418 (wrap64 (Int.tmod a1 64)) (-1)).bind fun bt435 => (some ((wrap64 (t431 + (wrap64 (a2_2)))) == bt435.2))) else (some false)) = some r := by rw [if_pos rfl] at H; exact H
          clear H
          have H := H1
          clear H1
          by_cases c41 : t433 = 0
          ·rw [if_pos c41] at H
           have c41b0 : (t433 == 0) = true := beq_iff_eq.mpr c41
           have c41b1 : (t433 != 0) = false := bne_eq_false_iff_eq.mpr c41
           clear c41
           replace H := Option.bind_eq_some_iff.mp H
           obtain ⟨⟨t435, t438⟩, A420, H⟩ := H
           replace H : (some ((wrap64 (t431 + (wrap64 (a2_2)))) == t438)) = some r := H
           have A42 := Aside0.mk A420
           clear A420
           obtain rfl := Option.some.inj H
           have hcz43_0 : wc.cell? ⟨gb415, 0, none⟩ = some (.slice A2_0 l2_0.length c2_0) := (blk_cell BK415.out 0).trans rfl
           have hcz43_1 : wc.cell? ⟨gb415, 1, none⟩ = some (.slice A2_1 l2_1.length c2_1) := (blk_cell BK415.out 1).trans rfl
           have hcz43_2 : wc.cell? ⟨gb415, 2, none⟩ = some (.int .i8 a2_2) := (blk_cell BK415.out 2).trans rfl
           have hcz43_3 : wc.cell? ⟨gb415, 3, none⟩ = some (.bool a2_3) := (blk_cell BK415.out 3).trans rfl
           have hfz43_0 := blk_frozen BK415.out 0
           have hfz43_1 := blk_frozen BK415.out 1
           have hfz43_2 := blk_frozen BK415.out 2
           have hfz43_3 := blk_frozen BK415.out 3
           try go_wp2_with (first | ((with_reducible refine gate_dst (N := 11) rfl ?_); (try (refine gate_guard (by rfl) ?_; dsimp only)); refine box_event ?hg (N := 11) ?hd (cs := #[.slice none 0 0, .int .i64 0]) (t := 27) ?hr ?_; (case hd => rfl); (case hg => rfl); (case hr => first | (go_simp; done) | (go_simp; rfl)); intro gb430 hg w44 hbox hb; have n0_ := Aside0.mk (Kd.R_below qx13_8 hb); have n1_ := Aside0.mk (Kd.R_below qx13_9 hb); have n2_ := Aside0.mk (blk_below (g := gb415) (o := .cells #[.slice A2_0 l2_0.length c2_0, .slice A2_1 l2_1.length c2_1, .int .i8 a2_2, .bool a2_3] 41 (0, 0)) qx13_2 hb); have n3_ := Aside0.mk (below_step qx13_1 hb); have n4_ := Aside0.mk (hbox); have n5_ := Aside0.mk ((by rw [hg]; exact (below_size qx13_1) : w.heap.size ≤ gb430)); have n6_ := Aside0.mk ((by rw [hg]; exact (below_size qx13_1) : w.heap.size ≤ gb430)); have n7_ := Aside0.mk ((by rw [hg]; exact Nat.ne_of_lt (blk_lt (g := gb415) (o := .cells #[.slice A2_0 l2_0.length c2_0, .slice A2_1 l2_1.length c2_1, .int .i8 a2_2, .bool a2_3] 41 (0, 0)) qx13_2) : gb415 ≠ gb430)); have n8_ := Aside0.mk ((by rw [hg]; exact Nat.ne_of_gt (blk_lt (g := gb415) (o := .cells #[.slice A2_0 l2_0.length c2_0, .slice A2_1 l2_1.length c2_1, .int .i8 a2_2, .bool a2_3] 41 (0, 0)) qx13_2) : gb430 ≠ gb415)); clear HO_7; clear HO_9; clear BK415; clear HB; have HO_7 := n0_; have HO_9 := n1_; have BK415 := n2_; have HB := n3_; have BK430 := n4_; have GW430 := n5_; have GE430 := n6_; have NB415_430 := n7_; have NB430_415 := n8_; clear n0_ n1_ n2_ n3_ n4_ n5_ n6_ n7_ n8_; clear hb hbox hg; have hnb45 := NB430_415.out; have hnc45 := NB415_430.out; have hcz46_0 : w44.cell? ⟨gb430, 0, none⟩ = some (.slice none 0 0) := (blk_cell BK430.out 0).trans rfl; have hcz46_1 : w44.cell? ⟨gb430, 1, none⟩ = some (.int .i64 0) := (blk_cell BK430.out 1).trans rfl; have hfz46_0 := blk_frozen BK430.out 0; have hfz46_1 := blk_frozen BK430.out 1; have hcz47_0 : w44.cell? ⟨gb415, 0, none⟩ = some (.slice A2_0 l2_0.length c2_0) := (blk_cell BK415.out 0).trans rfl; have hcz47_1 : w44.cell? ⟨gb415, 1, none⟩ = some (.slice A2_1 l2_1.length c2_1) := (blk_cell BK415.out 1).trans rfl; have hcz47_2 : w44.cell? ⟨gb415, 2, none⟩ = some (.int .i8 a2_2) := (blk_cell BK415.out 2).trans rfl; have hcz47_3 : w44.cell? ⟨gb415, 3, none⟩ = some (.bool a2_3) := (blk_cell BK415.out 3).trans rfl; have hfz47_0 := blk_frozen BK415.out 0; have hfz47_1 := blk_frozen BK415.out 1; have hfz47_2 := blk_frozen BK415.out 2; have hfz47_3 := blk_frozen BK415.out 3) | ((with_reducible refine gate_callee (f := 21) rfl ?_); refine goesL_ (some 72) rfl rfl Try.func21 (by kernel_rfl) rfl #[.slice Ao18 t418.length co18, .int .i64 (wrap64 (Int.tmod a1 64)), .slice A2_1 l2_1.length c2_1] rfl qx13_4 ?_; (with_reducible refine (sleuthlaw44_total.calls kj30 _ _ t418 (wrap64 (Int.tmod a1 64)) _ _ l2_1 t431 t432 _ ?side1 ?side2 ?side3 ?side4 A36.out).mono ?_); (case side1 => exact qx13_15); (case side2 => exact qx13_22); (case side3 => exact qx13_24); (case side4 => exact HC2_1.out); rintro e w48 ⟨rfl, hb⟩; refine ⟨_, rfl, ?_⟩; have n0_ := Aside0.mk (Kd.R_below qx13_3 hb); have n1_ := Aside0.mk (Kd.R_below qx13_11 hb); have n2_ := Aside0.mk (blk_below (g := gb415) (o := .cells #[.slice A2_0 l2_0.length c2_0, .slice A2_1 l2_1.length c2_1, .int .i8 a2_2, .bool a2_3] 41 (0, 0)) qx13_10 hb); have n3_ := Aside0.mk (blk_below (g := gb430) (o := .cells #[.slice A2_1 l2_1.length c2_1, .int .i64 0] 27 (0, 0)) qx13_7 hb); have n4_ := Aside0.mk (below_step qx13_0 hb); clear HO_7; clear HO_9; clear BK415; clear BK430; clear HB; have HO_7 := n0_; have HO_9 := n1_; have BK415 := n2_; have BK430 := n3_; have HB := n4_; clear n0_ n1_ n2_ n3_ n4_; (try clear hb); (try clear hb2); (try clear hk); (try clear hi); have hcz49_0 : w48.cell? ⟨gb415, 0, none⟩ = some (.slice A2_0 l2_0.length c2_0) := (blk_cell BK415.out 0).trans rfl; have hcz49_1 : w48.cell? ⟨gb415, 1, none⟩ = some (.slice A2_1 l2_1.length c2_1) := (blk_cell BK415.out 1).trans rfl; have hcz49_2 : w48.cell? ⟨gb415, 2, none⟩ = some (.int .i8 a2_2) := (blk_cell BK415.out 2).trans rfl; have hcz49_3 : w48.cell? ⟨gb415, 3, none⟩ = some (.bool a2_3) := (blk_cell BK415.out 3).trans rfl; have hfz49_0 := blk_frozen BK415.out 0; have hfz49_1 := blk_frozen BK415.out 1; have hfz49_2 := blk_frozen BK415.out 2; have hfz49_3 := blk_frozen BK415.out 3; have hcz50_0 : w48.cell? ⟨gb430, 0, none⟩ = some (.slice A2_1 l2_1.length c2_1) := (blk_cell BK430.out 0).trans rfl; have hcz50_1 : w48.cell? ⟨gb430, 1, none⟩ = some (.int .i64 0) := (blk_cell BK430.out 1).trans rfl; have hfz50_0 := blk_frozen BK430.out 0; have hfz50_1 := blk_frozen BK430.out 1; obtain ⟨Ao51, co51, eo51⟩ := Kd.R_slice HO_9.out; subst eo51) | ((with_reducible refine gate_callee (f := 20) rfl ?_); refine goesL_ (some 85) rfl rfl Try.func20 (by kernel_rfl) rfl #[.slice Ao18 t418.length co18, .int .i64 (wrap64 (Int.tmod a1 64)), .slice Ao51 x9_30.length co51, .agg #[.slice A2_1 l2_1.length c2_1, .int .i64 (wrap64 (t431 + (wrap64 (a2_2))))]] rfl qx13_4 ?_; (with_reducible refine (segmentation_Verify.calls kj30 _ _ t418 (wrap64 (Int.tmod a1 64)) _ _ x9_30 _ _ l2_1 (wrap64 (t431 + (wrap64 (a2_2)))) t433 _ ?side1 ?side2 ?side3 ?side4 ?side5 ?side6 A37.out).mono ?_); (case side1 => refine (Kd.R_reads' (e := 3) (base := w.heap.size) (ok := fun k_ => some k_ ≠ (.slice Ao51 x9_30.length co51 : Value).ownBlock) (n := t418.length) (c := co18) ?_).2.2; exact qx13_5); (case side2 => exact qx13_22); (case side3 => refine (Kd.R_reads' (e := 3) (base := w.heap.size) (ok := fun k_ => some k_ ≠ (.slice Ao18 t418.length co18 : Value).ownBlock) (n := x9_30.length) (c := co51) ?_).2.2; exact qx13_6); (case side4 => exact (Kd.R_reads' HO_9.out).2.1); (case side5 => exact qx13_24); (case side6 => exact HC2_1.out); rintro e w52 ⟨rfl, hb⟩; refine ⟨_, rfl, ?_⟩; have n0_ := Aside0.mk (Kd.R_below qx13_5 hb); have n1_ := Aside0.mk (Kd.R_below qx13_6 hb); have n2_ := Aside0.mk (blk_below (g := gb415) (o := .cells #[.slice A2_0 l2_0.length c2_0, .slice A2_1 l2_1.length c2_1, .int .i8 a2_2, .bool a2_3] 41 (0, 0)) qx13_13 hb); have n3_ := Aside0.mk (blk_below (g := gb430) (o := .cells #[.slice A2_1 l2_1.length c2_1, .int .i64 (wrap64 (t431 + (wrap64 (a2_2))))] 27 (0, 0)) qx13_12 hb); have n4_ := Aside0.mk (below_step qx13_0 hb); clear HO_7; clear HO_9; clear BK415; clear BK430; clear HB; have HO_7 := n0_; have HO_9 := n1_; have BK415 := n2_; have BK430 := n3_; have HB := n4_; clear n0_ n1_ n2_ n3_ n4_; (try clear hb); (try clear hb2); (try clear hk); (try clear hi); have hcz53_0 : w52.cell? ⟨gb430, 0, none⟩ = some (.slice A2_1 l2_1.length c2_1) := (blk_cell BK430.out 0).trans rfl; have hcz53_1 : w52.cell? ⟨gb430, 1, none⟩ = some (.int .i64 (wrap64 (t431 + (wrap64 (a2_2))))) := (blk_cell BK430.out 1).trans rfl; have hfz53_0 := blk_frozen BK430.out 0; have hfz53_1 := blk_frozen BK430.out 1) | ((with_reducible refine gate_callee (f := 22) rfl ?_); refine goesL_ (some 95) rfl rfl Try.func22 (by kernel_rfl) rfl #[.slice Ao18 t418.length co18, .int .i64 (wrap64 (Int.tmod a1 64)), .slice Ao51 x9_30.length co51, .agg #[.slice A2_1 l2_1.length c2_1, .int .i64 (wrap64 (t431 + (wrap64 (a2_2))))]] rfl qx13_4 ?_; (with_reducible refine (sleuthlaw44_proves.calls kj30 _ _ t418 (wrap64 (Int.tmod a1 64)) _ _ x9_30 _ _ l2_1 (wrap64 (t431 + (wrap64 (a2_2)))) true _ ?side1 ?side2 ?side3 ?side4 ?side5 ?side6 A39.out).mono ?_); (case side1 => exact qx13_14); (case side2 => exact qx13_22); (case side3 => exact qx13_19); (case side4 => exact (Kd.R_reads' HO_9.out).2.1); (case side5 => exact qx13_18); (case side6 => exact HC2_1.out); rintro e w54 ⟨rfl, hb⟩; refine ⟨_, rfl, ?_⟩; have n0_ := Aside0.mk (Kd.R_below qx13_8 hb); have n1_ := Aside0.mk (Kd.R_below qx13_9 hb); have n2_ := Aside0.mk (blk_below (g := gb415) (o := .cells #[.slice A2_0 l2_0.length c2_0, .slice A2_1 l2_1.length c2_1, .int .i8 a2_2, .bool a2_3] 41 (0, 0)) qx13_2 hb); have n3_ := Aside0.mk (blk_below (g := gb430) (o := .cells #[.slice A2_1 l2_1.length c2_1, .int .i64 (wrap64 (t431 + (wrap64 (a2_2))))] 27 (0, 0)) qx13_17 hb); have n4_ := Aside0.mk (below_step qx13_0 hb); clear HO_7; clear HO_9; clear BK415; clear BK430; clear HB; have HO_7 := n0_; have HO_9 := n1_; have BK415 := n2_; have BK430 := n3_; have HB := n4_; clear n0_ n1_ n2_ n3_ n4_; (try clear hb); (try clear hb2); (try clear hk); (try clear hi)))
           have n0_ := Aside0.mk (Kd.R_drew HO_7.out)
           have n1_ := Aside0.mk (Kd.R_drew HO_9.out)
           have n2_ := Aside0.mk (blk_drew BK415.out)
           have n3_ := Aside0.mk (blk_drew BK430.out)
           have n4_ := Aside0.mk (below_drew1 HB.out)
           clear HO_7
           clear HO_9
           clear BK415
           clear BK430
           clear HB
           have HO_7 := n0_
           have HO_9 := n1_
           have BK415 := n2_
           have BK430 := n3_
           have HB := n4_
           clear n0_ n1_ n2_ n3_ n4_
           refine start_ (n := 12) (S := fun w' => w'.cell? ⟨gb430, 0, none⟩ = some (.slice A2_1 l2_1.length c2_1) ∧ w'.cell? ⟨gb430, 1, none⟩ = some (.int .i64 (wrap64 (t431 + (wrap64 (a2_2)))))) (ds := []) #[F, F, F, F, F, F, F, F, F, F, F, F] (by kernel_rfl) rfl rfl ⟨(blk_cell BK430.out 0).trans rfl, (blk_cell BK430.out 1).trans rfl⟩ (fun hHeld => ?_); refine with_tabW sleuthlaw44_SegmentationVerifies.tab19 sleuthlaw44_SegmentationVerifies.bits19 (fun HT_ HW_ => ?_)
           generalize w54.drew = w55 at HO_7 HO_9 BK415 BK430 HB hHeld ⊢
           refine pure_ (i := 0) (N := some 99) (v := ?_) (a' := ?_) #[T, F, F, F, F, F, F, F, F, F, F, F] rfl rfl (any_of HT_.out (by kernel_rfl)) (fun _ _ _ h => h) (Or.inl ⟨by rfl, ?_⟩) ?_ ?_
           rotate_left
           ·intro w'
            go_simp
            with_reducible rfl
           rotate_left
           ·simp only [Act.put, List.setIfInBounds_toArray, List.set_cons_zero, List.set_cons_succ, i64_w, i32_w]
            rfl
           refine pure_ (i := 1) (N := some 100) (v := ?_) (a' := ?_) #[T, T, F, F, F, F, F, F, F, F, F, F] rfl rfl (any_of HT_.out (by kernel_rfl)) (fun _ _ _ h => h) (Or.inl ⟨by rfl, ?_⟩) ?_ ?_
           rotate_left
           ·intro w'
            go_simp
            with_reducible rfl
           rotate_left
           ·simp only [Act.put, List.setIfInBounds_toArray, List.set_cons_zero, List.set_cons_succ, i64_w, i32_w]
            rfl
           refine pure_ (i := 2) (N := some 101) (v := ?_) (a' := ?_) #[T, T, T, F, F, F, F, F, F, F, F, F] rfl rfl (any_of HT_.out (by kernel_rfl)) (fun _ _ _ h => h) (Or.inl ⟨by rfl, ?_⟩) ?_ ?_
           rotate_left
           ·intro w'
            go_simp
            with_reducible rfl
           rotate_left
           ·simp only [Act.put, List.setIfInBounds_toArray, List.set_cons_zero, List.set_cons_succ, i64_w, i32_w]
            rfl
           refine pure_ (i := 3) (N := some 102) (v := ?_) (a' := ?_) #[T, T, T, T, F, F, F, F, F, F, F, F] rfl rfl (any_of HT_.out (by kernel_rfl)) (fun _ _ _ h => h) (Or.inl ⟨by rfl, ?_⟩) ?_ ?_
           rotate_left
           ·intro w'
            go_simp
            with_reducible rfl
           rotate_left
           ·simp only [Act.put, List.setIfInBounds_toArray, List.set_cons_zero, List.set_cons_succ, i64_w, i32_w]
            rfl
           refine pure_ (i := 5) (N := some 104) (v := ?_) (a' := ?_) #[T, T, T, T, F, T, F, F, F, F, F, F] rfl rfl (any_of HT_.out (by kernel_rfl)) (fun _ _ _ h => h) (Or.inl ⟨by rfl, ?_⟩) ?_ ?_
           rotate_left
           ·intro w'
            go_simp
            with_reducible rfl
           rotate_left
           ·simp only [Act.put, List.setIfInBounds_toArray, List.set_cons_zero, List.set_cons_succ, i64_w, i32_w]
            rfl
           refine pure_ (i := 6) (N := some 105) (v := ?_) (a' := ?_) #[T, T, T, T, F, T, T, F, F, F, F, F] rfl rfl (any_of HT_.out (by kernel_rfl)) (fun _ _ _ h => h) (Or.inl ⟨by rfl, ?_⟩) ?_ ?_
           rotate_left
           ·intro w'
            go_simp
            with_reducible rfl
           rotate_left
           ·simp only [Act.put, List.setIfInBounds_toArray, List.set_cons_zero, List.set_cons_succ, i64_w, i32_w]
            rfl
           refine take_ (i := 4) (N := some 103) (v := ?_) (a' := ?_) #[T, T, T, T, T, T, T, F, F, F, F, F] rfl rfl (take_ofW HT_.out HW_.out (by kernel_rfl)) (fun _ _ _ h => h) (Or.inl ⟨by rfl, ?_⟩) hHeld ?_ ?_
           rotate_left
           ·rintro w' ⟨s0, s1⟩
            go_simp
            with_reducible rfl
           rotate_left
           ·simp only [Act.put, List.setIfInBounds_toArray, List.set_cons_zero, List.set_cons_succ, i64_w, i32_w]
            rfl
           refine one_ (i := 7) (N := some 106) #[T, T, T, T, T, T, T, T, F, F, F, F] rfl rfl (one_of HT_.out (by kernel_rfl)) (by decide) (fun K hK => ?_)
           refine goes_ Try.func16 (by kernel_rfl) rfl #[.slice Ao18 t418.length co18, .int .i64 (wrap64 (Int.tmod a1 64)), .int .i64 (-1)] (by rfl) rfl rfl qx13_4 ?_
           with_reducible refine (sleuthlaw44_best.calls kj30 _ _ t418 (wrap64 (Int.tmod a1 64)) (-1) t435 t438 _ ?side1 ?side2 A42.out).mono ?_
           (case side1 => exact qx13_14)
           (case side2 => exact qx13_22)
           rintro e w56 ⟨v436, rfl, ho0, hb⟩
           refine ⟨_, rfl, ?_⟩
           have n0_ := Aside0.mk (Kd.R_elder' qx13_8 (Kd.R_base ho0) hb)
           have n1_ := Aside0.mk (Kd.R_elder' qx13_9 (Kd.R_base ho0) hb)
           have n2_ := Aside0.mk (Kd.R_lower (Kd.R_new' (Kd.R_new' ho0 (Kd.R_lt qx13_8)) (Kd.R_lt qx13_9)) (below_size qx13_0))
           have n3_ := Aside0.mk (blk_below (g := gb415) (o := .cells #[.slice A2_0 l2_0.length c2_0, .slice A2_1 l2_1.length c2_1, .int .i8 a2_2, .bool a2_3] 41 (0, 0)) qx13_2 hb)
           have n4_ := Aside0.mk (blk_below (g := gb430) (o := .cells #[.slice A2_1 l2_1.length c2_1, .int .i64 (wrap64 (t431 + (wrap64 (a2_2))))] 27 (0, 0)) qx13_17 hb)
           have n5_ := Aside0.mk (below_step qx13_0 hb)
           clear HO_7
           clear HO_9
           clear BK415
           clear BK430
           clear HB
           have HO_7 := n0_
           have HO_9 := n1_
           have HO437 := n2_
           have BK415 := n3_
           have BK430 := n4_
           have HB := n5_
           clear n0_ n1_ n2_ n3_ n4_ n5_
           (try clear hb)
           (try clear hb2)
           (try clear hk)
           (try clear hi)
           (try clear ho0)
           refine hK.out _ _ ⟨(blk_cell BK430.out 0).trans rfl, (blk_cell BK430.out 1).trans rfl⟩ (fun hHeld => ?_)
           clear hK K
           refine norm_ (a' := ?_) ?_ ?_
           rotate_left
           ·show Act.put _ (some 106) _ = _
            simp only [Act.put, List.setIfInBounds_toArray, List.set_cons_zero, List.set_cons_succ, i64_w, i32_w]
            rfl
           refine pure_ (i := 8) (N := some 107) (v := ?_) (a' := ?_) #[T, T, T, T, T, T, T, T, T, F, F, F] rfl rfl (any_of HT_.out (by kernel_rfl)) (fun _ _ _ h => h) (Or.inl ⟨by rfl, ?_⟩) ?_ ?_
           rotate_left
           ·intro w'
            go_simp
            with_reducible rfl
           rotate_left
           ·simp only [Act.put, List.setIfInBounds_toArray, List.set_cons_zero, List.set_cons_succ, i64_w, i32_w]
            rfl
           refine pure_ (i := 9) (N := some 108) (v := ?_) (a' := ?_) #[T, T, T, T, T, T, T, T, T, T, F, F] rfl rfl (any_of HT_.out (by kernel_rfl)) (fun _ _ _ h => h) (Or.inl ⟨by rfl, ?_⟩) ?_ ?_
           rotate_left
           ·intro w'
            go_simp
            with_reducible rfl
           rotate_left
           ·simp only [Act.put, List.setIfInBounds_toArray, List.set_cons_zero, List.set_cons_succ, i64_w, i32_w]
            rfl
           refine pure_ (i := 10) (N := some 109) (v := ?_) (a' := ?_) #[T, T, T, T, T, T, T, T, T, T, T, F] rfl rfl (any_of HT_.out (by kernel_rfl)) (fun _ _ _ h => h) (Or.inl ⟨by rfl, ?_⟩) ?_ ?_
           rotate_left
           ·intro w'
            go_simp
            with_reducible rfl
           rotate_left
           ·simp only [Act.put, List.setIfInBounds_toArray, List.set_cons_zero, List.set_cons_succ, i64_w, i32_w]
            rfl
           refine pure_ (i := 11) (N := some 6) (v := ?_) (a' := ?_) #[T, T, T, T, T, T, T, T, T, T, T, T] rfl rfl (any_of HT_.out (by kernel_rfl)) (fun _ _ _ h => h) (Or.inl ⟨by rfl, ?_⟩) ?_ ?_
           rotate_left
           ·intro w'
            go_simp
            with_reducible rfl
           rotate_left
           ·simp only [Act.put, List.setIfInBounds_toArray, List.set_cons_zero, List.set_cons_succ, i64_w, i32_w]
            rfl
           refine done_ (done_of HT_.out (by kernel_rfl)) ?_
           try go_wp2
           go_ret
           exact ⟨qx13_16, qx13_0⟩
          ·rw [if_neg c41] at H
           have c41b0 : (t433 == 0) = false := beq_eq_false_iff_ne.mpr c41
           have c41b1 : (t433 != 0) = true := bne_iff_ne.mpr c41
           obtain rfl := Option.some.inj H
           have hcz57_0 : wc.cell? ⟨gb415, 0, none⟩ = some (.slice A2_0 l2_0.length c2_0) := (blk_cell BK415.out 0).trans rfl
           have hcz57_1 : wc.cell? ⟨gb415, 1, none⟩ = some (.slice A2_1 l2_1.length c2_1) := (blk_cell BK415.out 1).trans rfl
           have hcz57_2 : wc.cell? ⟨gb415, 2, none⟩ = some (.int .i8 a2_2) := (blk_cell BK415.out 2).trans rfl
           have hcz57_3 : wc.cell? ⟨gb415, 3, none⟩ = some (.bool a2_3) := (blk_cell BK415.out 3).trans rfl
           have hfz57_0 := blk_frozen BK415.out 0
           have hfz57_1 := blk_frozen BK415.out 1
           have hfz57_2 := blk_frozen BK415.out 2
           have hfz57_3 := blk_frozen BK415.out 3
           try go_wp2_with (first | ((with_reducible refine gate_dst (N := 11) rfl ?_); (try (refine gate_guard (by rfl) ?_; dsimp only)); refine box_event ?hg (N := 11) ?hd (cs := #[.slice none 0 0, .int .i64 0]) (t := 27) ?hr ?_; (case hd => rfl); (case hg => rfl); (case hr => first | (go_simp; done) | (go_simp; rfl)); intro gb430 hg w58 hbox hb; have n0_ := Aside0.mk (Kd.R_below qx13_8 hb); have n1_ := Aside0.mk (Kd.R_below qx13_9 hb); have n2_ := Aside0.mk (blk_below (g := gb415) (o := .cells #[.slice A2_0 l2_0.length c2_0, .slice A2_1 l2_1.length c2_1, .int .i8 a2_2, .bool a2_3] 41 (0, 0)) qx13_2 hb); have n3_ := Aside0.mk (below_step qx13_1 hb); have n4_ := Aside0.mk (hbox); have n5_ := Aside0.mk ((by rw [hg]; exact (below_size qx13_1) : w.heap.size ≤ gb430)); have n6_ := Aside0.mk ((by rw [hg]; exact (below_size qx13_1) : w.heap.size ≤ gb430)); have n7_ := Aside0.mk ((by rw [hg]; exact Nat.ne_of_lt (blk_lt (g := gb415) (o := .cells #[.slice A2_0 l2_0.length c2_0, .slice A2_1 l2_1.length c2_1, .int .i8 a2_2, .bool a2_3] 41 (0, 0)) qx13_2) : gb415 ≠ gb430)); have n8_ := Aside0.mk ((by rw [hg]; exact Nat.ne_of_gt (blk_lt (g := gb415) (o := .cells #[.slice A2_0 l2_0.length c2_0, .slice A2_1 l2_1.length c2_1, .int .i8 a2_2, .bool a2_3] 41 (0, 0)) qx13_2) : gb430 ≠ gb415)); clear HO_7; clear HO_9; clear BK415; clear HB; have HO_7 := n0_; have HO_9 := n1_; have BK415 := n2_; have HB := n3_; have BK430 := n4_; have GW430 := n5_; have GE430 := n6_; have NB415_430 := n7_; have NB430_415 := n8_; clear n0_ n1_ n2_ n3_ n4_ n5_ n6_ n7_ n8_; clear hb hbox hg; have hnb59 := NB430_415.out; have hnc59 := NB415_430.out; have hcz60_0 : w58.cell? ⟨gb430, 0, none⟩ = some (.slice none 0 0) := (blk_cell BK430.out 0).trans rfl; have hcz60_1 : w58.cell? ⟨gb430, 1, none⟩ = some (.int .i64 0) := (blk_cell BK430.out 1).trans rfl; have hfz60_0 := blk_frozen BK430.out 0; have hfz60_1 := blk_frozen BK430.out 1; have hcz61_0 : w58.cell? ⟨gb415, 0, none⟩ = some (.slice A2_0 l2_0.length c2_0) := (blk_cell BK415.out 0).trans rfl; have hcz61_1 : w58.cell? ⟨gb415, 1, none⟩ = some (.slice A2_1 l2_1.length c2_1) := (blk_cell BK415.out 1).trans rfl; have hcz61_2 : w58.cell? ⟨gb415, 2, none⟩ = some (.int .i8 a2_2) := (blk_cell BK415.out 2).trans rfl; have hcz61_3 : w58.cell? ⟨gb415, 3, none⟩ = some (.bool a2_3) := (blk_cell BK415.out 3).trans rfl; have hfz61_0 := blk_frozen BK415.out 0; have hfz61_1 := blk_frozen BK415.out 1; have hfz61_2 := blk_frozen BK415.out 2; have hfz61_3 := blk_frozen BK415.out 3) | ((with_reducible refine gate_callee (f := 21) rfl ?_); refine goesL_ (some 72) rfl rfl Try.func21 (by kernel_rfl) rfl #[.slice Ao18 t418.length co18, .int .i64 (wrap64 (Int.tmod a1 64)), .slice A2_1 l2_1.length c2_1] rfl qx13_4 ?_; (with_reducible refine (sleuthlaw44_total.calls kj30 _ _ t418 (wrap64 (Int.tmod a1 64)) _ _ l2_1 t431 t432 _ ?side1 ?side2 ?side3 ?side4 A36.out).mono ?_); (case side1 => exact qx13_15); (case side2 => exact qx13_22); (case side3 => exact qx13_24); (case side4 => exact HC2_1.out); rintro e w62 ⟨rfl, hb⟩; refine ⟨_, rfl, ?_⟩; have n0_ := Aside0.mk (Kd.R_below qx13_3 hb); have n1_ := Aside0.mk (Kd.R_below qx13_11 hb); have n2_ := Aside0.mk (blk_below (g := gb415) (o := .cells #[.slice A2_0 l2_0.length c2_0, .slice A2_1 l2_1.length c2_1, .int .i8 a2_2, .bool a2_3] 41 (0, 0)) qx13_10 hb); have n3_ := Aside0.mk (blk_below (g := gb430) (o := .cells #[.slice A2_1 l2_1.length c2_1, .int .i64 0] 27 (0, 0)) qx13_7 hb); have n4_ := Aside0.mk (below_step qx13_0 hb); clear HO_7; clear HO_9; clear BK415; clear BK430; clear HB; have HO_7 := n0_; have HO_9 := n1_; have BK415 := n2_; have BK430 := n3_; have HB := n4_; clear n0_ n1_ n2_ n3_ n4_; (try clear hb); (try clear hb2); (try clear hk); (try clear hi); have hcz63_0 : w62.cell? ⟨gb415, 0, none⟩ = some (.slice A2_0 l2_0.length c2_0) := (blk_cell BK415.out 0).trans rfl; have hcz63_1 : w62.cell? ⟨gb415, 1, none⟩ = some (.slice A2_1 l2_1.length c2_1) := (blk_cell BK415.out 1).trans rfl; have hcz63_2 : w62.cell? ⟨gb415, 2, none⟩ = some (.int .i8 a2_2) := (blk_cell BK415.out 2).trans rfl; have hcz63_3 : w62.cell? ⟨gb415, 3, none⟩ = some (.bool a2_3) := (blk_cell BK415.out 3).trans rfl; have hfz63_0 := blk_frozen BK415.out 0; have hfz63_1 := blk_frozen BK415.out 1; have hfz63_2 := blk_frozen BK415.out 2; have hfz63_3 := blk_frozen BK415.out 3; have hcz64_0 : w62.cell? ⟨gb430, 0, none⟩ = some (.slice A2_1 l2_1.length c2_1) := (blk_cell BK430.out 0).trans rfl; have hcz64_1 : w62.cell? ⟨gb430, 1, none⟩ = some (.int .i64 0) := (blk_cell BK430.out 1).trans rfl; have hfz64_0 := blk_frozen BK430.out 0; have hfz64_1 := blk_frozen BK430.out 1; obtain ⟨Ao65, co65, eo65⟩ := Kd.R_slice HO_9.out; subst eo65) | ((with_reducible refine gate_callee (f := 20) rfl ?_); refine goesL_ (some 85) rfl rfl Try.func20 (by kernel_rfl) rfl #[.slice Ao18 t418.length co18, .int .i64 (wrap64 (Int.tmod a1 64)), .slice Ao65 x9_30.length co65, .agg #[.slice A2_1 l2_1.length c2_1, .int .i64 (wrap64 (t431 + (wrap64 (a2_2))))]] rfl qx13_4 ?_; (with_reducible refine (segmentation_Verify.calls kj30 _ _ t418 (wrap64 (Int.tmod a1 64)) _ _ x9_30 _ _ l2_1 (wrap64 (t431 + (wrap64 (a2_2)))) t433 _ ?side1 ?side2 ?side3 ?side4 ?side5 ?side6 A37.out).mono ?_); (case side1 => refine (Kd.R_reads' (e := 3) (base := w.heap.size) (ok := fun k_ => some k_ ≠ (.slice Ao65 x9_30.length co65 : Value).ownBlock) (n := t418.length) (c := co18) ?_).2.2; exact qx13_5); (case side2 => exact qx13_22); (case side3 => refine (Kd.R_reads' (e := 3) (base := w.heap.size) (ok := fun k_ => some k_ ≠ (.slice Ao18 t418.length co18 : Value).ownBlock) (n := x9_30.length) (c := co65) ?_).2.2; exact qx13_6); (case side4 => exact (Kd.R_reads' HO_9.out).2.1); (case side5 => exact qx13_24); (case side6 => exact HC2_1.out); rintro e w66 ⟨rfl, hb⟩; refine ⟨_, rfl, ?_⟩; have n0_ := Aside0.mk (Kd.R_below qx13_5 hb); have n1_ := Aside0.mk (Kd.R_below qx13_6 hb); have n2_ := Aside0.mk (blk_below (g := gb415) (o := .cells #[.slice A2_0 l2_0.length c2_0, .slice A2_1 l2_1.length c2_1, .int .i8 a2_2, .bool a2_3] 41 (0, 0)) qx13_13 hb); have n3_ := Aside0.mk (blk_below (g := gb430) (o := .cells #[.slice A2_1 l2_1.length c2_1, .int .i64 (wrap64 (t431 + (wrap64 (a2_2))))] 27 (0, 0)) qx13_12 hb); have n4_ := Aside0.mk (below_step qx13_0 hb); clear HO_7; clear HO_9; clear BK415; clear BK430; clear HB; have HO_7 := n0_; have HO_9 := n1_; have BK415 := n2_; have BK430 := n3_; have HB := n4_; clear n0_ n1_ n2_ n3_ n4_; (try clear hb); (try clear hb2); (try clear hk); (try clear hi); have hcz67_0 : w66.cell? ⟨gb430, 0, none⟩ = some (.slice A2_1 l2_1.length c2_1) := (blk_cell BK430.out 0).trans rfl; have hcz67_1 : w66.cell? ⟨gb430, 1, none⟩ = some (.int .i64 (wrap64 (t431 + (wrap64 (a2_2))))) := (blk_cell BK430.out 1).trans rfl; have hfz67_0 := blk_frozen BK430.out 0; have hfz67_1 := blk_frozen BK430.out 1) | ((with_reducible refine gate_callee (f := 22) rfl ?_); refine goesL_ (some 95) rfl rfl Try.func22 (by kernel_rfl) rfl #[.slice Ao18 t418.length co18, .int .i64 (wrap64 (Int.tmod a1 64)), .slice Ao65 x9_30.length co65, .agg #[.slice A2_1 l2_1.length c2_1, .int .i64 (wrap64 (t431 + (wrap64 (a2_2))))]] rfl qx13_4 ?_; (with_reducible refine (sleuthlaw44_proves.calls kj30 _ _ t418 (wrap64 (Int.tmod a1 64)) _ _ x9_30 _ _ l2_1 (wrap64 (t431 + (wrap64 (a2_2)))) true _ ?side1 ?side2 ?side3 ?side4 ?side5 ?side6 A39.out).mono ?_); (case side1 => exact qx13_14); (case side2 => exact qx13_22); (case side3 => exact qx13_19); (case side4 => exact (Kd.R_reads' HO_9.out).2.1); (case side5 => exact qx13_18); (case side6 => exact HC2_1.out); rintro e w68 ⟨rfl, hb⟩; refine ⟨_, rfl, ?_⟩; have n0_ := Aside0.mk (Kd.R_below qx13_8 hb); have n1_ := Aside0.mk (Kd.R_below qx13_9 hb); have n2_ := Aside0.mk (blk_below (g := gb415) (o := .cells #[.slice A2_0 l2_0.length c2_0, .slice A2_1 l2_1.length c2_1, .int .i8 a2_2, .bool a2_3] 41 (0, 0)) qx13_2 hb); have n3_ := Aside0.mk (blk_below (g := gb430) (o := .cells #[.slice A2_1 l2_1.length c2_1, .int .i64 (wrap64 (t431 + (wrap64 (a2_2))))] 27 (0, 0)) qx13_17 hb); have n4_ := Aside0.mk (below_step qx13_0 hb); clear HO_7; clear HO_9; clear BK415; clear BK430; clear HB; have HO_7 := n0_; have HO_9 := n1_; have BK415 := n2_; have BK430 := n3_; have HB := n4_; clear n0_ n1_ n2_ n3_ n4_; (try clear hb); (try clear hb2); (try clear hk); (try clear hi)))
           have n0_ := Aside0.mk (Kd.R_drew HO_7.out)
           have n1_ := Aside0.mk (Kd.R_drew HO_9.out)
           have n2_ := Aside0.mk (blk_drew BK415.out)
           have n3_ := Aside0.mk (blk_drew BK430.out)
           have n4_ := Aside0.mk (below_drew1 HB.out)
           clear HO_7
           clear HO_9
           clear BK415
           clear BK430
           clear HB
           have HO_7 := n0_
           have HO_9 := n1_
           have BK415 := n2_
           have BK430 := n3_
           have HB := n4_
           clear n0_ n1_ n2_ n3_ n4_
           refine start_ (n := 12) (S := fun w' => True) (ds := []) #[F, F, F, F, F, F, F, F, F, F, F, F] (by kernel_rfl) rfl rfl trivial (fun hHeld => ?_); refine with_tabW sleuthlaw44_SegmentationVerifies.tab19 sleuthlaw44_SegmentationVerifies.bits19 (fun HT_ HW_ => ?_)
           generalize w68.drew = w69 at HO_7 HO_9 BK415 BK430 HB hHeld ⊢
           refine pure_ (i := 0) (N := some 99) (v := ?_) (a' := ?_) #[T, F, F, F, F, F, F, F, F, F, F, F] rfl rfl (any_of HT_.out (by kernel_rfl)) (fun _ _ _ h => h) (Or.inl ⟨by rfl, ?_⟩) ?_ ?_
           rotate_left
           ·intro w'
            go_simp
            with_reducible rfl
           rotate_left
           ·simp only [Act.put, List.setIfInBounds_toArray, List.set_cons_zero, List.set_cons_succ, i64_w, i32_w]
            rfl
           refine pure_ (i := 1) (N := some 100) (v := ?_) (a' := ?_) #[T, T, F, F, F, F, F, F, F, F, F, F] rfl rfl (any_of HT_.out (by kernel_rfl)) (fun _ _ _ h => h) (Or.inl ⟨by rfl, ?_⟩) ?_ ?_
           rotate_left
           ·intro w'
            go_simp
            with_reducible rfl
           rotate_left
           ·simp only [Act.put, List.setIfInBounds_toArray, List.set_cons_zero, List.set_cons_succ, i64_w, i32_w]
            rfl
           refine pure_ (i := 2) (N := some 101) (v := ?_) (a' := ?_) #[T, T, T, F, F, F, F, F, F, F, F, F] rfl rfl (any_of HT_.out (by kernel_rfl)) (fun _ _ _ h => h) (Or.inl ⟨by rfl, ?_⟩) ?_ ?_
           rotate_left
           ·intro w'
            go_simp
            with_reducible rfl
           rotate_left
           ·simp only [Act.put, List.setIfInBounds_toArray, List.set_cons_zero, List.set_cons_succ, i64_w, i32_w]
            rfl
           refine pure_ (i := 3) (N := some 102) (v := undef) (a' := ?_) #[T, T, T, T, F, F, F, F, F, F, F, F] rfl rfl (any_of HT_.out (by kernel_rfl)) (fun _ _ _ h => h) (Or.inr ⟨by rfl, rfl⟩) ?_ ?_
           rotate_left
           ·simp only [Act.put, List.setIfInBounds_toArray, List.set_cons_zero, List.set_cons_succ, i64_w, i32_w]
            rfl
           refine pure_ (i := 4) (N := some 103) (v := undef) (a' := ?_) #[T, T, T, T, T, F, F, F, F, F, F, F] rfl rfl (any_of HT_.out (by kernel_rfl)) (fun _ _ _ h => h) (Or.inr ⟨by rfl, rfl⟩) ?_ ?_
           rotate_left
           ·simp only [Act.put, List.setIfInBounds_toArray, List.set_cons_zero, List.set_cons_succ, i64_w, i32_w]
            rfl
           refine pure_ (i := 5) (N := some 104) (v := undef) (a' := ?_) #[T, T, T, T, T, T, F, F, F, F, F, F] rfl rfl (any_of HT_.out (by kernel_rfl)) (fun _ _ _ h => h) (Or.inr ⟨by rfl, rfl⟩) ?_ ?_
           rotate_left
           ·simp only [Act.put, List.setIfInBounds_toArray, List.set_cons_zero, List.set_cons_succ, i64_w, i32_w]
            rfl
           refine pure_ (i := 6) (N := some 105) (v := undef) (a' := ?_) #[T, T, T, T, T, T, T, F, F, F, F, F] rfl rfl (any_of HT_.out (by kernel_rfl)) (fun _ _ _ h => h) (Or.inr ⟨by rfl, rfl⟩) ?_ ?_
           rotate_left
           ·simp only [Act.put, List.setIfInBounds_toArray, List.set_cons_zero, List.set_cons_succ, i64_w, i32_w]
            rfl
           refine pure_ (i := 7) (N := some 106) (v := undef) (a' := ?_) #[T, T, T, T, T, T, T, T, F, F, F, F] rfl rfl (any_of HT_.out (by kernel_rfl)) (fun _ _ _ h => h) (Or.inr ⟨by rfl, rfl⟩) ?_ ?_
           rotate_left
           ·simp only [Act.put, List.setIfInBounds_toArray, List.set_cons_zero, List.set_cons_succ, i64_w, i32_w]
            rfl
           refine pure_ (i := 8) (N := some 107) (v := undef) (a' := ?_) #[T, T, T, T, T, T, T, T, T, F, F, F] rfl rfl (any_of HT_.out (by kernel_rfl)) (fun _ _ _ h => h) (Or.inr ⟨by rfl, rfl⟩) ?_ ?_
           rotate_left
           ·simp only [Act.put, List.setIfInBounds_toArray, List.set_cons_zero, List.set_cons_succ, i64_w, i32_w]
            rfl
           refine pure_ (i := 9) (N := some 108) (v := undef) (a' := ?_) #[T, T, T, T, T, T, T, T, T, T, F, F] rfl rfl (any_of HT_.out (by kernel_rfl)) (fun _ _ _ h => h) (Or.inr ⟨by rfl, rfl⟩) ?_ ?_
           rotate_left
           ·simp only [Act.put, List.setIfInBounds_toArray, List.set_cons_zero, List.set_cons_succ, i64_w, i32_w]
            rfl
           refine pure_ (i := 10) (N := some 109) (v := ?_) (a' := ?_) #[T, T, T, T, T, T, T, T, T, T, T, F] rfl rfl (any_of HT_.out (by kernel_rfl)) (fun _ _ _ h => h) (Or.inl ⟨by rfl, ?_⟩) ?_ ?_
           rotate_left
           ·intro w'
            go_simp
            with_reducible rfl
           rotate_left
           ·simp only [Act.put, List.setIfInBounds_toArray, List.set_cons_zero, List.set_cons_succ, i64_w, i32_w]
            rfl
           refine pure_ (i := 11) (N := some 6) (v := ?_) (a' := ?_) #[T, T, T, T, T, T, T, T, T, T, T, T] rfl rfl (any_of HT_.out (by kernel_rfl)) (fun _ _ _ h => h) (Or.inl ⟨by rfl, ?_⟩) ?_ ?_
           rotate_left
           ·intro w'
            go_simp
            with_reducible rfl
           rotate_left
           ·simp only [Act.put, List.setIfInBounds_toArray, List.set_cons_zero, List.set_cons_succ, i64_w, i32_w]
            rfl
           refine done_ (done_of HT_.out (by kernel_rfl)) ?_
           try go_wp2
           go_ret
           exact ⟨qx13_16, qx13_0⟩
         ·replace c40 := Bool.eq_false_iff.mpr c40
          subst c40
          have H1 : (some (t433 == 24)) = some r := by rw [if_neg (show ¬ (false = true) by decide)] at H; exact H
          clear H
          have H := H1
          clear H1
          obtain rfl := Option.some.inj H
          have hcz70_0 : wc.cell? ⟨gb415, 0, none⟩ = some (.slice A2_0 l2_0.length c2_0) := (blk_cell BK415.out 0).trans rfl
          have hcz70_1 : wc.cell? ⟨gb415, 1, none⟩ = some (.slice A2_1 l2_1.length c2_1) := (blk_cell BK415.out 1).trans rfl
          have hcz70_2 : wc.cell? ⟨gb415, 2, none⟩ = some (.int .i8 a2_2) := (blk_cell BK415.out 2).trans rfl
          have hcz70_3 : wc.cell? ⟨gb415, 3, none⟩ = some (.bool a2_3) := (blk_cell BK415.out 3).trans rfl
          have hfz70_0 := blk_frozen BK415.out 0
          have hfz70_1 := blk_frozen BK415.out 1
          have hfz70_2 := blk_frozen BK415.out 2
          have hfz70_3 := blk_frozen BK415.out 3
          go_wp2_with (first | ((with_reducible refine gate_dst (N := 11) rfl ?_); (try (refine gate_guard (by rfl) ?_; dsimp only)); refine box_event ?hg (N := 11) ?hd (cs := #[.slice none 0 0, .int .i64 0]) (t := 27) ?hr ?_; (case hd => rfl); (case hg => rfl); (case hr => first | (go_simp; done) | (go_simp; rfl)); intro gb430 hg w71 hbox hb; have n0_ := Aside0.mk (Kd.R_below qx13_8 hb); have n1_ := Aside0.mk (Kd.R_below qx13_9 hb); have n2_ := Aside0.mk (blk_below (g := gb415) (o := .cells #[.slice A2_0 l2_0.length c2_0, .slice A2_1 l2_1.length c2_1, .int .i8 a2_2, .bool a2_3] 41 (0, 0)) qx13_2 hb); have n3_ := Aside0.mk (below_step qx13_1 hb); have n4_ := Aside0.mk (hbox); have n5_ := Aside0.mk ((by rw [hg]; exact (below_size qx13_1) : w.heap.size ≤ gb430)); have n6_ := Aside0.mk ((by rw [hg]; exact (below_size qx13_1) : w.heap.size ≤ gb430)); have n7_ := Aside0.mk ((by rw [hg]; exact Nat.ne_of_lt (blk_lt (g := gb415) (o := .cells #[.slice A2_0 l2_0.length c2_0, .slice A2_1 l2_1.length c2_1, .int .i8 a2_2, .bool a2_3] 41 (0, 0)) qx13_2) : gb415 ≠ gb430)); have n8_ := Aside0.mk ((by rw [hg]; exact Nat.ne_of_gt (blk_lt (g := gb415) (o := .cells #[.slice A2_0 l2_0.length c2_0, .slice A2_1 l2_1.length c2_1, .int .i8 a2_2, .bool a2_3] 41 (0, 0)) qx13_2) : gb430 ≠ gb415)); clear HO_7; clear HO_9; clear BK415; clear HB; have HO_7 := n0_; have HO_9 := n1_; have BK415 := n2_; have HB := n3_; have BK430 := n4_; have GW430 := n5_; have GE430 := n6_; have NB415_430 := n7_; have NB430_415 := n8_; clear n0_ n1_ n2_ n3_ n4_ n5_ n6_ n7_ n8_; clear hb hbox hg; have hnb72 := NB430_415.out; have hnc72 := NB415_430.out; have hcz73_0 : w71.cell? ⟨gb430, 0, none⟩ = some (.slice none 0 0) := (blk_cell BK430.out 0).trans rfl; have hcz73_1 : w71.cell? ⟨gb430, 1, none⟩ = some (.int .i64 0) := (blk_cell BK430.out 1).trans rfl; have hfz73_0 := blk_frozen BK430.out 0; have hfz73_1 := blk_frozen BK430.out 1; have hcz74_0 : w71.cell? ⟨gb415, 0, none⟩ = some (.slice A2_0 l2_0.length c2_0) := (blk_cell BK415.out 0).trans rfl; have hcz74_1 : w71.cell? ⟨gb415, 1, none⟩ = some (.slice A2_1 l2_1.length c2_1) := (blk_cell BK415.out 1).trans rfl; have hcz74_2 : w71.cell? ⟨gb415, 2, none⟩ = some (.int .i8 a2_2) := (blk_cell BK415.out 2).trans rfl; have hcz74_3 : w71.cell? ⟨gb415, 3, none⟩ = some (.bool a2_3) := (blk_cell BK415.out 3).trans rfl; have hfz74_0 := blk_frozen BK415.out 0; have hfz74_1 := blk_frozen BK415.out 1; have hfz74_2 := blk_frozen BK415.out 2; have hfz74_3 := blk_frozen BK415.out 3) | ((with_reducible refine gate_callee (f := 21) rfl ?_); refine goesL_ (some 72) rfl rfl Try.func21 (by kernel_rfl) rfl #[.slice Ao18 t418.length co18, .int .i64 (wrap64 (Int.tmod a1 64)), .slice A2_1 l2_1.length c2_1] rfl qx13_4 ?_; (with_reducible refine (sleuthlaw44_total.calls kj30 _ _ t418 (wrap64 (Int.tmod a1 64)) _ _ l2_1 t431 t432 _ ?side1 ?side2 ?side3 ?side4 A36.out).mono ?_); (case side1 => exact qx13_15); (case side2 => exact qx13_22); (case side3 => exact qx13_24); (case side4 => exact HC2_1.out); rintro e w75 ⟨rfl, hb⟩; refine ⟨_, rfl, ?_⟩; have n0_ := Aside0.mk (Kd.R_below qx13_3 hb); have n1_ := Aside0.mk (Kd.R_below qx13_11 hb); have n2_ := Aside0.mk (blk_below (g := gb415) (o := .cells #[.slice A2_0 l2_0.length c2_0, .slice A2_1 l2_1.length c2_1, .int .i8 a2_2, .bool a2_3] 41 (0, 0)) qx13_10 hb); have n3_ := Aside0.mk (blk_below (g := gb430) (o := .cells #[.slice A2_1 l2_1.length c2_1, .int .i64 0] 27 (0, 0)) qx13_7 hb); have n4_ := Aside0.mk (below_step qx13_0 hb); clear HO_7; clear HO_9; clear BK415; clear BK430; clear HB; have HO_7 := n0_; have HO_9 := n1_; have BK415 := n2_; have BK430 := n3_; have HB := n4_; clear n0_ n1_ n2_ n3_ n4_; (try clear hb); (try clear hb2); (try clear hk); (try clear hi); have hcz76_0 : w75.cell? ⟨gb415, 0, none⟩ = some (.slice A2_0 l2_0.length c2_0) := (blk_cell BK415.out 0).trans rfl; have hcz76_1 : w75.cell? ⟨gb415, 1, none⟩ = some (.slice A2_1 l2_1.length c2_1) := (blk_cell BK415.out 1).trans rfl; have hcz76_2 : w75.cell? ⟨gb415, 2, none⟩ = some (.int .i8 a2_2) := (blk_cell BK415.out 2).trans rfl; have hcz76_3 : w75.cell? ⟨gb415, 3, none⟩ = some (.bool a2_3) := (blk_cell BK415.out 3).trans rfl; have hfz76_0 := blk_frozen BK415.out 0; have hfz76_1 := blk_frozen BK415.out 1; have hfz76_2 := blk_frozen BK415.out 2; have hfz76_3 := blk_frozen BK415.out 3; have hcz77_0 : w75.cell? ⟨gb430, 0, none⟩ = some (.slice A2_1 l2_1.length c2_1) := (blk_cell BK430.out 0).trans rfl; have hcz77_1 : w75.cell? ⟨gb430, 1, none⟩ = some (.int .i64 0) := (blk_cell BK430.out 1).trans rfl; have hfz77_0 := blk_frozen BK430.out 0; have hfz77_1 := blk_frozen BK430.out 1; obtain ⟨Ao78, co78, eo78⟩ := Kd.R_slice HO_9.out; subst eo78) | ((with_reducible refine gate_callee (f := 20) rfl ?_); refine goesL_ (some 85) rfl rfl Try.func20 (by kernel_rfl) rfl #[.slice Ao18 t418.length co18, .int .i64 (wrap64 (Int.tmod a1 64)), .slice Ao78 x9_30.length co78, .agg #[.slice A2_1 l2_1.length c2_1, .int .i64 (wrap64 (t431 + (wrap64 (a2_2))))]] rfl qx13_4 ?_; (with_reducible refine (segmentation_Verify.calls kj30 _ _ t418 (wrap64 (Int.tmod a1 64)) _ _ x9_30 _ _ l2_1 (wrap64 (t431 + (wrap64 (a2_2)))) t433 _ ?side1 ?side2 ?side3 ?side4 ?side5 ?side6 A37.out).mono ?_); (case side1 => refine (Kd.R_reads' (e := 3) (base := w.heap.size) (ok := fun k_ => some k_ ≠ (.slice Ao78 x9_30.length co78 : Value).ownBlock) (n := t418.length) (c := co18) ?_).2.2; exact qx13_5); (case side2 => exact qx13_22); (case side3 => refine (Kd.R_reads' (e := 3) (base := w.heap.size) (ok := fun k_ => some k_ ≠ (.slice Ao18 t418.length co18 : Value).ownBlock) (n := x9_30.length) (c := co78) ?_).2.2; exact qx13_6); (case side4 => exact (Kd.R_reads' HO_9.out).2.1); (case side5 => exact qx13_24); (case side6 => exact HC2_1.out); rintro e w79 ⟨rfl, hb⟩; refine ⟨_, rfl, ?_⟩; have n0_ := Aside0.mk (Kd.R_below qx13_5 hb); have n1_ := Aside0.mk (Kd.R_below qx13_6 hb); have n2_ := Aside0.mk (blk_below (g := gb415) (o := .cells #[.slice A2_0 l2_0.length c2_0, .slice A2_1 l2_1.length c2_1, .int .i8 a2_2, .bool a2_3] 41 (0, 0)) qx13_13 hb); have n3_ := Aside0.mk (blk_below (g := gb430) (o := .cells #[.slice A2_1 l2_1.length c2_1, .int .i64 (wrap64 (t431 + (wrap64 (a2_2))))] 27 (0, 0)) qx13_12 hb); have n4_ := Aside0.mk (below_step qx13_0 hb); clear HO_7; clear HO_9; clear BK415; clear BK430; clear HB; have HO_7 := n0_; have HO_9 := n1_; have BK415 := n2_; have BK430 := n3_; have HB := n4_; clear n0_ n1_ n2_ n3_ n4_; (try clear hb); (try clear hb2); (try clear hk); (try clear hi); have hcz80_0 : w79.cell? ⟨gb430, 0, none⟩ = some (.slice A2_1 l2_1.length c2_1) := (blk_cell BK430.out 0).trans rfl; have hcz80_1 : w79.cell? ⟨gb430, 1, none⟩ = some (.int .i64 (wrap64 (t431 + (wrap64 (a2_2))))) := (blk_cell BK430.out 1).trans rfl; have hfz80_0 := blk_frozen BK430.out 0; have hfz80_1 := blk_frozen BK430.out 1) | ((with_reducible refine gate_callee (f := 22) rfl ?_); refine goesL_ (some 95) rfl rfl Try.func22 (by kernel_rfl) rfl #[.slice Ao18 t418.length co18, .int .i64 (wrap64 (Int.tmod a1 64)), .slice Ao78 x9_30.length co78, .agg #[.slice A2_1 l2_1.length c2_1, .int .i64 (wrap64 (t431 + (wrap64 (a2_2))))]] rfl qx13_4 ?_; (with_reducible refine (sleuthlaw44_proves.calls kj30 _ _ t418 (wrap64 (Int.tmod a1 64)) _ _ x9_30 _ _ l2_1 (wrap64 (t431 + (wrap64 (a2_2)))) false _ ?side1 ?side2 ?side3 ?side4 ?side5 ?side6 A39.out).mono ?_); (case side1 => exact qx13_14); (case side2 => exact qx13_22); (case side3 => exact qx13_19); (case side4 => exact (Kd.R_reads' HO_9.out).2.1); (case side5 => exact qx13_18); (case side6 => exact HC2_1.out); rintro e w81 ⟨rfl, hb⟩; refine ⟨_, rfl, ?_⟩; have n0_ := Aside0.mk (Kd.R_below qx13_8 hb); have n1_ := Aside0.mk (Kd.R_below qx13_9 hb); have n2_ := Aside0.mk (blk_below (g := gb415) (o := .cells #[.slice A2_0 l2_0.length c2_0, .slice A2_1 l2_1.length c2_1, .int .i8 a2_2, .bool a2_3] 41 (0, 0)) qx13_2 hb); have n3_ := Aside0.mk (blk_below (g := gb430) (o := .cells #[.slice A2_1 l2_1.length c2_1, .int .i64 (wrap64 (t431 + (wrap64 (a2_2))))] 27 (0, 0)) qx13_17 hb); have n4_ := Aside0.mk (below_step qx13_0 hb); clear HO_7; clear HO_9; clear BK415; clear BK430; clear HB; have HO_7 := n0_; have HO_9 := n1_; have BK415 := n2_; have BK430 := n3_; have HB := n4_; clear n0_ n1_ n2_ n3_ n4_; (try clear hb); (try clear hb2); (try clear hk); (try clear hi)))
          go_ret
          exact ⟨qx13_16, qx13_0⟩
        ·rw [if_neg c38] at H
         have c38b0 : (t432 == 0) = false := beq_eq_false_iff_ne.mpr c38
         have c38b1 : (t432 != 0) = true := bne_iff_ne.mpr c38
         obtain rfl := Option.some.inj H
         have hcz82_0 : wc.cell? ⟨gb415, 0, none⟩ = some (.slice A2_0 l2_0.length c2_0) := (blk_cell BK415.out 0).trans rfl
         have hcz82_1 : wc.cell? ⟨gb415, 1, none⟩ = some (.slice A2_1 l2_1.length c2_1) := (blk_cell BK415.out 1).trans rfl
         have hcz82_2 : wc.cell? ⟨gb415, 2, none⟩ = some (.int .i8 a2_2) := (blk_cell BK415.out 2).trans rfl
         have hcz82_3 : wc.cell? ⟨gb415, 3, none⟩ = some (.bool a2_3) := (blk_cell BK415.out 3).trans rfl
         have hfz82_0 := blk_frozen BK415.out 0
         have hfz82_1 := blk_frozen BK415.out 1
         have hfz82_2 := blk_frozen BK415.out 2
         have hfz82_3 := blk_frozen BK415.out 3
         go_wp2_with (first | ((with_reducible refine gate_dst (N := 11) rfl ?_); (try (refine gate_guard (by rfl) ?_; dsimp only)); refine box_event ?hg (N := 11) ?hd (cs := #[.slice none 0 0, .int .i64 0]) (t := 27) ?hr ?_; (case hd => rfl); (case hg => rfl); (case hr => first | (go_simp; done) | (go_simp; rfl)); intro gb430 hg w83 hbox hb; have n0_ := Aside0.mk (Kd.R_below qx13_8 hb); have n1_ := Aside0.mk (Kd.R_below qx13_9 hb); have n2_ := Aside0.mk (blk_below (g := gb415) (o := .cells #[.slice A2_0 l2_0.length c2_0, .slice A2_1 l2_1.length c2_1, .int .i8 a2_2, .bool a2_3] 41 (0, 0)) qx13_2 hb); have n3_ := Aside0.mk (below_step qx13_1 hb); have n4_ := Aside0.mk (hbox); have n5_ := Aside0.mk ((by rw [hg]; exact (below_size qx13_1) : w.heap.size ≤ gb430)); have n6_ := Aside0.mk ((by rw [hg]; exact (below_size qx13_1) : w.heap.size ≤ gb430)); have n7_ := Aside0.mk ((by rw [hg]; exact Nat.ne_of_lt (blk_lt (g := gb415) (o := .cells #[.slice A2_0 l2_0.length c2_0, .slice A2_1 l2_1.length c2_1, .int .i8 a2_2, .bool a2_3] 41 (0, 0)) qx13_2) : gb415 ≠ gb430)); have n8_ := Aside0.mk ((by rw [hg]; exact Nat.ne_of_gt (blk_lt (g := gb415) (o := .cells #[.slice A2_0 l2_0.length c2_0, .slice A2_1 l2_1.length c2_1, .int .i8 a2_2, .bool a2_3] 41 (0, 0)) qx13_2) : gb430 ≠ gb415)); clear HO_7; clear HO_9; clear BK415; clear HB; have HO_7 := n0_; have HO_9 := n1_; have BK415 := n2_; have HB := n3_; have BK430 := n4_; have GW430 := n5_; have GE430 := n6_; have NB415_430 := n7_; have NB430_415 := n8_; clear n0_ n1_ n2_ n3_ n4_ n5_ n6_ n7_ n8_; clear hb hbox hg; have hnb84 := NB430_415.out; have hnc84 := NB415_430.out; have hcz85_0 : w83.cell? ⟨gb430, 0, none⟩ = some (.slice none 0 0) := (blk_cell BK430.out 0).trans rfl; have hcz85_1 : w83.cell? ⟨gb430, 1, none⟩ = some (.int .i64 0) := (blk_cell BK430.out 1).trans rfl; have hfz85_0 := blk_frozen BK430.out 0; have hfz85_1 := blk_frozen BK430.out 1; have hcz86_0 : w83.cell? ⟨gb415, 0, none⟩ = some (.slice A2_0 l2_0.length c2_0) := (blk_cell BK415.out 0).trans rfl; have hcz86_1 : w83.cell? ⟨gb415, 1, none⟩ = some (.slice A2_1 l2_1.length c2_1) := (blk_cell BK415.out 1).trans rfl; have hcz86_2 : w83.cell? ⟨gb415, 2, none⟩ = some (.int .i8 a2_2) := (blk_cell BK415.out 2).trans rfl; have hcz86_3 : w83.cell? ⟨gb415, 3, none⟩ = some (.bool a2_3) := (blk_cell BK415.out 3).trans rfl; have hfz86_0 := blk_frozen BK415.out 0; have hfz86_1 := blk_frozen BK415.out 1; have hfz86_2 := blk_frozen BK415.out 2; have hfz86_3 := blk_frozen BK415.out 3) | ((with_reducible refine gate_callee (f := 21) rfl ?_); refine goesL_ (some 72) rfl rfl Try.func21 (by kernel_rfl) rfl #[.slice Ao18 t418.length co18, .int .i64 (wrap64 (Int.tmod a1 64)), .slice A2_1 l2_1.length c2_1] rfl qx13_4 ?_; (with_reducible refine (sleuthlaw44_total.calls kj30 _ _ t418 (wrap64 (Int.tmod a1 64)) _ _ l2_1 t431 t432 _ ?side1 ?side2 ?side3 ?side4 A36.out).mono ?_); (case side1 => exact qx13_15); (case side2 => exact qx13_22); (case side3 => exact qx13_24); (case side4 => exact HC2_1.out); rintro e w87 ⟨rfl, hb⟩; refine ⟨_, rfl, ?_⟩; have n0_ := Aside0.mk (Kd.R_below qx13_3 hb); have n1_ := Aside0.mk (Kd.R_below qx13_11 hb); have n2_ := Aside0.mk (blk_below (g := gb415) (o := .cells #[.slice A2_0 l2_0.length c2_0, .slice A2_1 l2_1.length c2_1, .int .i8 a2_2, .bool a2_3] 41 (0, 0)) qx13_10 hb); have n3_ := Aside0.mk (blk_below (g := gb430) (o := .cells #[.slice A2_1 l2_1.length c2_1, .int .i64 0] 27 (0, 0)) qx13_7 hb); have n4_ := Aside0.mk (below_step qx13_0 hb); clear HO_7; clear HO_9; clear BK415; clear BK430; clear HB; have HO_7 := n0_; have HO_9 := n1_; have BK415 := n2_; have BK430 := n3_; have HB := n4_; clear n0_ n1_ n2_ n3_ n4_; (try clear hb); (try clear hb2); (try clear hk); (try clear hi); have hcz88_0 : w87.cell? ⟨gb415, 0, none⟩ = some (.slice A2_0 l2_0.length c2_0) := (blk_cell BK415.out 0).trans rfl; have hcz88_1 : w87.cell? ⟨gb415, 1, none⟩ = some (.slice A2_1 l2_1.length c2_1) := (blk_cell BK415.out 1).trans rfl; have hcz88_2 : w87.cell? ⟨gb415, 2, none⟩ = some (.int .i8 a2_2) := (blk_cell BK415.out 2).trans rfl; have hcz88_3 : w87.cell? ⟨gb415, 3, none⟩ = some (.bool a2_3) := (blk_cell BK415.out 3).trans rfl; have hfz88_0 := blk_frozen BK415.out 0; have hfz88_1 := blk_frozen BK415.out 1; have hfz88_2 := blk_frozen BK415.out 2; have hfz88_3 := blk_frozen BK415.out 3; have hcz89_0 : w87.cell? ⟨gb430, 0, none⟩ = some (.slice A2_1 l2_1.length c2_1) := (blk_cell BK430.out 0).trans rfl; have hcz89_1 : w87.cell? ⟨gb430, 1, none⟩ = some (.int .i64 0) := (blk_cell BK430.out 1).trans rfl; have hfz89_0 := blk_frozen BK430.out 0; have hfz89_1 := blk_frozen BK430.out 1; obtain ⟨Ao90, co90, eo90⟩ := Kd.R_slice HO_9.out; subst eo90) | ((with_reducible refine gate_callee (f := 20) rfl ?_); refine goesL_ (some 85) rfl rfl Try.func20 (by kernel_rfl) rfl #[.slice Ao18 t418.length co18, .int .i64 (wrap64 (Int.tmod a1 64)), .slice Ao90 x9_30.length co90, .agg #[.slice A2_1 l2_1.length c2_1, .int .i64 (wrap64 (t431 + (wrap64 (a2_2))))]] rfl qx13_4 ?_; (with_reducible refine (segmentation_Verify.calls kj30 _ _ t418 (wrap64 (Int.tmod a1 64)) _ _ x9_30 _ _ l2_1 (wrap64 (t431 + (wrap64 (a2_2)))) t433 _ ?side1 ?side2 ?side3 ?side4 ?side5 ?side6 A37.out).mono ?_); (case side1 => refine (Kd.R_reads' (e := 3) (base := w.heap.size) (ok := fun k_ => some k_ ≠ (.slice Ao90 x9_30.length co90 : Value).ownBlock) (n := t418.length) (c := co18) ?_).2.2; exact qx13_5); (case side2 => exact qx13_22); (case side3 => refine (Kd.R_reads' (e := 3) (base := w.heap.size) (ok := fun k_ => some k_ ≠ (.slice Ao18 t418.length co18 : Value).ownBlock) (n := x9_30.length) (c := co90) ?_).2.2; exact qx13_6); (case side4 => exact (Kd.R_reads' HO_9.out).2.1); (case side5 => exact qx13_24); (case side6 => exact HC2_1.out); rintro e w91 ⟨rfl, hb⟩; refine ⟨_, rfl, ?_⟩; have n0_ := Aside0.mk (Kd.R_below qx13_5 hb); have n1_ := Aside0.mk (Kd.R_below qx13_6 hb); have n2_ := Aside0.mk (blk_below (g := gb415) (o := .cells #[.slice A2_0 l2_0.length c2_0, .slice A2_1 l2_1.length c2_1, .int .i8 a2_2, .bool a2_3] 41 (0, 0)) qx13_13 hb); have n3_ := Aside0.mk (blk_below (g := gb430) (o := .cells #[.slice A2_1 l2_1.length c2_1, .int .i64 (wrap64 (t431 + (wrap64 (a2_2))))] 27 (0, 0)) qx13_12 hb); have n4_ := Aside0.mk (below_step qx13_0 hb); clear HO_7; clear HO_9; clear BK415; clear BK430; clear HB; have HO_7 := n0_; have HO_9 := n1_; have BK415 := n2_; have BK430 := n3_; have HB := n4_; clear n0_ n1_ n2_ n3_ n4_; (try clear hb); (try clear hb2); (try clear hk); (try clear hi)))
         go_ret
         exact ⟨qx13_16, qx13_0⟩

end Go.Proofs.Ytiimanpmidnffaa.Q
