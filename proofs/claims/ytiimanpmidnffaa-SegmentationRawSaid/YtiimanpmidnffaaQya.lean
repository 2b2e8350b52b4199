-- The walk of SegmentationRaw. Laid by myprint.py (a program of this session's, over the kit's printer)
import Derived.Test.YtiimanpmidnffaaQx0
import Derived.Test.YtiimanpmidnffaaQx5
import Derived.Test.YtiimanpmidnffaaQx7
import Derived.Test.YtiimanpmidnffaaQx8
import Derived.Test.YtiimanpmidnffaaQx9
import Derived.Test.YtiimanpmidnffaaQy5
namespace Go.Proofs.Ytiimanpmidnffaa.Q
open Go.RowKit Go.Proofs.YtiimanpmidnffaaW.PrintWords Go.Proofs.YtiimanpmidnffaaW.PrintLast Go.Proofs.YtiimanpmidnffaaW.PrintMore
attribute [local go_sem] max2_int min2_int max_two min_two max_three min_three max_four min_four   -- for this text's walks alone
set_option linter.unusedVariables false
set_option linter.unusedSimpArgs false

abbrev T : Bool := true
abbrev F : Bool := false
theorem qya_0 {p : Prop} (h : p := by repeat (first | (with_reducible first | exact HB.out | apply below_alloc | apply pw_below_drewN | apply below_drew1 | refine below_set ?_ GE358.out | refine below_set ?_ GE367.out | refine below_set ?_ GE377.out) | exact HB.out)) : p := h
theorem qya_1 {p : Prop} (h : p := by (with_reducible repeat (first | refine blk_drewN ?_ _ | refine blk_drew ?_ | refine blk_alloc ?_ _)); exact BK358.out) : p := h
theorem qya_2 {p : Prop} (h : p := by repeat (first | (with_reducible first | exact HB.out | apply below_alloc | apply pw_below_drewN | apply below_drew1 | refine below_set ?_ GE358.out) | exact HB.out)) : p := h
theorem qya_3 {p : Prop} (h : p := by repeat (first | (with_reducible first | exact HB.out | apply below_alloc | apply pw_below_drewN | apply below_drew1 | refine below_set ?_ GE358.out | refine below_set ?_ GE367.out) | exact HB.out)) : p := h
theorem qya_4 {p : Prop} (h : p := by (try simp only [List.map_toArray, List.map_cons, List.map_nil]); first | done | rfl | (simp only [List.length_drop, List.length_take]; rfl)) : p := h
theorem qya_5 {p : Prop} (h : p := by first | rfl | (simp [errW_none, errW_some] <;> rfl) | (simp [*, errW_none, errW_some] <;> rfl)) : p := h
theorem qya_6 {p : Prop} (h : p := by (with_reducible repeat (first | refine blk_drewN ?_ _ | refine blk_drew ?_ | refine blk_alloc ?_ _)); exact BK367.out) : p := h
theorem qya_7 {p : Prop} (h : p := by (with_reducible repeat (first | apply Kd.R_alloc | apply Kd.R_drewN | apply Kd.R_drew)); exact HO364.out) : p := h
theorem qya_8 {p : Prop} (h : p := by repeat (first | exact (Kd.C_below HR0.out HB.out) | (with_reducible refine Kd.C_alloc ?_ _) | (with_reducible refine Kd.C_drewN ?_ _) | (with_reducible refine Kd.C_drew ?_))) : p := h
theorem qya_9 {p : Prop} (h : p := by (with_reducible repeat (first | apply Kd.R_alloc | apply Kd.R_drewN | apply Kd.R_drew)); exact HO370.out) : p := h
theorem qya_10 {p : Prop} (h : p := by (with_reducible repeat (first | apply Kd.R_alloc | apply Kd.R_drewN | apply Kd.R_drew)); exact (Kd.R_mono (Kd.R_far (p := ⟨gb377, 1, none⟩) (Kd.R_far (p := ⟨gb377, 0, none⟩) (Kd.R_types HO376.out BK377.out (by decide)) (fun _ hk => hk.2) (.slice Ao41 t374.length co41)) (fun _ hk => hk.2) (.int .i64 t371)) (fun _ h_ => h_.1))) : p := h
theorem qya_11 {p : Prop} (h : p := by repeat (first | (with_reducible first | exact HB.out | apply below_alloc | apply pw_below_drewN | apply below_drew1) | exact HB.out)) : p := h
theorem qya_12 {p : Prop} (h : p := by first | rfl | (simp; done) | (simp [*]; done)) : p := h
/-! ### sleuthlaw44_SegmentationRaw: function 6 -/
mutual
def sleuthlaw44_SegmentationRaw.j0 : Nat → List Int → List Int → Bool → Int → Int → Option (Bool)
 | 0, _, _, _, _, _ => none
 | k + 1, x0, x2, x32, x359000, x359001 => if x32 = true then ((sleuthlaw44_known.f k).bind fun t361 => (some t361)) else ((segmentation_Best.f k x0 x359000).bind fun bt362 => ((sleuthlaw44_cutsOf.f k (Go.bits .and .i64 x359001 4095) (x0.length : Int)).bind fun t368 => ((sleuthlaw44_total.f k x0 x359000 t368).bind fun bt371 => ((segmentation_Verify.f k x0 x359000 x2 bt362.1 bt362.2.1).bind fun t373 => ((sleuthlaw44_cutsOf.f k (Go.bits .and .i64 x359001 4095) (x0.length : Int)).bind fun t374 => ((segmentation_Verify.f k x0 x359000 x2 t374 bt371.1).bind fun t378 => (sleuthlaw44_SegmentationRaw.j1 k bt362.2.2 bt371.1 bt371.2 t373 t378 bt362.1 bt362.2.1)))))))
def sleuthlaw44_SegmentationRaw.j1 : Nat → Int → Int → Int → Int → Int → List Int → Int → Option (Bool)
 | 0, _, _, _, _, _, _, _ => none
 | k + 1, x8, x9, x10, x11, x13, x368000, x368001 => if x8 = 0 then (if x10 = 0 then (if x368001 > x9 then (some false) else (if x11 = 0 then (if x13 = 24 then (some true) else (if x13 = 0 then (some (x9 == x368001)) else (some false))) else (if x11 = 24 then (if x13 = 24 then (some true) else (if x13 = 0 then (some (x9 == x368001)) else (some false))) else (some false)))) else (some false)) else (some false)
end
def sleuthlaw44_SegmentationRaw.f (k : Nat) (l0 : List Int) (a1_0 : Int) (a1_1 : Int) (l2 : List Int) : Option (Bool) := (sleuthlaw44_known.f k).bind fun t359 => (if t359 = true then (if (l0.length : Int) > 12 then (sleuthlaw44_SegmentationRaw.j0 k l0 l2 true a1_0 a1_1) else (if (l2.length : Int) > 14 then (sleuthlaw44_SegmentationRaw.j0 k l0 l2 true a1_0 a1_1) else ((sleuthlaw44_check.f k l0 a1_0).bind fun t360 => (sleuthlaw44_SegmentationRaw.j0 k l0 l2 (t360 != 0) a1_0 a1_1)))) else (sleuthlaw44_SegmentationRaw.j0 k l0 l2 true a1_0 a1_1))
theorem sleuthlaw44_SegmentationRaw.mono_l : ∀ k, (∀ y0 y1 y2 y3 y4, LeO (sleuthlaw44_SegmentationRaw.j0 k y0 y1 y2 y3 y4) (sleuthlaw44_SegmentationRaw.j0 (k + 1) y0 y1 y2 y3 y4)) ∧ (∀ y0 y1 y2 y3 y4 y5 y6, LeO (sleuthlaw44_SegmentationRaw.j1 k y0 y1 y2 y3 y4 y5 y6) (sleuthlaw44_SegmentationRaw.j1 (k + 1) y0 y1 y2 y3 y4 y5 y6))
 | 0 => ⟨fun _ _ _ _ _ r h => by simp [sleuthlaw44_SegmentationRaw.j0] at h, fun _ _ _ _ _ _ _ r h => by simp [sleuthlaw44_SegmentationRaw.j1] at h⟩
 | k + 1 => by
  obtain ⟨ih0, ih1⟩ := sleuthlaw44_SegmentationRaw.mono_l k
  refine ⟨?_, ?_⟩
  ·intro y0 y1 y2 y3 y4
   unfold sleuthlaw44_SegmentationRaw.j0
   repeat' first
   | (with_reducible exact ih0 _ _ _ _ _)
   | (with_reducible exact ih1 _ _ _ _ _ _ _)
   | (with_reducible exact segmentation_Best.mono _ _ _)
   | (with_reducible exact segmentation_Verify.mono _ _ _ _ _ _)
   | (with_reducible exact sleuthlaw44_check.mono _ _ _)
   | (with_reducible exact sleuthlaw44_cutsOf.mono _ _ _)
   | (with_reducible exact sleuthlaw44_known.mono _)
   | (with_reducible exact sleuthlaw44_total.mono _ _ _ _)
   | (with_reducible exact LeO.refl _)
   | (with_reducible exact LeO.none _)
   | (with_reducible refine LeO.ite ?_ ?_)
   | (with_reducible refine LeO.bind ?_ (fun _ => ?_))
   | exact ih0 _ _ _ _ _
   | exact ih1 _ _ _ _ _ _ _
   | exact segmentation_Best.mono _ _ _
   | exact segmentation_Verify.mono _ _ _ _ _ _
   | exact sleuthlaw44_check.mono _ _ _
   | exact sleuthlaw44_cutsOf.mono _ _ _
   | exact sleuthlaw44_known.mono _
   | exact sleuthlaw44_total.mono _ _ _ _
   | exact LeO.none _
   | refine LeO.ite ?_ ?_
   | refine LeO.bind ?_ (fun _ => ?_)
  ·intro y0 y1 y2 y3 y4 y5 y6
   unfold sleuthlaw44_SegmentationRaw.j1
   repeat' first
   | (with_reducible exact ih0 _ _ _ _ _)
   | (with_reducible exact ih1 _ _ _ _ _ _ _)
   | (with_reducible exact segmentation_Best.mono _ _ _)
   | (with_reducible exact segmentation_Verify.mono _ _ _ _ _ _)
   | (with_reducible exact sleuthlaw44_check.mono _ _ _)
   | (with_reducible exact sleuthlaw44_cutsOf.mono _ _ _)
   | (with_reducible exact sleuthlaw44_known.mono _)
   | (with_reducible exact sleuthlaw44_total.mono _ _ _ _)
   | (with_reducible exact LeO.refl _)
   | (with_reducible exact LeO.none _)
   | (with_reducible refine LeO.ite ?_ ?_)
   | (with_reducible refine LeO.bind ?_ (fun _ => ?_))
   | exact ih0 _ _ _ _ _
   | exact ih1 _ _ _ _ _ _ _
   | exact segmentation_Best.mono _ _ _
   | exact segmentation_Verify.mono _ _ _ _ _ _
   | exact sleuthlaw44_check.mono _ _ _
   | exact sleuthlaw44_cutsOf.mono _ _ _
   | exact sleuthlaw44_known.mono _
   | exact sleuthlaw44_total.mono _ _ _ _
   | exact LeO.none _
   | refine LeO.ite ?_ ?_
   | refine LeO.bind ?_ (fun _ => ?_)
theorem sleuthlaw44_SegmentationRaw.mono : ∀ a0 a1 a2 a3 k, LeO (sleuthlaw44_SegmentationRaw.f k a0 a1 a2 a3) (sleuthlaw44_SegmentationRaw.f (k + 1) a0 a1 a2 a3) := by
 intro a0 a1 a2 a3 k
 obtain ⟨ih0, ih1⟩ := sleuthlaw44_SegmentationRaw.mono_l k
 unfold sleuthlaw44_SegmentationRaw.f
 repeat' first
   | (with_reducible exact ih0 _ _ _ _ _)
   | (with_reducible exact ih1 _ _ _ _ _ _ _)
   | (with_reducible exact segmentation_Best.mono _ _ _)
   | (with_reducible exact segmentation_Verify.mono _ _ _ _ _ _)
   | (with_reducible exact sleuthlaw44_check.mono _ _ _)
   | (with_reducible exact sleuthlaw44_cutsOf.mono _ _ _)
   | (with_reducible exact sleuthlaw44_known.mono _)
   | (with_reducible exact sleuthlaw44_total.mono _ _ _ _)
   | (with_reducible exact LeO.refl _)
   | (with_reducible exact LeO.none _)
   | (with_reducible refine LeO.ite ?_ ?_)
   | (with_reducible refine LeO.bind ?_ (fun _ => ?_))
   | exact ih0 _ _ _ _ _
   | exact ih1 _ _ _ _ _ _ _
   | exact segmentation_Best.mono _ _ _
   | exact segmentation_Verify.mono _ _ _ _ _ _
   | exact sleuthlaw44_check.mono _ _ _
   | exact sleuthlaw44_cutsOf.mono _ _ _
   | exact sleuthlaw44_known.mono _
   | exact sleuthlaw44_total.mono _ _ _ _
   | exact LeO.none _
   | refine LeO.ite ?_ ?_
   | refine LeO.bind ?_ (fun _ => ?_)
def sleuthlaw44_SegmentationRaw.T4 : Bool × List (List Nat × List Nat) := (true, [([], []), ([], []), ([1], [1]), ([], []), ([3], [3]), ([4], [4]), ([], []), ([6], [6]), ([5, 7], [5, 7]), ([0, 2, 8, 8], [0, 2, 8]), ([9], [9]), ([10], [10]), ([10], [10]), ([11, 9, 0, 1, 2, 3, 4, 5, 6, 7, 8, 9, 10, 11], [11]), ([12, 13, 0, 1, 2, 3, 4, 5, 6, 7, 8, 9, 10, 11, 12, 13], [12])])
def sleuthlaw44_SegmentationRaw.B4 : List Nat := [0, 0, 2, 0, 8, 24, 0, 64, 248, 511, 1023, 2047, 2047, 4095, 16383]
theorem sleuthlaw44_SegmentationRaw.tab4 : rtab .any (opsOf Try.f6 4) = sleuthlaw44_SegmentationRaw.T4 := by kernel_rfl
theorem sleuthlaw44_SegmentationRaw.bits4 : waitsOk sleuthlaw44_SegmentationRaw.T4.2 sleuthlaw44_SegmentationRaw.B4 = true := by kernel_rfl
set_option maxHeartbeats 8000000 in
set_option maxRecDepth 100000 in
theorem sleuthlaw44_SegmentationRaw.calls (k : Nat) (A0 : Option Addr) (c0 : Nat) (l0 : List Int) (a1_0 : Int) (a1_1 : Int) (A2 : Option Addr) (c2 : Nat) (l2 : List Int) (r : Bool) (w : World) (hr0 : Kd.C (Kd.int .i64) w A0 l0.length l0) (hc0 : l0.length ≤ c0) (hr2 : Kd.C (Kd.int .i64) w A2 l2.length l2) (hc2 : l2.length ≤ c2) (h : sleuthlaw44_SegmentationRaw.f k l0 a1_0 a1_1 l2 = some r) :
  Calls Try.prog 6 #[.slice A0 l0.length c0, .agg #[.int .i64 a1_0, .int .i64 a1_1], .slice A2 l2.length c2] w fun e w' => e = .returned (.bool r) ∧ Below w.heap.size w w' := by
 have hu46 := Try.underlying46
 have hu27 := Try.underlying27
 have HR0 := Aside0.mk hr0
 have HC0 := Aside0.mk hc0
 clear hr0 hc0
 have HR2 := Aside0.mk hr2
 have HC2 := Aside0.mk hc2
 clear hr2 hc2
 have HB := Aside0.mk (Below.refl w.heap.size w)
 have H : ((sleuthlaw44_known.f k).bind fun t359 => (if t359 = true then (if (l0.length : Int) > 12 then (sleuthlaw44_SegmentationRaw.j0 k l0 l2 true a1_0 a1_1) else (if (l2.length : Int) > 14 then (sleuthlaw44_SegmentationRaw.j0 k l0 l2 true a1_0 a1_1) else ((sleuthlaw44_check.f k l0 a1_0).bind fun t360 => (sleuthlaw44_SegmentationRaw.j0 k l0 l2 (t360 != 0) a1_0 a1_1)))) else (sleuthlaw44_SegmentationRaw.j0 k l0 l2 true a1_0 a1_1))) = some r := h
 clear h
 have HC4 := Aside0.mk H
 clear H
 go_enter Try.func6, Try.ntmps6
 go_upto_region 1 with (first | ((with_reducible refine gate_dst (N := 4) rfl ?_); (try (refine gate_guard (by rfl) ?_; dsimp only)); refine box_event ?hg (N := 4) ?hd (cs := #[.int .i64 a1_0, .int .i64 a1_1]) (t := 46) ?hr ?_; (case hd => rfl); (case hg => rfl); (case hr => first | (go_simp; done) | (go_simp; rfl)); intro gb358 hg w5 hbox hb; have n0_ := Aside0.mk (below_step qya_11 hb); have n1_ := Aside0.mk (hbox); have n2_ := Aside0.mk ((by rw [hg]; exact (below_size qya_11) : w.heap.size ≤ gb358)); have n3_ := Aside0.mk ((by rw [hg]; exact (below_size qya_11) : w.heap.size ≤ gb358)); clear HB; have HB := n0_; have BK358 := n1_; have GW358 := n2_; have GE358 := n3_; clear n0_ n1_ n2_ n3_; clear hb hbox hg))
 (try simp only [Act.put, List.setIfInBounds_toArray, List.set_cons_zero, List.set_cons_succ])
 go_cut [32] (fun v32 wc => ∃ (kq : Nat) (x32_3 : Bool), v32 = .bool x32_3 ∧ Aside0 (sleuthlaw44_SegmentationRaw.j0 kq l0 l2 x32_3 a1_0 a1_1 = some r) ∧ Aside0 (kq ≤ k) ∧ Aside0 (wc.heap[gb358]? = some (.cells #[.int .i64 a1_0, .int .i64 a1_1] 46 (0, 0))) ∧ Aside0 (Below w.heap.size w wc))
 case first =>
  have H := HC4.out
  clear HC4
  replace H := Option.bind_eq_some_iff.mp H
  obtain ⟨t359, A60, H⟩ := H
  replace H : (if t359 = true then (if (l0.length : Int) > 12 then (sleuthlaw44_SegmentationRaw.j0 k l0 l2 true a1_0 a1_1) else (if (l2.length : Int) > 14 then (sleuthlaw44_SegmentationRaw.j0 k l0 l2 true a1_0 a1_1) else ((sleuthlaw44_check.f k l0 a1_0).bind fun t360 => (sleuthlaw44_SegmentationRaw.j0 k l0 l2 (t360 != 0) a1_0 a1_1)))) else (sleuthlaw44_SegmentationRaw.j0 k l0 l2 true a1_0 a1_1)) = some r := H
  have A6 := Aside0.mk A60
  clear A60
  by_cases c7 : t359 = true
  ·subst c7
   have H1 : (if (l0.length : Int) > 12 then (sleuthlaw44_SegmentationRaw.j0 k l0 l2 true a1_0 a1_1) else (if (l2.length : Int) > 14 then (sleuthlaw44_SegmentationRaw.j0 k l0 l2 true a1_0 a1_1) else ((sleuthlaw44_check.f k l0 a1_0).bind fun t360 => (sleuthlaw44_SegmentationRaw.j0 k l0 l2 (t360 != 0) a1_0 a1_1)))) = some r := by rw [if_pos rfl] at H; exact H
   clear H
   have H := H1
   clear H1
   by_cases c8 : (l0.length : Int) > 12
   ·rw [if_pos c8] at H
    have c8b0 : decide (12 < (l0.length : Int)) = true := decide_eq_true c8
    have c8b1 : decide (12 < l0.length) = true := decide_eq_true (by omega)
    clear c8
    (first | rw [c8b0] | (simp only [i64_w, i32_w]; rw [c8b0]) | skip)
    have H' := Aside0.mk H
    clear H
    go_wp2_with (first | ((with_reducible refine gate_callee (f := 13) rfl ?_); refine goesL_ (some 14) rfl rfl Try.func13 (by kernel_rfl) rfl #[] rfl qya_4 ?_; (with_reducible refine (sleuthlaw44_known.calls k  true _ A6.out).mono ?_); rintro e w9 ⟨rfl, hb⟩; refine ⟨_, rfl, ?_⟩; have n0_ := Aside0.mk (blk_below (g := gb358) (o := .cells #[.int .i64 a1_0, .int .i64 a1_1] 46 (0, 0)) qya_1 hb); have n1_ := Aside0.mk (below_step qya_2 hb); clear BK358; clear HB; have BK358 := n0_; have HB := n1_; clear n0_ n1_; (try clear hb); (try clear hb2); (try clear hk); (try clear hi)))
    go_meet
    case rel => exact ⟨_, (true), qya_12, H', ⟨by first | omega | exact Nat.le_refl _⟩, ⟨qya_1⟩, ⟨qya_2⟩⟩
   ·rw [if_neg c8] at H
    have c8b0 : decide (12 < (l0.length : Int)) = false := decide_eq_false c8
    have c8b1 : decide (12 < l0.length) = false := decide_eq_false (by omega)
    clear c8
    (first | rw [c8b0] | (simp only [i64_w, i32_w]; rw [c8b0]) | skip)
    by_cases c10 : (l2.length : Int) > 14
    ·rw [if_pos c10] at H
     have c10b0 : decide (14 < (l2.length : Int)) = true := decide_eq_true c10
     have c10b1 : decide (14 < l2.length) = true := decide_eq_true (by omega)
     clear c10
     have H' := Aside0.mk H
     clear H
     go_wp2_with (first | ((with_reducible refine gate_callee (f := 13) rfl ?_); refine goesL_ (some 14) rfl rfl Try.func13 (by kernel_rfl) rfl #[] rfl qya_4 ?_; (with_reducible refine (sleuthlaw44_known.calls k  true _ A6.out).mono ?_); rintro e w11 ⟨rfl, hb⟩; refine ⟨_, rfl, ?_⟩; have n0_ := Aside0.mk (blk_below (g := gb358) (o := .cells #[.int .i64 a1_0, .int .i64 a1_1] 46 (0, 0)) qya_1 hb); have n1_ := Aside0.mk (below_step qya_2 hb); clear BK358; clear HB; have BK358 := n0_; have HB := n1_; clear n0_ n1_; (try clear hb); (try clear hb2); (try clear hk); (try clear hi)))
     go_meet
     case rel => exact ⟨_, (true), qya_12, H', ⟨by first | omega | exact Nat.le_refl _⟩, ⟨qya_1⟩, ⟨qya_2⟩⟩
    ·rw [if_neg c10] at H
     have c10b0 : decide (14 < (l2.length : Int)) = false := decide_eq_false c10
     have c10b1 : decide (14 < l2.length) = false := decide_eq_false (by omega)
     clear c10
     replace H := Option.bind_eq_some_iff.mp H
     obtain ⟨t360, A120, H⟩ := H
     replace H : (sleuthlaw44_SegmentationRaw.j0 k l0 l2 (t360 != 0) a1_0 a1_1) = some r := H
     have A12 := Aside0.mk A120
     clear A120
     have H' := Aside0.mk H
     clear H
     go_wp2_with (first | ((with_reducible refine gate_callee (f := 13) rfl ?_); refine goesL_ (some 14) rfl rfl Try.func13 (by kernel_rfl) rfl #[] rfl qya_4 ?_; (with_reducible refine (sleuthlaw44_known.calls k  true _ A6.out).mono ?_); rintro e w13 ⟨rfl, hb⟩; refine ⟨_, rfl, ?_⟩; have n0_ := Aside0.mk (blk_below (g := gb358) (o := .cells #[.int .i64 a1_0, .int .i64 a1_1] 46 (0, 0)) qya_1 hb); have n1_ := Aside0.mk (below_step qya_2 hb); clear BK358; clear HB; have BK358 := n0_; have HB := n1_; clear n0_ n1_; (try clear hb); (try clear hb2); (try clear hk); (try clear hi); have hcz14_0 : w13.cell? ⟨gb358, 0, none⟩ = some (.int .i64 a1_0) := (blk_cell BK358.out 0).trans rfl; have hcz14_1 : w13.cell? ⟨gb358, 1, none⟩ = some (.int .i64 a1_1) := (blk_cell BK358.out 1).trans rfl; have hfz14_0 := blk_frozen BK358.out 0; have hfz14_1 := blk_frozen BK358.out 1) | (go_at_call 23; (with_reducible refine (sleuthlaw44_check.calls k _ _ l0 a1_0 t360 _ ?side1 ?side2 A12.out).mono ?_); (case side1 => exact qya_8); (case side2 => exact HC0.out); rintro e w' ⟨rfl, ⟨nd, rfl⟩⟩))
     go_meet
     case rel => exact ⟨_, ((t360 != 0)), qya_12, H', ⟨by first | omega | exact Nat.le_refl _⟩, ⟨qya_1⟩, ⟨qya_2⟩⟩
  ·replace c7 := Bool.eq_false_iff.mpr c7
   subst c7
   have H1 : (sleuthlaw44_SegmentationRaw.j0 k l0 l2 true a1_0 a1_1) = some r := by rw [if_neg (show ¬ (false = true) by decide)] at H; exact H
   clear H
   have H := H1
   clear H1
   have H' := Aside0.mk H
   clear H
   go_wp2_with (first | ((with_reducible refine gate_callee (f := 13) rfl ?_); refine goesL_ (some 14) rfl rfl Try.func13 (by kernel_rfl) rfl #[] rfl qya_4 ?_; (with_reducible refine (sleuthlaw44_known.calls k  false _ A6.out).mono ?_); rintro e w15 ⟨rfl, hb⟩; refine ⟨_, rfl, ?_⟩; have n0_ := Aside0.mk (blk_below (g := gb358) (o := .cells #[.int .i64 a1_0, .int .i64 a1_1] 46 (0, 0)) qya_1 hb); have n1_ := Aside0.mk (below_step qya_2 hb); clear BK358; clear HB; have BK358 := n0_; have HB := n1_; clear n0_ n1_; (try clear hb); (try clear hb2); (try clear hk); (try clear hi)))
   go_meet
   case rel => exact ⟨_, (true), qya_12, H', ⟨by first | omega | exact Nat.le_refl _⟩, ⟨qya_1⟩, ⟨qya_2⟩⟩
 case rest =>
  clear HC4
  try clear c1
  try clear c2
  try clear p2
  try clear c6
  try clear c7
  try clear c8
  try clear c8b0
  try clear c8b1
  try clear c10
  try clear c10b0
  try clear c10b1
  try clear c13
  try clear hcz14_0
  try clear hcz14_1
  try clear hfz14_0
  try clear hfz14_1
  obtain ⟨kq, x32_3, rfl, HA, HJ3, BK358, HB⟩ := hcut
  cases kq with
  | zero => exact absurd HA.out (by simp [sleuthlaw44_SegmentationRaw.j0])
  | succ kj3 =>
   have H := HA.out
   clear HA
   simp only [sleuthlaw44_SegmentationRaw.j0] at H
   by_cases c16 : x32_3 = true
   ·subst c16
    have H1 : ((sleuthlaw44_known.f kj3).bind fun t361 => (some t361)) = some r := by rw [if_pos rfl] at H; exact H
    clear H
    have H := H1
    clear H1
    replace H := Option.bind_eq_some_iff.mp H
    obtain ⟨t361, A170, H⟩ := H
    replace H : (some t361) = some r := H
    have A17 := Aside0.mk A170
    clear A170
    obtain rfl := Option.some.inj H
    go_wp2_with (first | ((with_reducible refine gate_callee (f := 13) rfl ?_); refine goesL_ (some 33) rfl rfl Try.func13 (by kernel_rfl) rfl #[] rfl qya_4 ?_; (with_reducible refine (sleuthlaw44_known.calls kj3  t361 _ A17.out).mono ?_); rintro e w18 ⟨rfl, hb⟩; refine ⟨_, rfl, ?_⟩; have n0_ := Aside0.mk (blk_below (g := gb358) (o := .cells #[.int .i64 a1_0, .int .i64 a1_1] 46 (0, 0)) qya_1 hb); have n1_ := Aside0.mk (below_step qya_2 hb); clear BK358; clear HB; have BK358 := n0_; have HB := n1_; clear n0_ n1_; (try clear hb); (try clear hb2); (try clear hk); (try clear hi)))
    go_ret
    exact ⟨qya_5, qya_2⟩
   ·replace c16 := Bool.eq_false_iff.mpr c16
    subst c16
    have H1 : ((segmentation_Best.f kj3 l0 a1_0).bind fun bt362 => ((sleuthlaw44_cutsOf.f kj3 (Go.bits .and .i64 a1_1 4095) (l0.length : Int)).bind fun t368 => ((sleuthlaw44_total.f kj3 l0 a1_0 t368).bind fun bt371 => ((segmentation_Verify.f kj3 l0 a1_0 l2 bt362.1 bt362.2.1).bind fun t373 => ((sleuthlaw44_cutsOf.f kj3 (Go.bits .and .i64 a1_1 4095) (l0.length : Int)).bind fun t374 => ((segmentation_Verify.f kj3 l0 a1_0 l2 t374 bt371.1).bind fun t378 => (sleuthlaw44_SegmentationRaw.j1 kj3 bt362.2.2 bt371.1 bt371.2 t373 t378 bt362.1 bt362.2.1))))))) = some r := by rw [if_neg (show ¬ (false = true) by decide)] at H; exact H
    clear H
    have H := H1
    clear H1
    replace H := Option.bind_eq_some_iff.mp H
    obtain ⟨⟨t362, t365, t366⟩, A190, H⟩ := H
    replace H : ((sleuthlaw44_cutsOf.f kj3 (Go.bits .and .i64 a1_1 4095) (l0.length : Int)).bind fun t368 => ((sleuthlaw44_total.f kj3 l0 a1_0 t368).bind fun bt371 => ((segmentation_Verify.f kj3 l0 a1_0 l2 t362 t365).bind fun t373 => ((sleuthlaw44_cutsOf.f kj3 (Go.bits .and .i64 a1_1 4095) (l0.length : Int)).bind fun t374 => ((segmentation_Verify.f kj3 l0 a1_0 l2 t374 bt371.1).bind fun t378 => (sleuthlaw44_SegmentationRaw.j1 kj3 t366 bt371.1 bt371.2 t373 t378 t362 t365)))))) = some r := H
    have A19 := Aside0.mk A190
    clear A190
    replace H := Option.bind_eq_some_iff.mp H
    obtain ⟨t368, A200, H⟩ := H
    replace H : ((sleuthlaw44_total.f kj3 l0 a1_0 t368).bind fun bt371 => ((segmentation_Verify.f kj3 l0 a1_0 l2 t362 t365).bind fun t373 => ((sleuthlaw44_cutsOf.f kj3 (Go.bits .and .i64 a1_1 4095) (l0.length : Int)).bind fun t374 => ((segmentation_Verify.f kj3 l0 a1_0 l2 t374 bt371.1).bind fun t378 => (sleuthlaw44_SegmentationRaw.j1 kj3 t366 bt371.1 bt371.2 t373 t378 t362 t365))))) = some r := H
    have A20 := Aside0.mk A200
    clear A200
    replace H := Option.bind_eq_some_iff.mp H
    obtain ⟨⟨t371, t372⟩, A210, H⟩ := H
    replace H : ((segmentation_Verify.f kj3 l0 a1_0 l2 t362 t365).bind fun t373 => ((sleuthlaw44_cutsOf.f kj3 (Go.bits .and .i64 a1_1 4095) (l0.length : Int)).bind fun t374 => ((segmentation_Verify.f kj3 l0 a1_0 l2 t374 t371).bind fun t378 => (sleuthlaw44_SegmentationRaw.j1 kj3 t366 t371 t372 t373 t378 t362 t365)))) = some r := H
    have A21 := Aside0.mk A210
    clear A210
    replace H := Option.bind_eq_some_iff.mp H
    obtain ⟨t373, A220, H⟩ := H
    replace H : ((sleuthlaw44_cutsOf.f kj3 (Go.bits .and .i64 a1_1 4095) (l0.length : Int)).bind fun t374 => ((segmentation_Verify.f kj3 l0 a1_0 l2 t374 t371).bind fun t378 => (sleuthlaw44_SegmentationRaw.j1 kj3 t366 t371 t372 t373 t378 t362 t365))) = some r := H
    have A22 := Aside0.mk A220
    clear A220
    replace H := Option.bind_eq_some_iff.mp H
    obtain ⟨t374, A230, H⟩ := H
    replace H : ((segmentation_Verify.f kj3 l0 a1_0 l2 t374 t371).bind fun t378 => (sleuthlaw44_SegmentationRaw.j1 kj3 t366 t371 t372 t373 t378 t362 t365)) = some r := H
    have A23 := Aside0.mk A230
    clear A230
    have HC24 := Aside0.mk H
    clear H
    have hcz25_0 : wc.cell? ⟨gb358, 0, none⟩ = some (.int .i64 a1_0) := (blk_cell BK358.out 0).trans rfl
    have hcz25_1 : wc.cell? ⟨gb358, 1, none⟩ = some (.int .i64 a1_1) := (blk_cell BK358.out 1).trans rfl
    have hfz25_0 := blk_frozen BK358.out 0
    have hfz25_1 := blk_frozen BK358.out 1
    try go_wp2_with (first | ((with_reducible refine gate_callee (f := 15) rfl ?_); refine goesL_ (some 38) rfl rfl Try.func15 (by kernel_rfl) rfl #[.slice A0 l0.length c0, .int .i64 a1_0] rfl qya_4 ?_; (with_reducible refine (segmentation_Best.calls kj3 _ _ l0 a1_0 t362 t365 t366 _ ?side1 ?side2 A19.out).mono ?_); (case side1 => exact qya_8); (case side2 => exact HC0.out); rintro e w26 ⟨v363, rfl, ho0, hb⟩; refine ⟨_, rfl, ?_⟩; have n0_ := Aside0.mk (Kd.R_lower ho0 (below_size qya_2)); have n1_ := Aside0.mk (blk_below (g := gb358) (o := .cells #[.int .i64 a1_0, .int .i64 a1_1] 46 (0, 0)) qya_1 hb); have n2_ := Aside0.mk (below_step qya_2 hb); clear BK358; clear HB; have HO364 := n0_; have BK358 := n1_; have HB := n2_; clear n0_ n1_ n2_; (try clear hb); (try clear hb2); (try clear hk); (try clear hi); (try clear ho0)) | ((with_reducible refine gate_dst (N := 7) rfl ?_); (try (refine gate_guard (by rfl) ?_; dsimp only)); refine box_event ?hg (N := 7) ?hd (cs := #[.slice none 0 0, .int .i64 0]) (t := 27) ?hr ?_; (case hd => rfl); (case hg => rfl); (case hr => first | (go_simp; done) | (go_simp; rfl)); intro gb367 hg w27 hbox hb; have n0_ := Aside0.mk (Kd.R_below qya_7 hb); have n1_ := Aside0.mk (blk_below (g := gb358) (o := .cells #[.int .i64 a1_0, .int .i64 a1_1] 46 (0, 0)) qya_1 hb); have n2_ := Aside0.mk (below_step qya_2 hb); have n3_ := Aside0.mk (hbox); have n4_ := Aside0.mk ((by rw [hg]; exact (below_size qya_2) : w.heap.size ≤ gb367)); have n5_ := Aside0.mk ((by rw [hg]; exact (below_size qya_2) : w.heap.size ≤ gb367)); have n6_ := Aside0.mk ((by rw [hg]; exact Nat.ne_of_lt (blk_lt (g := gb358) (o := .cells #[.int .i64 a1_0, .int .i64 a1_1] 46 (0, 0)) qya_1) : gb358 ≠ gb367)); have n7_ := Aside0.mk ((by rw [hg]; exact Nat.ne_of_gt (blk_lt (g := gb358) (o := .cells #[.int .i64 a1_0, .int .i64 a1_1] 46 (0, 0)) qya_1) : gb367 ≠ gb358)); clear HO364; clear BK358; clear HB; have HO364 := n0_; have BK358 := n1_; have HB := n2_; have BK367 := n3_; have GW367 := n4_; have GE367 := n5_; have NB358_367 := n6_; have NB367_358 := n7_; clear n0_ n1_ n2_ n3_ n4_ n5_ n6_ n7_; clear hb hbox hg; obtain ⟨Ao28, co28, eo28⟩ := Kd.R_slice HO364.out; subst eo28; have hnb29 := NB367_358.out; have hnc29 := NB358_367.out; have hcz30_0 : w27.cell? ⟨gb367, 0, none⟩ = some (.slice none 0 0) := (blk_cell BK367.out 0).trans rfl; have hcz30_1 : w27.cell? ⟨gb367, 1, none⟩ = some (.int .i64 0) := (blk_cell BK367.out 1).trans rfl; have hfz30_0 := blk_frozen BK367.out 0; have hfz30_1 := blk_frozen BK367.out 1))
    have n0_ : Aside0 (Kd.R (Kd.int .i64) 3 ((w27.setCell ⟨gb367, 0, none⟩ (.slice Ao28 t362.length co28)).setCell ⟨gb367, 1, none⟩ (.int .i64 t365)) w.heap.size (fun _ => True) (.slice Ao28 t362.length co28) t362) := ⟨by (with_reducible repeat (first | apply Kd.R_alloc | apply Kd.R_drewN | apply Kd.R_drew)); exact Kd.R_mono (Kd.R_far (p := ⟨gb367, 1, none⟩) (Kd.R_far (p := ⟨gb367, 0, none⟩) (Kd.R_types HO364.out BK367.out (by decide)) (fun _ hk => hk.2) (.slice Ao28 t362.length co28)) (fun _ hk => hk.2) (.int .i64 t365)) (fun _ hk => trivial)⟩
    have n1_ : Aside0 (((w27.setCell ⟨gb367, 0, none⟩ (.slice Ao28 t362.length co28)).setCell ⟨gb367, 1, none⟩ (.int .i64 t365)).heap[gb358]? = some (.cells #[.int .i64 a1_0, .int .i64 a1_1] 46 (0, 0))) := ⟨by (with_reducible repeat (first | refine blk_drewN ?_ _ | refine blk_drew ?_ | refine blk_alloc ?_ _)); refine blk_far ?_ NB358_367.out _; (with_reducible repeat (first | refine blk_drewN ?_ _ | refine blk_drew ?_ | refine blk_alloc ?_ _)); refine blk_far ?_ NB358_367.out _; (with_reducible repeat (first | refine blk_drewN ?_ _ | refine blk_drew ?_ | refine blk_alloc ?_ _)); exact BK358.out⟩
    have n2_ : Aside0 (((w27.setCell ⟨gb367, 0, none⟩ (.slice Ao28 t362.length co28)).setCell ⟨gb367, 1, none⟩ (.int .i64 t365)).heap[gb367]? = some (.cells #[.slice Ao28 t362.length co28, .int .i64 t365] 27 (0, 0))) := ⟨by (with_reducible repeat (first | refine blk_drewN ?_ _ | refine blk_drew ?_ | refine blk_alloc ?_ _)); refine blk_put (cs := #[.slice Ao28 t362.length co28, .int .i64 0]) ?_ 1 _ rfl; (with_reducible repeat (first | refine blk_drewN ?_ _ | refine blk_drew ?_ | refine blk_alloc ?_ _)); refine blk_put (cs := #[.slice none 0 0, .int .i64 0]) ?_ 0 _ rfl; (with_reducible repeat (first | refine blk_drewN ?_ _ | refine blk_drew ?_ | refine blk_alloc ?_ _)); exact BK367.out⟩
    have n3_ : Aside0 (Below w.heap.size w ((w27.setCell ⟨gb367, 0, none⟩ (.slice Ao28 t362.length co28)).setCell ⟨gb367, 1, none⟩ (.int .i64 t365))) := ⟨qya_3⟩
    (try clear HO364)
    (try clear BK358)
    (try clear BK367)
    (try clear HB)
    generalize ((w27.setCell ⟨gb367, 0, none⟩ (.slice Ao28 t362.length co28)).setCell ⟨gb367, 1, none⟩ (.int .i64 t365)) = w31 at n0_ n1_ n2_ n3_ ⊢
    have HO364 := n0_
    have BK358 := n1_
    have BK367 := n2_
    have HB := n3_
    clear n0_ n1_ n2_ n3_
    have n0_ := Aside0.mk (Kd.R_drew HO364.out)
    have n1_ := Aside0.mk (blk_drew BK358.out)
    have n2_ := Aside0.mk (blk_drew BK367.out)
    have n3_ := Aside0.mk (below_drew1 HB.out)
    clear HO364
    clear BK358
    clear BK367
    clear HB
    have HO364 := n0_
    have BK358 := n1_
    have BK367 := n2_
    have HB := n3_
    clear n0_ n1_ n2_ n3_
    refine start_ (n := 15) (S := fun w' => w'.cell? ⟨gb358, 0, none⟩ = some (.int .i64 a1_0) ∧ w'.cell? ⟨gb358, 1, none⟩ = some (.int .i64 a1_1)) (ds := []) #[F, F, F, F, F, F, F, F, F, F, F, F, F, F, F] (by kernel_rfl) rfl rfl ⟨(blk_cell BK358.out 0).trans rfl, (blk_cell BK358.out 1).trans rfl⟩ (fun hHeld => ?_); refine with_tabW sleuthlaw44_SegmentationRaw.tab4 sleuthlaw44_SegmentationRaw.bits4 (fun HT_ HW_ => ?_)
    generalize w31.drew = w32 at HO364 BK358 BK367 HB hHeld ⊢
    refine pure_ (i := 0) (N := some 42) (v := ?_) (a' := ?_) #[T, F, F, F, F, F, F, F, F, F, F, F, F, F, F] rfl rfl (any_of HT_.out (by kernel_rfl)) (fun _ _ _ h => h) (Or.inl ⟨by rfl, ?_⟩) ?_ ?_
    rotate_left
    ·intro w'
     go_simp
     with_reducible rfl
    rotate_left
    ·simp only [Act.put, List.setIfInBounds_toArray, List.set_cons_zero, List.set_cons_succ, i64_w, i32_w]
     rfl
    refine pure_ (i := 1) (N := some 43) (v := ?_) (a' := ?_) #[T, T, F, F, F, F, F, F, F, F, F, F, F, F, F] rfl rfl (any_of HT_.out (by kernel_rfl)) (fun _ _ _ h => h) (Or.inl ⟨by rfl, ?_⟩) ?_ ?_
    rotate_left
    ·intro w'
     go_simp
     with_reducible rfl
    rotate_left
    ·simp only [Act.put, List.setIfInBounds_toArray, List.set_cons_zero, List.set_cons_succ, i64_w, i32_w]
     rfl
    refine pure_ (i := 3) (N := some 45) (v := ?_) (a' := ?_) #[T, T, F, T, F, F, F, F, F, F, F, F, F, F, F] rfl rfl (any_of HT_.out (by kernel_rfl)) (fun _ _ _ h => h) (Or.inl ⟨by rfl, ?_⟩) ?_ ?_
    rotate_left
    ·intro w'
     go_simp
     with_reducible rfl
    rotate_left
    ·simp only [Act.put, List.setIfInBounds_toArray, List.set_cons_zero, List.set_cons_succ, i64_w, i32_w]
     rfl
    refine pure_ (i := 6) (N := some 48) (v := ?_) (a' := ?_) #[T, T, F, T, F, F, T, F, F, F, F, F, F, F, F] rfl rfl (any_of HT_.out (by kernel_rfl)) (fun _ _ _ h => h) (Or.inl ⟨by rfl, ?_⟩) ?_ ?_
    rotate_left
    ·intro w'
     go_simp
     with_reducible rfl
    rotate_left
    ·simp only [Act.put, List.setIfInBounds_toArray, List.set_cons_zero, List.set_cons_succ, i64_w, i32_w]
     rfl
    refine pure_ (i := 7) (N := some 49) (v := ?_) (a' := ?_) #[T, T, F, T, F, F, T, T, F, F, F, F, F, F, F] rfl rfl (any_of HT_.out (by kernel_rfl)) (fun _ _ _ h => h) (Or.inl ⟨by rfl, ?_⟩) ?_ ?_
    rotate_left
    ·intro w'
     go_simp
     with_reducible rfl
    rotate_left
    ·simp only [Act.put, List.setIfInBounds_toArray, List.set_cons_zero, List.set_cons_succ, i64_w, i32_w]
     rfl
    refine take_ (i := 2) (N := some 44) (v := ?_) (a' := ?_) #[T, T, T, T, F, F, T, T, F, F, F, F, F, F, F] rfl rfl (take_ofW HT_.out HW_.out (by kernel_rfl)) (fun _ _ _ h => h) (Or.inl ⟨by rfl, ?_⟩) hHeld ?_ ?_
    rotate_left
    ·rintro w' ⟨s0, s1⟩
     go_simp
     with_reducible rfl
    rotate_left
    ·simp only [Act.put, List.setIfInBounds_toArray, List.set_cons_zero, List.set_cons_succ, i64_w, i32_w]
     rfl
    refine take_ (i := 4) (N := some 46) (v := ?_) (a' := ?_) #[T, T, T, T, T, F, T, T, F, F, F, F, F, F, F] rfl rfl (take_ofW HT_.out HW_.out (by kernel_rfl)) (fun _ _ _ h => h) (Or.inl ⟨by rfl, ?_⟩) hHeld ?_ ?_
    rotate_left
    ·rintro w' ⟨s0, s1⟩
     go_simp
     with_reducible rfl
    rotate_left
    ·simp only [Act.put, List.setIfInBounds_toArray, List.set_cons_zero, List.set_cons_succ, i64_w, i32_w]
     rfl
    refine pure_ (i := 5) (N := some 47) (v := ?_) (a' := ?_) #[T, T, T, T, T, T, T, T, F, F, F, F, F, F, F] rfl rfl (any_of HT_.out (by kernel_rfl)) (fun _ _ _ h => h) (Or.inl ⟨by rfl, ?_⟩) ?_ ?_
    rotate_left
    ·intro w'
     go_simp
     with_reducible rfl
    rotate_left
    ·simp only [Act.put, List.setIfInBounds_toArray, List.set_cons_zero, List.set_cons_succ, i64_w, i32_w]
     rfl
    refine one_ (i := 8) (N := some 50) #[T, T, T, T, T, T, T, T, T, F, F, F, F, F, F] rfl rfl (one_of HT_.out (by kernel_rfl)) (by decide) (fun K hK => ?_)
    refine goes_ Try.func24 (by kernel_rfl) rfl #[.int .i64 (Go.bits .and .i64 a1_1 4095), .int .i64 (l0.length : Int)] (by rfl) rfl rfl qya_4 ?_
    with_reducible refine (sleuthlaw44_cutsOf.calls kj3 (Go.bits .and .i64 a1_1 4095) (l0.length : Int) t368 _ A20.out).mono ?_
    rintro e w33 ⟨v369, rfl, ho0, hb⟩
    refine ⟨_, rfl, ?_⟩
    have n0_ := Aside0.mk (Kd.R_elder' qya_7 (Kd.R_base ho0) hb)
    have n1_ := Aside0.mk (Kd.R_lower (Kd.R_new' ho0 (Kd.R_lt qya_7)) (below_size qya_3))
    have n2_ := Aside0.mk (blk_below (g := gb358) (o := .cells #[.int .i64 a1_0, .int .i64 a1_1] 46 (0, 0)) qya_1 hb)
    have n3_ := Aside0.mk (blk_below (g := gb367) (o := .cells #[.slice Ao28 t362.length co28, .int .i64 t365] 27 (0, 0)) qya_6 hb)
    have n4_ := Aside0.mk (below_step qya_3 hb)
    clear HO364
    clear BK358
    clear BK367
    clear HB
    have HO364 := n0_
    have HO370 := n1_
    have BK358 := n2_
    have BK367 := n3_
    have HB := n4_
    clear n0_ n1_ n2_ n3_ n4_
    (try clear hb)
    (try clear hb2)
    (try clear hk)
    (try clear hi)
    (try clear ho0)
    obtain ⟨Ao34, co34, eo34⟩ := Kd.R_slice HO370.out
    (first | subst eo34 | (injection eo34 with f1_ f2_ f3_; have f4_ := f1_.symm; have f5_ := f3_.symm; clear f1_ f2_ f3_; subst f4_; subst f5_))
    refine hK.out _ _ ⟨(blk_cell BK358.out 0).trans rfl, (blk_cell BK358.out 1).trans rfl⟩ (fun hHeld => ?_)
    clear hK K
    refine norm_ (a' := ?_) ?_ ?_
    rotate_left
    ·show Act.put _ (some 50) _ = _
     simp only [Act.put, List.setIfInBounds_toArray, List.set_cons_zero, List.set_cons_succ, i64_w, i32_w]
     rfl
    refine one_ (i := 9) (N := some 51) #[T, T, T, T, T, T, T, T, T, T, F, F, F, F, F] rfl rfl (one_of HT_.out (by kernel_rfl)) (by decide) (fun K hK => ?_)
    refine goes_ Try.func21 (by kernel_rfl) rfl #[.slice A0 l0.length c0, .int .i64 a1_0, .slice Ao34 t368.length co34] (by rfl) rfl rfl qya_4 ?_
    with_reducible refine (sleuthlaw44_total.calls kj3 _ _ l0 a1_0 _ _ t368 t371 t372 _ ?side1 ?side2 ?side3 ?side4 A21.out).mono ?_
    (case side1 => exact qya_8)
    (case side2 => exact HC0.out)
    (case side3 => repeat (first | exact (Kd.R_reads' HO370.out).2.2 | (with_reducible refine Kd.C_alloc ?_ _) | (with_reducible refine Kd.C_drewN ?_ _) | (with_reducible refine Kd.C_drew ?_)))
    (case side4 => exact (Kd.R_reads' HO370.out).2.1)
    rintro e w35 ⟨rfl, hb⟩
    refine ⟨_, rfl, ?_⟩
    have n0_ := Aside0.mk (Kd.R_below qya_7 hb)
    have n1_ := Aside0.mk (Kd.R_below qya_9 hb)
    have n2_ := Aside0.mk (blk_below (g := gb358) (o := .cells #[.int .i64 a1_0, .int .i64 a1_1] 46 (0, 0)) qya_1 hb)
    have n3_ := Aside0.mk (blk_below (g := gb367) (o := .cells #[.slice Ao28 t362.length co28, .int .i64 t365] 27 (0, 0)) qya_6 hb)
    have n4_ := Aside0.mk (below_step qya_3 hb)
    clear HO364
    clear HO370
    clear BK358
    clear BK367
    clear HB
    have HO364 := n0_
    have HO370 := n1_
    have BK358 := n2_
    have BK367 := n3_
    have HB := n4_
    clear n0_ n1_ n2_ n3_ n4_
    (try clear hb)
    (try clear hb2)
    (try clear hk)
    (try clear hi)
    refine hK.out _ _ ⟨(blk_cell BK358.out 0).trans rfl, (blk_cell BK358.out 1).trans rfl⟩ (fun hHeld => ?_)
    clear hK K
    refine norm_ (a' := ?_) ?_ ?_
    rotate_left
    ·show Act.put _ (some 51) _ = _
     simp only [Act.put, List.setIfInBounds_toArray, List.set_cons_zero, List.set_cons_succ, i64_w, i32_w]
     rfl
    refine pure_ (i := 10) (N := some 41) (v := ?_) (a' := ?_) #[T, T, T, T, T, T, T, T, T, T, T, F, F, F, F] rfl rfl (any_of HT_.out (by kernel_rfl)) (fun _ _ _ h => h) (Or.inl ⟨by rfl, ?_⟩) ?_ ?_
    rotate_left
    ·intro w'
     go_simp
     with_reducible rfl
    rotate_left
    ·simp only [Act.put, List.setIfInBounds_toArray, List.set_cons_zero, List.set_cons_succ, i64_w, i32_w]
     rfl
    refine pure_ (i := 11) (N := some 52) (v := ?_) (a' := ?_) #[T, T, T, T, T, T, T, T, T, T, T, T, F, F, F] rfl rfl (any_of HT_.out (by kernel_rfl)) (fun _ _ _ h => h) (Or.inl ⟨by rfl, ?_⟩) ?_ ?_
    rotate_left
    ·intro w'
     go_simp
     with_reducible rfl
    rotate_left
    ·simp only [Act.put, List.setIfInBounds_toArray, List.set_cons_zero, List.set_cons_succ, i64_w, i32_w]
     rfl
    refine pure_ (i := 12) (N := some 53) (v := ?_) (a' := ?_) #[T, T, T, T, T, T, T, T, T, T, T, T, T, F, F] rfl rfl (any_of HT_.out (by kernel_rfl)) (fun _ _ _ h => h) (Or.inl ⟨by rfl, ?_⟩) ?_ ?_
    rotate_left
    ·intro w'
     go_simp
     with_reducible rfl
    rotate_left
    ·simp only [Act.put, List.setIfInBounds_toArray, List.set_cons_zero, List.set_cons_succ, i64_w, i32_w]
     rfl
    refine pure_ (i := 13) (N := some 9) (v := ?_) (a' := ?_) #[T, T, T, T, T, T, T, T, T, T, T, T, T, T, F] rfl rfl (any_of HT_.out (by kernel_rfl)) (fun _ _ _ h => h) (Or.inl ⟨by rfl, ?_⟩) ?_ ?_
    rotate_left
    ·intro w'
     go_simp
     with_reducible rfl
    rotate_left
    ·simp only [Act.put, List.setIfInBounds_toArray, List.set_cons_zero, List.set_cons_succ, i64_w, i32_w]
     rfl
    refine pure_ (i := 14) (N := some 10) (v := ?_) (a' := ?_) #[T, T, T, T, T, T, T, T, T, T, T, T, T, T, T] rfl rfl (any_of HT_.out (by kernel_rfl)) (fun _ _ _ h => h) (Or.inl ⟨by rfl, ?_⟩) ?_ ?_
    rotate_left
    ·intro w'
     go_simp
     with_reducible rfl
    rotate_left
    ·simp only [Act.put, List.setIfInBounds_toArray, List.set_cons_zero, List.set_cons_succ, i64_w, i32_w]
     rfl
    refine done_ (done_of HT_.out (by kernel_rfl)) ?_
    have hcz36_0 : w35.cell? ⟨gb358, 0, none⟩ = some (.int .i64 a1_0) := (blk_cell BK358.out 0).trans rfl
    have hcz36_1 : w35.cell? ⟨gb358, 1, none⟩ = some (.int .i64 a1_1) := (blk_cell BK358.out 1).trans rfl
    have hfz36_0 := blk_frozen BK358.out 0
    have hfz36_1 := blk_frozen BK358.out 1
    have hcz37_0 : w35.cell? ⟨gb367, 0, none⟩ = some (.slice Ao28 t362.length co28) := (blk_cell BK367.out 0).trans rfl
    have hcz37_1 : w35.cell? ⟨gb367, 1, none⟩ = some (.int .i64 t365) := (blk_cell BK367.out 1).trans rfl
    have hfz37_0 := blk_frozen BK367.out 0
    have hfz37_1 := blk_frozen BK367.out 1
    go_upto_region 7 with (first | ((with_reducible refine gate_callee (f := 20) rfl ?_); refine goesL_ (some 59) rfl rfl Try.func20 (by kernel_rfl) rfl #[.slice A0 l0.length c0, .int .i64 a1_0, .slice A2 l2.length c2, .agg #[.slice Ao28 t362.length co28, .int .i64 t365]] rfl qya_4 ?_; (with_reducible refine (segmentation_Verify.calls kj3 _ _ l0 a1_0 _ _ l2 _ _ t362 t365 t373 _ ?side1 ?side2 ?side3 ?side4 ?side5 ?side6 A22.out).mono ?_); (case side1 => exact qya_8); (case side2 => exact HC0.out); (case side3 => repeat (first | exact (Kd.C_below HR2.out HB.out) | (with_reducible refine Kd.C_alloc ?_ _) | (with_reducible refine Kd.C_drewN ?_ _) | (with_reducible refine Kd.C_drew ?_))); (case side4 => exact HC2.out); (case side5 => repeat (first | exact (Kd.R_reads' HO364.out).2.2 | (with_reducible refine Kd.C_alloc ?_ _) | (with_reducible refine Kd.C_drewN ?_ _) | (with_reducible refine Kd.C_drew ?_))); (case side6 => exact (Kd.R_reads' HO364.out).2.1); rintro e w38 ⟨rfl, hb⟩; refine ⟨_, rfl, ?_⟩; have n0_ := Aside0.mk (Kd.R_below qya_7 hb); have n1_ := Aside0.mk (Kd.R_below qya_9 hb); have n2_ := Aside0.mk (blk_below (g := gb358) (o := .cells #[.int .i64 a1_0, .int .i64 a1_1] 46 (0, 0)) qya_1 hb); have n3_ := Aside0.mk (blk_below (g := gb367) (o := .cells #[.slice Ao28 t362.length co28, .int .i64 t365] 27 (0, 0)) qya_6 hb); have n4_ := Aside0.mk (below_step qya_3 hb); clear HO364; clear HO370; clear BK358; clear BK367; clear HB; have HO364 := n0_; have HO370 := n1_; have BK358 := n2_; have BK367 := n3_; have HB := n4_; clear n0_ n1_ n2_ n3_ n4_; (try clear hb); (try clear hb2); (try clear hk); (try clear hi); have hcz39_0 : w38.cell? ⟨gb358, 0, none⟩ = some (.int .i64 a1_0) := (blk_cell BK358.out 0).trans rfl; have hcz39_1 : w38.cell? ⟨gb358, 1, none⟩ = some (.int .i64 a1_1) := (blk_cell BK358.out 1).trans rfl; have hfz39_0 := blk_frozen BK358.out 0; have hfz39_1 := blk_frozen BK358.out 1) | ((with_reducible refine gate_callee (f := 24) rfl ?_); refine goesL_ (some 65) rfl rfl Try.func24 (by kernel_rfl) rfl #[.int .i64 (Go.bits .and .i64 a1_1 4095), .int .i64 (l0.length : Int)] rfl qya_4 ?_; (with_reducible refine (sleuthlaw44_cutsOf.calls kj3 (Go.bits .and .i64 a1_1 4095) (l0.length : Int) t374 _ A23.out).mono ?_); rintro e w40 ⟨v375, rfl, ho0, hb⟩; refine ⟨_, rfl, ?_⟩; have n0_ := Aside0.mk (Kd.R_elder' qya_7 (Kd.R_base ho0) hb); have n1_ := Aside0.mk (Kd.R_elder' qya_9 (Kd.R_base ho0) hb); have n2_ := Aside0.mk (Kd.R_lower (Kd.R_new' (Kd.R_new' ho0 (Kd.R_lt qya_7)) (Kd.R_lt qya_9)) (below_size qya_3)); have n3_ := Aside0.mk (blk_below (g := gb358) (o := .cells #[.int .i64 a1_0, .int .i64 a1_1] 46 (0, 0)) qya_1 hb); have n4_ := Aside0.mk (blk_below (g := gb367) (o := .cells #[.slice Ao28 t362.length co28, .int .i64 t365] 27 (0, 0)) qya_6 hb); have n5_ := Aside0.mk (below_step qya_3 hb); clear HO364; clear HO370; clear BK358; clear BK367; clear HB; have HO364 := n0_; have HO370 := n1_; have HO376 := n2_; have BK358 := n3_; have BK367 := n4_; have HB := n5_; clear n0_ n1_ n2_ n3_ n4_ n5_; (try clear hb); (try clear hb2); (try clear hk); (try clear hi); (try clear ho0); obtain ⟨Ao41, co41, eo41⟩ := Kd.R_slice HO376.out; subst eo41) | ((with_reducible refine gate_dst (N := 12) rfl ?_); (try (refine gate_guard (by rfl) ?_; dsimp only)); refine box_event ?hg (N := 12) ?hd (cs := #[.slice none 0 0, .int .i64 0]) (t := 27) ?hr ?_; (case hd => rfl); (case hg => rfl); (case hr => first | (go_simp; done) | (go_simp; rfl)); intro gb377 hg w42 hbox hb; have n0_ := Aside0.mk (Kd.R_below qya_7 hb); have n1_ := Aside0.mk (Kd.R_below qya_9 hb); have n2_ := Aside0.mk (Kd.R_below (by (with_reducible repeat (first | apply Kd.R_alloc | apply Kd.R_drewN | apply Kd.R_drew)); exact HO376.out) hb); have n3_ := Aside0.mk (blk_below (g := gb358) (o := .cells #[.int .i64 a1_0, .int .i64 a1_1] 46 (0, 0)) qya_1 hb); have n4_ := Aside0.mk (blk_below (g := gb367) (o := .cells #[.slice Ao28 t362.length co28, .int .i64 t365] 27 (0, 0)) qya_6 hb); have n5_ := Aside0.mk (below_step qya_3 hb); have n6_ := Aside0.mk (hbox); have n7_ := Aside0.mk ((by rw [hg]; exact (below_size qya_3) : w.heap.size ≤ gb377)); have n8_ := Aside0.mk ((by rw [hg]; exact (below_size qya_3) : w.heap.size ≤ gb377)); have n9_ := Aside0.mk ((by rw [hg]; exact Nat.ne_of_lt (blk_lt (g := gb358) (o := .cells #[.int .i64 a1_0, .int .i64 a1_1] 46 (0, 0)) qya_1) : gb358 ≠ gb377)); have n10_ := Aside0.mk ((by rw [hg]; exact Nat.ne_of_gt (blk_lt (g := gb358) (o := .cells #[.int .i64 a1_0, .int .i64 a1_1] 46 (0, 0)) qya_1) : gb377 ≠ gb358)); have n11_ := Aside0.mk ((by rw [hg]; exact Nat.ne_of_lt (blk_lt (g := gb367) (o := .cells #[.slice Ao28 t362.length co28, .int .i64 t365] 27 (0, 0)) qya_6) : gb367 ≠ gb377)); have n12_ := Aside0.mk ((by rw [hg]; exact Nat.ne_of_gt (blk_lt (g := gb367) (o := .cells #[.slice Ao28 t362.length co28, .int .i64 t365] 27 (0, 0)) qya_6) : gb377 ≠ gb367)); clear HO364; clear HO370; clear HO376; clear BK358; clear BK367; clear HB; have HO364 := n0_; have HO370 := n1_; have HO376 := n2_; have BK358 := n3_; have BK367 := n4_; have HB := n5_; have BK377 := n6_; have GW377 := n7_; have GE377 := n8_; have NB358_377 := n9_; have NB377_358 := n10_; have NB367_377 := n11_; have NB377_367 := n12_; clear n0_ n1_ n2_ n3_ n4_ n5_ n6_ n7_ n8_ n9_ n10_ n11_ n12_; clear hb hbox hg; have hnb43 := NB377_358.out; have hnc43 := NB358_377.out; have hnb44 := NB377_367.out; have hnc44 := NB367_377.out; have hcz45_0 : w42.cell? ⟨gb377, 0, none⟩ = some (.slice none 0 0) := (blk_cell BK377.out 0).trans rfl; have hcz45_1 : w42.cell? ⟨gb377, 1, none⟩ = some (.int .i64 0) := (blk_cell BK377.out 1).trans rfl; have hfz45_0 := blk_frozen BK377.out 0; have hfz45_1 := blk_frozen BK377.out 1))
    (try simp only [Act.put, List.setIfInBounds_toArray, List.set_cons_zero, List.set_cons_succ])
    go_cut [13] (fun v13 wc => ∃ (kq : Nat) (x13_23 : Int), v13 = .int .i64 x13_23 ∧ Aside0 (sleuthlaw44_SegmentationRaw.j1 kq t366 t371 t372 t373 x13_23 t362 t365 = some r) ∧ Aside0 (kq ≤ kj3) ∧ Aside0 (Kd.R (Kd.int .i64) 3 wc w.heap.size (fun k_ => some k_ ≠ ((.slice Ao41 t374.length co41) : Value).ownBlock) (.slice Ao28 t362.length co28) t362) ∧ Aside0 (Kd.R (Kd.int .i64) 3 wc w.heap.size (fun k_ => some k_ ≠ ((.slice Ao28 t362.length co28) : Value).ownBlock) (.slice Ao41 t374.length co41) t374) ∧ Aside0 (wc.heap[gb358]? = some (.cells #[.int .i64 a1_0, .int .i64 a1_1] 46 (0, 0))) ∧ Aside0 (wc.heap[gb367]? = some (.cells #[(.slice Ao28 t362.length co28), .int .i64 t365] 27 (0, 0))) ∧ Aside0 (wc.heap[gb377]? = some (.cells #[(.slice Ao41 t374.length co41), .int .i64 t371] 27 (0, 0))) ∧ Aside0 (Below w.heap.size w wc))
    case first =>
     have H := HC24.out
     clear HC24
     replace H := Option.bind_eq_some_iff.mp H
     obtain ⟨t378, A460, H⟩ := H
     replace H : (sleuthlaw44_SegmentationRaw.j1 kj3 t366 t371 t372 t373 t378 t362 t365) = some r := H
     have A46 := Aside0.mk A460
     clear A460
     have H' := Aside0.mk H
     clear H
     have hnb47 := NB358_367.out
     have hnc47 := NB367_358.out
     have hnb48 := NB358_377.out
     have hnc48 := NB377_358.out
     have hcz49_0 : w42.cell? ⟨gb358, 0, none⟩ = some (.int .i64 a1_0) := (blk_cell BK358.out 0).trans rfl
     have hcz49_1 : w42.cell? ⟨gb358, 1, none⟩ = some (.int .i64 a1_1) := (blk_cell BK358.out 1).trans rfl
     have hfz49_0 := blk_frozen BK358.out 0
     have hfz49_1 := blk_frozen BK358.out 1
     have hnb50 := NB377_367.out
     have hnc50 := NB367_377.out
     have hcz51_0 : w42.cell? ⟨gb377, 0, none⟩ = some (.slice none 0 0) := (blk_cell BK377.out 0).trans rfl
     have hcz51_1 : w42.cell? ⟨gb377, 1, none⟩ = some (.int .i64 0) := (blk_cell BK377.out 1).trans rfl
     have hfz51_0 := blk_frozen BK377.out 0
     have hfz51_1 := blk_frozen BK377.out 1
     go_wp2_with (first | ((with_reducible refine gate_callee (f := 20) rfl ?_); refine goesL_ (some 73) rfl rfl Try.func20 (by kernel_rfl) rfl #[.slice A0 l0.length c0, .int .i64 a1_0, .slice A2 l2.length c2, .agg #[.slice Ao41 t374.length co41, .int .i64 t371]] rfl qya_4 ?_; (with_reducible refine (segmentation_Verify.calls kj3 _ _ l0 a1_0 _ _ l2 _ _ t374 t371 t378 _ ?side1 ?side2 ?side3 ?side4 ?side5 ?side6 A46.out).mono ?_); (case side1 => exact Kd.C_below HR0.out qya_0); (case side2 => exact HC0.out); (case side3 => exact Kd.C_below HR2.out qya_0); (case side4 => exact HC2.out); (case side5 => refine (Kd.R_reads' (e := 3) (base := w.heap.size) (ok := fun k_ => ((True ∧ some k_ ≠ (.slice Ao28 t362.length co28 : Value).ownBlock) ∧ some k_ ≠ (.slice Ao34 t368.length co34 : Value).ownBlock)) (n := t374.length) (c := co41) ?_).2.2; exact qya_10); (case side6 => exact (Kd.R_reads' HO376.out).2.1); rintro e w52 ⟨rfl, hb⟩; refine ⟨_, rfl, ?_⟩; have n0_ := Aside0.mk (Kd.R_below (by (with_reducible repeat (first | apply Kd.R_alloc | apply Kd.R_drewN | apply Kd.R_drew)); exact (Kd.R_mono (Kd.R_far (p := ⟨gb377, 1, none⟩) (Kd.R_far (p := ⟨gb377, 0, none⟩) (Kd.R_types HO364.out BK377.out (by decide)) (fun _ hk => hk.2) (.slice Ao41 t374.length co41)) (fun _ hk => hk.2) (.int .i64 t371)) (fun _ h_ => h_.1))) hb); have n1_ := Aside0.mk (Kd.R_below (by (with_reducible repeat (first | apply Kd.R_alloc | apply Kd.R_drewN | apply Kd.R_drew)); exact (Kd.R_mono (Kd.R_far (p := ⟨gb377, 1, none⟩) (Kd.R_far (p := ⟨gb377, 0, none⟩) (Kd.R_types HO370.out BK377.out (by decide)) (fun _ hk => hk.2) (.slice Ao41 t374.length co41)) (fun _ hk => hk.2) (.int .i64 t371)) (fun _ h_ => h_.1))) hb); have n2_ := Aside0.mk (Kd.R_below qya_10 hb); have n3_ := Aside0.mk (blk_below (g := gb358) (o := .cells #[.int .i64 a1_0, .int .i64 a1_1] 46 (0, 0)) (by (with_reducible repeat (first | refine blk_drewN ?_ _ | refine blk_drew ?_ | refine blk_alloc ?_ _)); refine blk_far ?_ NB358_377.out _; (with_reducible repeat (first | refine blk_drewN ?_ _ | refine blk_drew ?_ | refine blk_alloc ?_ _)); refine blk_far ?_ NB358_377.out _; (with_reducible repeat (first | refine blk_drewN ?_ _ | refine blk_drew ?_ | refine blk_alloc ?_ _)); exact BK358.out) hb); have n4_ := Aside0.mk (blk_below (g := gb367) (o := .cells #[.slice Ao28 t362.length co28, .int .i64 t365] 27 (0, 0)) (by (with_reducible repeat (first | refine blk_drewN ?_ _ | refine blk_drew ?_ | refine blk_alloc ?_ _)); refine blk_far ?_ NB367_377.out _; (with_reducible repeat (first | refine blk_drewN ?_ _ | refine blk_drew ?_ | refine blk_alloc ?_ _)); refine blk_far ?_ NB367_377.out _; (with_reducible repeat (first | refine blk_drewN ?_ _ | refine blk_drew ?_ | refine blk_alloc ?_ _)); exact BK367.out) hb); have n5_ := Aside0.mk (blk_below (g := gb377) (o := .cells #[.slice Ao41 t374.length co41, .int .i64 t371] 27 (0, 0)) (by (with_reducible repeat (first | refine blk_drewN ?_ _ | refine blk_drew ?_ | refine blk_alloc ?_ _)); refine blk_put (cs := #[.slice Ao41 t374.length co41, .int .i64 0]) ?_ 1 _ rfl; (with_reducible repeat (first | refine blk_drewN ?_ _ | refine blk_drew ?_ | refine blk_alloc ?_ _)); refine blk_put (cs := #[.slice none 0 0, .int .i64 0]) ?_ 0 _ rfl; (with_reducible repeat (first | refine blk_drewN ?_ _ | refine blk_drew ?_ | refine blk_alloc ?_ _)); exact BK377.out) hb); have n6_ := Aside0.mk (below_step qya_0 hb); clear HO364; clear HO370; clear HO376; clear BK358; clear BK367; clear BK377; clear HB; have HO364 := n0_; have HO370 := n1_; have HO376 := n2_; have BK358 := n3_; have BK367 := n4_; have BK377 := n5_; have HB := n6_; clear n0_ n1_ n2_ n3_ n4_ n5_ n6_; (try clear hb); (try clear hb2); (try clear hk); (try clear hi)))
     go_meet
     case rel => exact ⟨_, (t378), qya_12, H', ⟨by have := HJ3.out; first | omega | exact Nat.le_refl _⟩, ⟨by (with_reducible repeat (first | apply Kd.R_alloc | apply Kd.R_drewN | apply Kd.R_drew)); exact Kd.R_mono HO364.out (fun _ hk => hk.2)⟩, ⟨by (with_reducible repeat (first | apply Kd.R_alloc | apply Kd.R_drewN | apply Kd.R_drew)); exact Kd.R_mono HO376.out (fun _ hk => hk.1.2)⟩, ⟨qya_1⟩, ⟨qya_6⟩, ⟨by (with_reducible repeat (first | refine blk_drewN ?_ _ | refine blk_drew ?_ | refine blk_alloc ?_ _)); exact BK377.out⟩, ⟨qya_0⟩⟩
    case rest =>
     clear HC24
     try clear c1
     try clear c2
     try clear p2
     try clear c4
     try clear c5
     try clear c6
     try clear c7
     try clear c8
     try clear c8b0
     try clear c8b1
     try clear c10
     try clear c10b0
     try clear c10b1
     try clear c13
     try clear c15
     try clear c16
     try clear c20
     try clear c21
     try clear c24
     try clear c29
     try clear c43
     try clear c44
     try clear c47
     try clear c48
     try clear c50
     try clear hcz14_0
     try clear hcz14_1
     try clear hcz25_0
     try clear hcz25_1
     try clear hcz30_0
     try clear hcz30_1
     try clear hcz36_0
     try clear hcz36_1
     try clear hcz37_0
     try clear hcz37_1
     try clear hcz39_0
     try clear hcz39_1
     try clear hcz45_0
     try clear hcz45_1
     try clear hcz49_0
     try clear hcz49_1
     try clear hcz51_0
     try clear hcz51_1
     try clear hfz14_0
     try clear hfz14_1
     try clear hfz25_0
     try clear hfz25_1
     try clear hfz30_0
     try clear hfz30_1
     try clear hfz36_0
     try clear hfz36_1
     try clear hfz37_0
     try clear hfz37_1
     try clear hfz39_0
     try clear hfz39_1
     try clear hfz45_0
     try clear hfz45_1
     try clear hfz49_0
     try clear hfz49_1
     try clear hfz51_0
     try clear hfz51_1
     try clear p2
     obtain ⟨kq, x13_23, rfl, HA, HJ23, HO_368000, HO_378000, BK358, BK367, BK377, HB⟩ := hcut
     cases kq with
     | zero => exact absurd HA.out (by simp [sleuthlaw44_SegmentationRaw.j1])
     | succ kj23 =>
      have H := HA.out
      clear HA
      simp only [sleuthlaw44_SegmentationRaw.j1] at H
      by_cases c53 : t366 = 0
      ·rw [if_pos c53] at H
       have c53b0 : (t366 == 0) = true := beq_iff_eq.mpr c53
       have c53b1 : (t366 != 0) = false := bne_eq_false_iff_eq.mpr c53
       clear c53
       by_cases c54 : t372 = 0
       ·rw [if_pos c54] at H
        have c54b0 : (t372 == 0) = true := beq_iff_eq.mpr c54
        have c54b1 : (t372 != 0) = false := bne_eq_false_iff_eq.mpr c54
        clear c54
        by_cases c55 : t365 > t371
        ·rw [if_pos c55] at H
         have c55b0 : decide (t371 < t365) = true := decide_eq_true c55
         clear c55
         obtain rfl := Option.some.inj H
         have hnb56 := NB367_358.out
         have hnc56 := NB358_367.out
         have hnb57 := NB367_377.out
         have hnc57 := NB377_367.out
         have hcz58_0 : wc.cell? ⟨gb367, 0, none⟩ = some (.slice Ao28 t362.length co28) := (blk_cell BK367.out 0).trans rfl
         have hcz58_1 : wc.cell? ⟨gb367, 1, none⟩ = some (.int .i64 t365) := (blk_cell BK367.out 1).trans rfl
         have hfz58_0 := blk_frozen BK367.out 0
         have hfz58_1 := blk_frozen BK367.out 1
         go_wp2
         go_ret
         exact ⟨qya_5, qya_0⟩
        ·rw [if_neg c55] at H
         have c55b0 : decide (t371 < t365) = false := decide_eq_false c55
         clear c55
         by_cases c59 : t373 = 0
         ·rw [if_pos c59] at H
          have c59b0 : (t373 == 0) = true := beq_iff_eq.mpr c59
          have c59b1 : (t373 != 0) = false := bne_eq_false_iff_eq.mpr c59
          clear c59
          by_cases c60 : x13_23 = 24
          ·rw [if_pos c60] at H
           have c60b0 : (x13_23 == 24) = true := beq_iff_eq.mpr c60
           have c60b1 : (x13_23 != 24) = false := bne_eq_false_iff_eq.mpr c60
           clear c60
           obtain rfl := Option.some.inj H
           have hnb61 := NB367_358.out
           have hnc61 := NB358_367.out
           have hnb62 := NB367_377.out
           have hnc62 := NB377_367.out
           have hcz63_0 : wc.cell? ⟨gb367, 0, none⟩ = some (.slice Ao28 t362.length co28) := (blk_cell BK367.out 0).trans rfl
           have hcz63_1 : wc.cell? ⟨gb367, 1, none⟩ = some (.int .i64 t365) := (blk_cell BK367.out 1).trans rfl
           have hfz63_0 := blk_frozen BK367.out 0
           have hfz63_1 := blk_frozen BK367.out 1
           go_wp2
           go_ret
           exact ⟨qya_5, qya_0⟩
          ·rw [if_neg c60] at H
           have c60b0 : (x13_23 == 24) = false := beq_eq_false_iff_ne.mpr c60
           have c60b1 : (x13_23 != 24) = true := bne_iff_ne.mpr c60
           by_cases c64 : x13_23 = 0
           ·rw [if_pos c64] at H
            have c64b0 : (x13_23 == 0) = true := beq_iff_eq.mpr c64
            have c64b1 : (x13_23 != 0) = false := bne_eq_false_iff_eq.mpr c64
            clear c64
            obtain rfl := Option.some.inj H
            have hnb65 := NB367_358.out
            have hnc65 := NB358_367.out
            have hnb66 := NB367_377.out
            have hnc66 := NB377_367.out
            have hcz67_0 : wc.cell? ⟨gb367, 0, none⟩ = some (.slice Ao28 t362.length co28) := (blk_cell BK367.out 0).trans rfl
            have hcz67_1 : wc.cell? ⟨gb367, 1, none⟩ = some (.int .i64 t365) := (blk_cell BK367.out 1).trans rfl
            have hfz67_0 := blk_frozen BK367.out 0
            have hfz67_1 := blk_frozen BK367.out 1
            go_wp2
            go_ret
            exact ⟨qya_5, qya_0⟩
           ·rw [if_neg c64] at H
            have c64b0 : (x13_23 == 0) = false := beq_eq_false_iff_ne.mpr c64
            have c64b1 : (x13_23 != 0) = true := bne_iff_ne.mpr c64
            obtain rfl := Option.some.inj H
            have hnb68 := NB367_358.out
            have hnc68 := NB358_367.out
            have hnb69 := NB367_377.out
            have hnc69 := NB377_367.out
            have hcz70_0 : wc.cell? ⟨gb367, 0, none⟩ = some (.slice Ao28 t362.length co28) := (blk_cell BK367.out 0).trans rfl
            have hcz70_1 : wc.cell? ⟨gb367, 1, none⟩ = some (.int .i64 t365) := (blk_cell BK367.out 1).trans rfl
            have hfz70_0 := blk_frozen BK367.out 0
            have hfz70_1 := blk_frozen BK367.out 1
            go_wp2
            go_ret
            exact ⟨qya_5, qya_0⟩
         ·rw [if_neg c59] at H
          have c59b0 : (t373 == 0) = false := beq_eq_false_iff_ne.mpr c59
          have c59b1 : (t373 != 0) = true := bne_iff_ne.mpr c59
          by_cases c71 : t373 = 24
          ·rw [if_pos c71] at H
           have c71b0 : (t373 == 24) = true := beq_iff_eq.mpr c71
           have c71b1 : (t373 != 24) = false := bne_eq_false_iff_eq.mpr c71
           clear c71
           by_cases c72 : x13_23 = 24
           ·rw [if_pos c72] at H
            have c72b0 : (x13_23 == 24) = true := beq_iff_eq.mpr c72
            have c72b1 : (x13_23 != 24) = false := bne_eq_false_iff_eq.mpr c72
            clear c72
            obtain rfl := Option.some.inj H
            have hnb73 := NB367_358.out
            have hnc73 := NB358_367.out
            have hnb74 := NB367_377.out
            have hnc74 := NB377_367.out
            have hcz75_0 : wc.cell? ⟨gb367, 0, none⟩ = some (.slice Ao28 t362.length co28) := (blk_cell BK367.out 0).trans rfl
            have hcz75_1 : wc.cell? ⟨gb367, 1, none⟩ = some (.int .i64 t365) := (blk_cell BK367.out 1).trans rfl
            have hfz75_0 := blk_frozen BK367.out 0
            have hfz75_1 := blk_frozen BK367.out 1
            go_wp2
            go_ret
            exact ⟨qya_5, qya_0⟩
           ·rw [if_neg c72] at H
            have c72b0 : (x13_23 == 24) = false := beq_eq_false_iff_ne.mpr c72
            have c72b1 : (x13_23 != 24) = true := bne_iff_ne.mpr c72
            by_cases c76 : x13_23 = 0
            ·rw [if_pos c76] at H
             have c76b0 : (x13_23 == 0) = true := beq_iff_eq.mpr c76
             have c76b1 : (x13_23 != 0) = false := bne_eq_false_iff_eq.mpr c76
             clear c76
             obtain rfl := Option.some.inj H
             have hnb77 := NB367_358.out
             have hnc77 := NB358_367.out
             have hnb78 := NB367_377.out
             have hnc78 := NB377_367.out
             have hcz79_0 : wc.cell? ⟨gb367, 0, none⟩ = some (.slice Ao28 t362.length co28) := (blk_cell BK367.out 0).trans rfl
             have hcz79_1 : wc.cell? ⟨gb367, 1, none⟩ = some (.int .i64 t365) := (blk_cell BK367.out 1).trans rfl
             have hfz79_0 := blk_frozen BK367.out 0
             have hfz79_1 := blk_frozen BK367.out 1
             go_wp2
             go_ret
             exact ⟨qya_5, qya_0⟩
            ·rw [if_neg c76] at H
             have c76b0 : (x13_23 == 0) = false := beq_eq_false_iff_ne.mpr c76
             have c76b1 : (x13_23 != 0) = true := bne_iff_ne.mpr c76
             obtain rfl := Option.some.inj H
             have hnb80 := NB367_358.out
             have hnc80 := NB358_367.out
             have hnb81 := NB367_377.out
             have hnc81 := NB377_367.out
             have hcz82_0 : wc.cell? ⟨gb367, 0, none⟩ = some (.slice Ao28 t362.length co28) := (blk_cell BK367.out 0).trans rfl
             have hcz82_1 : wc.cell? ⟨gb367, 1, none⟩ = some (.int .i64 t365) := (blk_cell BK367.out 1).trans rfl
             have hfz82_0 := blk_frozen BK367.out 0
             have hfz82_1 := blk_frozen BK367.out 1
             go_wp2
             go_ret
             exact ⟨qya_5, qya_0⟩
          ·rw [if_neg c71] at H
           have c71b0 : (t373 == 24) = false := beq_eq_false_iff_ne.mpr c71
           have c71b1 : (t373 != 24) = true := bne_iff_ne.mpr c71
           obtain rfl := Option.some.inj H
           have hnb83 := NB367_358.out
           have hnc83 := NB358_367.out
           have hnb84 := NB367_377.out
           have hnc84 := NB377_367.out
           have hcz85_0 : wc.cell? ⟨gb367, 0, none⟩ = some (.slice Ao28 t362.length co28) := (blk_cell BK367.out 0).trans rfl
           have hcz85_1 : wc.cell? ⟨gb367, 1, none⟩ = some (.int .i64 t365) := (blk_cell BK367.out 1).trans rfl
           have hfz85_0 := blk_frozen BK367.out 0
           have hfz85_1 := blk_frozen BK367.out 1
           go_wp2
           go_ret
           exact ⟨qya_5, qya_0⟩
       ·rw [if_neg c54] at H
        have c54b0 : (t372 == 0) = false := beq_eq_false_iff_ne.mpr c54
        have c54b1 : (t372 != 0) = true := bne_iff_ne.mpr c54
        obtain rfl := Option.some.inj H
        go_wp2
        go_ret
        exact ⟨qya_5, qya_0⟩
      ·rw [if_neg c53] at H
       have c53b0 : (t366 == 0) = false := beq_eq_false_iff_ne.mpr c53
       have c53b1 : (t366 != 0) = true := bne_iff_ne.mpr c53
       obtain rfl := Option.some.inj H
       go_wp2
       go_ret
       exact ⟨qya_5, qya_0⟩

end Go.Proofs.Ytiimanpmidnffaa.Q
