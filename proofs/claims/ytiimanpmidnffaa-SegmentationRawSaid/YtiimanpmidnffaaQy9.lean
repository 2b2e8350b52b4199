-- The walk of SegmentationCosts. Laid by myprint.py (a program of this session's, over the kit's printer)
import Derived.Test.YtiimanpmidnffaaQx0
import Derived.Test.YtiimanpmidnffaaQx8
import Derived.Test.YtiimanpmidnffaaQx9
import Derived.Test.YtiimanpmidnffaaQy5
import Derived.Test.YtiimanpmidnffaaQy8
namespace Go.Proofs.Ytiimanpmidnffaa.Q
open Go.RowKit Go.Proofs.YtiimanpmidnffaaW.PrintWords Go.Proofs.YtiimanpmidnffaaW.PrintLast Go.Proofs.YtiimanpmidnffaaW.PrintMore
attribute [local go_sem] max2_int min2_int max_two min_two max_three min_three max_four min_four   -- for this text's walks alone
set_option linter.unusedVariables false
set_option linter.unusedSimpArgs false

theorem qy9_0 {p : Prop} (h : p := by repeat (first | (with_reducible first | exact HB.out | apply below_alloc | apply pw_below_drewN | apply below_drew1 | refine below_set ?_ GE314.out) | exact HB.out)) : p := h
theorem qy9_1 {p : Prop} (h : p := by (with_reducible repeat (first | refine blk_drewN ?_ _ | refine blk_drew ?_ | refine blk_alloc ?_ _)); exact BK314.out) : p := h
theorem qy9_2 {p : Prop} (h : p := by repeat (first | exact (Kd.C_below HR324.out HB.out) | (with_reducible refine Kd.C_alloc ?_ _) | (with_reducible refine Kd.C_drewN ?_ _) | (with_reducible refine Kd.C_drew ?_))) : p := h
theorem qy9_3 {p : Prop} (h : p := by first | (with_reducible assumption) | assumption) : p := h
theorem qy9_4 {p : Prop} (h : p := by repeat (first | exact (Kd.C_below HR0.out HB.out) | (with_reducible refine Kd.C_alloc ?_ _) | (with_reducible refine Kd.C_drewN ?_ _) | (with_reducible refine Kd.C_drew ?_))) : p := h
theorem qy9_5 {p : Prop} (h : p := by repeat (first | (with_reducible first | exact HB.out | apply below_alloc | apply pw_below_drewN | apply below_drew1) | exact HB.out)) : p := h
theorem qy9_6 {p : Prop} (h : p := by first | rfl | (simp [errW_none, errW_some] <;> rfl) | (simp [*, errW_none, errW_some] <;> rfl)) : p := h
theorem qy9_7 {p : Prop} (h : p := by first | rfl | (simp; done) | (simp [*]; done)) : p := h
theorem qy9_8 {p : Prop} (h : p := by repeat (first | exact (Kd.C_below HR322.out HB.out) | (with_reducible refine Kd.C_alloc ?_ _) | (with_reducible refine Kd.C_drewN ?_ _) | (with_reducible refine Kd.C_drew ?_))) : p := h
theorem qy9_9 {p : Prop} (h : p := by repeat (first | exact (Kd.C_below HR324.out qy9_0) | (with_reducible refine Kd.C_alloc ?_ _) | (with_reducible refine Kd.C_drewN ?_ _) | (with_reducible refine Kd.C_drew ?_))) : p := h
theorem qy9_10 {p : Prop} (h : p := by first | omega | exact of_decide_eq_true qy9_3) : p := h
theorem qy9_11 {p : Prop} (h : p := by have := HJ3.out; have := HJ17.out; first | omega | exact Nat.le_refl _) : p := h
/-! ### sleuthlaw44_SegmentationCosts: function 10 -/
mutual
def sleuthlaw44_SegmentationCosts.j0 : Nat → List Int → Int → Bool → Int → Int → Option (Bool)
 | 0, _, _, _, _, _ => none
 | k + 1, x0, x2, x24, x315000, x315001 => if x24 = true then ((sleuthlaw44_known.f k).bind fun t317 => (some t317)) else ((segmentation_Median.f k x0 x315000 x315001).bind fun bt318 => ((segmentation_Cost.f k x0 x315000 x315001).bind fun bt320 => (if x315000 < 0 then (sleuthlaw44_SegmentationCosts.j1 k x0 x2 x315000 x315001 bt318.1 bt318.2 bt320.1 bt320.2 true) else (if x315000 ≥ x315001 then (sleuthlaw44_SegmentationCosts.j1 k x0 x2 x315000 x315001 bt318.1 bt318.2 bt320.1 bt320.2 true) else (sleuthlaw44_SegmentationCosts.j1 k x0 x2 x315000 x315001 bt318.1 bt318.2 bt320.1 bt320.2 (decide (x315001 > (x0.length : Int))))))))
def sleuthlaw44_SegmentationCosts.j1 : Nat → List Int → Int → Int → Int → Int → Int → Int → Int → Bool → Option (Bool)
 | 0, _, _, _, _, _, _, _, _, _ => none
 | k + 1, x0, x2, x7, x8, x9, x10, x11, x12, x56 => if x56 = true then (if x9 = 0 then (if x10 = 2 then (if x11 = 0 then (some (x12 == 2)) else (some false)) else (some false)) else (some false)) else (if x2 > (-2199023255552) then (if x2 < 2199023255552 then (if 0 ≤ x7 then (if x7 ≤ x8 then (if x8 ≤ (x0.length : Int) then ((sleuthlaw44_deviation.f k ((x0.take (x8 : Int).toNat).drop (x7 : Int).toNat) x2).bind fun t323 => (sleuthlaw44_SegmentationCosts.j2 k x0 x7 x8 x9 x10 x11 x12 (decide (t323 < x11)))) else (none)) else (none)) else (none)) else (sleuthlaw44_SegmentationCosts.j2 k x0 x7 x8 x9 x10 x11 x12 false)) else (sleuthlaw44_SegmentationCosts.j2 k x0 x7 x8 x9 x10 x11 x12 false))
def sleuthlaw44_SegmentationCosts.j2 : Nat → List Int → Int → Int → Int → Int → Int → Int → Bool → Option (Bool)
 | 0, _, _, _, _, _, _, _, _ => none
 | k + 1, x0, x7, x8, x9, x10, x11, x12, x86 => if x86 = true then (some false) else (if x10 = 0 then (if 0 ≤ x7 then (if x7 ≤ x8 then (if x8 ≤ (x0.length : Int) then ((sleuthlaw44_median.f k ((x0.take (x8 : Int).toNat).drop (x7 : Int).toNat)).bind fun t325 => (if x9 = t325 then (if x12 = 0 then ((sleuthlaw44_cost.f k ((x0.take (x8 : Int).toNat).drop (x7 : Int).toNat)).bind fun t327 => (some (x11 == t327))) else (some false)) else (some false))) else (none)) else (none)) else (none)) else (some false))
end
def sleuthlaw44_SegmentationCosts.f (k : Nat) (l0 : List Int) (a1_0 : Int) (a1_1 : Int) (a2 : Int) : Option (Bool) := (sleuthlaw44_known.f k).bind fun t315 => (if t315 = true then (if (l0.length : Int) > 40 then (sleuthlaw44_SegmentationCosts.j0 k l0 a2 true a1_0 a1_1) else ((sleuthlaw44_check.f k l0 0).bind fun t316 => (sleuthlaw44_SegmentationCosts.j0 k l0 a2 (t316 != 0) a1_0 a1_1))) else (sleuthlaw44_SegmentationCosts.j0 k l0 a2 true a1_0 a1_1))
theorem sleuthlaw44_SegmentationCosts.mono_l : ∀ k, (∀ y0 y1 y2 y3 y4, LeO (sleuthlaw44_SegmentationCosts.j0 k y0 y1 y2 y3 y4) (sleuthlaw44_SegmentationCosts.j0 (k + 1) y0 y1 y2 y3 y4)) ∧ (∀ y0 y1 y2 y3 y4 y5 y6 y7 y8, LeO (sleuthlaw44_SegmentationCosts.j1 k y0 y1 y2 y3 y4 y5 y6 y7 y8) (sleuthlaw44_SegmentationCosts.j1 (k + 1) y0 y1 y2 y3 y4 y5 y6 y7 y8)) ∧ (∀ y0 y1 y2 y3 y4 y5 y6 y7, LeO (sleuthlaw44_SegmentationCosts.j2 k y0 y1 y2 y3 y4 y5 y6 y7) (sleuthlaw44_SegmentationCosts.j2 (k + 1) y0 y1 y2 y3 y4 y5 y6 y7))
 | 0 => ⟨fun _ _ _ _ _ r h => by simp [sleuthlaw44_SegmentationCosts.j0] at h, fun _ _ _ _ _ _ _ _ _ r h => by simp [sleuthlaw44_SegmentationCosts.j1] at h, fun _ _ _ _ _ _ _ _ r h => by simp [sleuthlaw44_SegmentationCosts.j2] at h⟩
 | k + 1 => by
  obtain ⟨ih0, ih1, ih2⟩ := sleuthlaw44_SegmentationCosts.mono_l k
  refine ⟨?_, ?_, ?_⟩
  ·intro y0 y1 y2 y3 y4
   unfold sleuthlaw44_SegmentationCosts.j0
   repeat' first
   | (with_reducible exact ih0 _ _ _ _ _)
   | (with_reducible exact ih1 _ _ _ _ _ _ _ _ _)
   | (with_reducible exact ih2 _ _ _ _ _ _ _ _)
   | (with_reducible exact segmentation_Cost.mono _ _ _ _)
   | (with_reducible exact segmentation_Median.mono _ _ _ _)
   | (with_reducible exact sleuthlaw44_check.mono _ _ _)
   | (with_reducible exact sleuthlaw44_cost.mono _ _)
   | (with_reducible exact sleuthlaw44_deviation.mono _ _ _)
   | (with_reducible exact sleuthlaw44_known.mono _)
   | (with_reducible exact sleuthlaw44_median.mono _ _)
   | (with_reducible exact LeO.refl _)
   | (with_reducible exact LeO.none _)
   | (with_reducible refine LeO.ite ?_ ?_)
   | (with_reducible refine LeO.bind ?_ (fun _ => ?_))
   | exact ih0 _ _ _ _ _
   | exact ih1 _ _ _ _ _ _ _ _ _
   | exact ih2 _ _ _ _ _ _ _ _
   | exact segmentation_Cost.mono _ _ _ _
   | exact segmentation_Median.mono _ _ _ _
   | exact sleuthlaw44_check.mono _ _ _
   | exact sleuthlaw44_cost.mono _ _
   | exact sleuthlaw44_deviation.mono _ _ _
   | exact sleuthlaw44_known.mono _
   | exact sleuthlaw44_median.mono _ _
   | exact LeO.none _
   | refine LeO.ite ?_ ?_
   | refine LeO.bind ?_ (fun _ => ?_)
  ·intro y0 y1 y2 y3 y4 y5 y6 y7 y8
   unfold sleuthlaw44_SegmentationCosts.j1
   repeat' first
   | (with_reducible exact ih0 _ _ _ _ _)
   | (with_reducible exact ih1 _ _ _ _ _ _ _ _ _)
   | (with_reducible exact ih2 _ _ _ _ _ _ _ _)
   | (with_reducible exact segmentation_Cost.mono _ _ _ _)
   | (with_reducible exact segmentation_Median.mono _ _ _ _)
   | (with_reducible exact sleuthlaw44_check.mono _ _ _)
   | (with_reducible exact sleuthlaw44_cost.mono _ _)
   | (with_reducible exact sleuthlaw44_deviation.mono _ _ _)
   | (with_reducible exact sleuthlaw44_known.mono _)
   | (with_reducible exact sleuthlaw44_median.mono _ _)
   | (with_reducible exact LeO.refl _)
   | (with_reducible exact LeO.none _)
   | (with_reducible refine LeO.ite ?_ ?_)
   | (with_reducible refine LeO.bind ?_ (fun _ => ?_))
   | exact ih0 _ _ _ _ _
   | exact ih1 _ _ _ _ _ _ _ _ _
   | exact ih2 _ _ _ _ _ _ _ _
   | exact segmentation_Cost.mono _ _ _ _
   | exact segmentation_Median.mono _ _ _ _
   | exact sleuthlaw44_check.mono _ _ _
   | exact sleuthlaw44_cost.mono _ _
   | exact sleuthlaw44_deviation.mono _ _ _
   | exact sleuthlaw44_known.mono _
   | exact sleuthlaw44_median.mono _ _
   | exact LeO.none _
   | refine LeO.ite ?_ ?_
   | refine LeO.bind ?_ (fun _ => ?_)
  ·intro y0 y1 y2 y3 y4 y5 y6 y7
   unfold sleuthlaw44_SegmentationCosts.j2
   repeat' first
   | (with_reducible exact ih0 _ _ _ _ _)
   | (with_reducible exact ih1 _ _ _ _ _ _ _ _ _)
   | (with_reducible exact ih2 _ _ _ _ _ _ _ _)
   | (with_reducible exact segmentation_Cost.mono _ _ _ _)
   | (with_reducible exact segmentation_Median.mono _ _ _ _)
   | (with_reducible exact sleuthlaw44_check.mono _ _ _)
   | (with_reducible exact sleuthlaw44_cost.mono _ _)
   | (with_reducible exact sleuthlaw44_deviation.mono _ _ _)
   | (with_reducible exact sleuthlaw44_known.mono _)
   | (with_reducible exact sleuthlaw44_median.mono _ _)
   | (with_reducible exact LeO.refl _)
   | (with_reducible exact LeO.none _)
   | (with_reducible refine LeO.ite ?_ ?_)
   | (with_reducible refine LeO.bind ?_ (fun _ => ?_))
   | exact ih0 _ _ _ _ _
   | exact ih1 _ _ _ _ _ _ _ _ _
   | exact ih2 _ _ _ _ _ _ _ _
   | exact segmentation_Cost.mono _ _ _ _
   | exact segmentation_Median.mono _ _ _ _
   | exact sleuthlaw44_check.mono _ _ _
   | exact sleuthlaw44_cost.mono _ _
   | exact sleuthlaw44_deviation.mono _ _ _
   | exact sleuthlaw44_known.mono _
   | exact sleuthlaw44_median.mono _ _
   | exact LeO.none _
   | refine LeO.ite ?_ ?_
   | refine LeO.bind ?_ (fun _ => ?_)
theorem sleuthlaw44_SegmentationCosts.mono : ∀ a0 a1 a2 a3 k, LeO (sleuthlaw44_SegmentationCosts.f k a0 a1 a2 a3) (sleuthlaw44_SegmentationCosts.f (k + 1) a0 a1 a2 a3) := by
 intro a0 a1 a2 a3 k
 obtain ⟨ih0, ih1, ih2⟩ := sleuthlaw44_SegmentationCosts.mono_l k
 unfold sleuthlaw44_SegmentationCosts.f
 repeat' first
   | (with_reducible exact ih0 _ _ _ _ _)
   | (with_reducible exact ih1 _ _ _ _ _ _ _ _ _)
   | (with_reducible exact ih2 _ _ _ _ _ _ _ _)
   | (with_reducible exact segmentation_Cost.mono _ _ _ _)
   | (with_reducible exact segmentation_Median.mono _ _ _ _)
   | (with_reducible exact sleuthlaw44_check.mono _ _ _)
   | (with_reducible exact sleuthlaw44_cost.mono _ _)
   | (with_reducible exact sleuthlaw44_deviation.mono _ _ _)
   | (with_reducible exact sleuthlaw44_known.mono _)
   | (with_reducible exact sleuthlaw44_median.mono _ _)
   | (with_reducible exact LeO.refl _)
   | (with_reducible exact LeO.none _)
   | (with_reducible refine LeO.ite ?_ ?_)
   | (with_reducible refine LeO.bind ?_ (fun _ => ?_))
   | exact ih0 _ _ _ _ _
   | exact ih1 _ _ _ _ _ _ _ _ _
   | exact ih2 _ _ _ _ _ _ _ _
   | exact segmentation_Cost.mono _ _ _ _
   | exact segmentation_Median.mono _ _ _ _
   | exact sleuthlaw44_check.mono _ _ _
   | exact sleuthlaw44_cost.mono _ _
   | exact sleuthlaw44_deviation.mono _ _ _
   | exact sleuthlaw44_known.mono _
   | exact sleuthlaw44_median.mono _ _
   | exact LeO.none _
   | refine LeO.ite ?_ ?_
   | refine LeO.bind ?_ (fun _ => ?_)
set_option maxHeartbeats 8000000 in
set_option maxRecDepth 100000 in
theorem sleuthlaw44_SegmentationCosts.calls (k : Nat) (A0 : Option Addr) (c0 : Nat) (l0 : List Int) (a1_0 : Int) (a1_1 : Int) (a2 : Int) (r : Bool) (w : World) (hr0 : Kd.C (Kd.int .i64) w A0 l0.length l0) (hc0 : l0.length ≤ c0) (h : sleuthlaw44_SegmentationCosts.f k l0 a1_0 a1_1 a2 = some r) :
  Calls Try.prog 10 #[.slice A0 l0.length c0, .agg #[.int .i64 a1_0, .int .i64 a1_1], .int .i64 a2] w fun e w' => e = .returned (.bool r) ∧ Below w.heap.size w w' := by
 have hu46 := Try.underlying46
 have HR0 := Aside0.mk hr0
 have HC0 := Aside0.mk hc0
 clear hr0 hc0
 have HB := Aside0.mk (Below.refl w.heap.size w)
 have H : ((sleuthlaw44_known.f k).bind fun t315 => (if t315 = true then (if (l0.length : Int) > 40 then (sleuthlaw44_SegmentationCosts.j0 k l0 a2 true a1_0 a1_1) else ((sleuthlaw44_check.f k l0 0).bind fun t316 => (sleuthlaw44_SegmentationCosts.j0 k l0 a2 (t316 != 0) a1_0 a1_1))) else (sleuthlaw44_SegmentationCosts.j0 k l0 a2 true a1_0 a1_1))) = some r := h
 clear h
 have HC4 := Aside0.mk H
 clear H
 go_enter Try.func10, Try.ntmps10
 go_upto_region 1 with (first | ((with_reducible refine gate_dst (N := 4) rfl ?_); (try (refine gate_guard (by rfl) ?_; dsimp only)); refine box_event ?hg (N := 4) ?hd (cs := #[.int .i64 a1_0, .int .i64 a1_1]) (t := 46) ?hr ?_; (case hd => rfl); (case hg => rfl); (case hr => first | (go_simp; done) | (go_simp; rfl)); intro gb314 hg w5 hbox hb; have n0_ := Aside0.mk (below_step qy9_5 hb); have n1_ := Aside0.mk (hbox); have n2_ := Aside0.mk ((by rw [hg]; exact (below_size qy9_5) : w.heap.size ≤ gb314)); have n3_ := Aside0.mk ((by rw [hg]; exact (below_size qy9_5) : w.heap.size ≤ gb314)); clear HB; have HB := n0_; have BK314 := n1_; have GW314 := n2_; have GE314 := n3_; clear n0_ n1_ n2_ n3_; clear hb hbox hg))
 repeat (go_quiet (first | ((with_reducible refine gate_dst (N := 4) rfl ?_); (try (refine gate_guard (by rfl) ?_; dsimp only)); refine box_event ?hg (N := 4) ?hd (cs := #[.int .i64 a1_0, .int .i64 a1_1]) (t := 46) ?hr ?_; (case hd => rfl); (case hg => rfl); (case hr => first | (go_simp; done) | (go_simp; rfl)); intro gb314 hg w5 hbox hb; have n0_ := Aside0.mk (below_step qy9_5 hb); have n1_ := Aside0.mk (hbox); have n2_ := Aside0.mk ((by rw [hg]; exact (below_size qy9_5) : w.heap.size ≤ gb314)); have n3_ := Aside0.mk ((by rw [hg]; exact (below_size qy9_5) : w.heap.size ≤ gb314)); clear HB; have HB := n0_; have BK314 := n1_; have GW314 := n2_; have GE314 := n3_; clear n0_ n1_ n2_ n3_; clear hb hbox hg)); go_upto_region 1 with (first | ((with_reducible refine gate_dst (N := 4) rfl ?_); (try (refine gate_guard (by rfl) ?_; dsimp only)); refine box_event ?hg (N := 4) ?hd (cs := #[.int .i64 a1_0, .int .i64 a1_1]) (t := 46) ?hr ?_; (case hd => rfl); (case hg => rfl); (case hr => first | (go_simp; done) | (go_simp; rfl)); intro gb314 hg w5 hbox hb; have n0_ := Aside0.mk (below_step qy9_5 hb); have n1_ := Aside0.mk (hbox); have n2_ := Aside0.mk ((by rw [hg]; exact (below_size qy9_5) : w.heap.size ≤ gb314)); have n3_ := Aside0.mk ((by rw [hg]; exact (below_size qy9_5) : w.heap.size ≤ gb314)); clear HB; have HB := n0_; have BK314 := n1_; have GW314 := n2_; have GE314 := n3_; clear n0_ n1_ n2_ n3_; clear hb hbox hg)))
 (try simp only [Act.put, List.setIfInBounds_toArray, List.set_cons_zero, List.set_cons_succ])
 go_cut [24] (fun v24 wc => ∃ (kq : Nat) (x24_3 : Bool), v24 = .bool x24_3 ∧ Aside0 (sleuthlaw44_SegmentationCosts.j0 kq l0 a2 x24_3 a1_0 a1_1 = some r) ∧ Aside0 (kq ≤ k) ∧ Aside0 (wc.heap[gb314]? = some (.cells #[.int .i64 a1_0, .int .i64 a1_1] 46 (0, 0))) ∧ Aside0 (Below w.heap.size w wc))
 case first =>
  have H := HC4.out
  clear HC4
  replace H := Option.bind_eq_some_iff.mp H
  obtain ⟨t315, A60, H⟩ := H
  replace H : (if t315 = true then (if (l0.length : Int) > 40 then (sleuthlaw44_SegmentationCosts.j0 k l0 a2 true a1_0 a1_1) else ((sleuthlaw44_check.f k l0 0).bind fun t316 => (sleuthlaw44_SegmentationCosts.j0 k l0 a2 (t316 != 0) a1_0 a1_1))) else (sleuthlaw44_SegmentationCosts.j0 k l0 a2 true a1_0 a1_1)) = some r := H
  have A6 := Aside0.mk A60
  clear A60
  by_cases c7 : t315 = true
  ·subst c7
   have H1 : (if (l0.length : Int) > 40 then (sleuthlaw44_SegmentationCosts.j0 k l0 a2 true a1_0 a1_1) else ((sleuthlaw44_check.f k l0 0).bind fun t316 => (sleuthlaw44_SegmentationCosts.j0 k l0 a2 (t316 != 0) a1_0 a1_1))) = some r := by rw [if_pos rfl] at H; exact H
   clear H
   have H := H1
   clear H1
   by_cases c8 : (l0.length : Int) > 40
   ·rw [if_pos c8] at H
    have c8b0 : decide (40 < (l0.length : Int)) = true := decide_eq_true c8
    have c8b1 : decide (40 < l0.length) = true := decide_eq_true (by omega)
    clear c8
    (first | rw [c8b0] | (simp only [i64_w, i32_w]; rw [c8b0]) | skip)
    have H' := Aside0.mk H
    clear H
    go_wp2_with (first | (go_at_call 13; (try rw [← HLEN.out]); (with_reducible refine (sleuthlaw44_known.calls k  true _ A6.out).mono ?_); rintro e w9 ⟨rfl, hb⟩; have n0_ := Aside0.mk (blk_below (g := gb314) (o := .cells #[.int .i64 a1_0, .int .i64 a1_1] 46 (0, 0)) qy9_1 hb); have n1_ := Aside0.mk (below_step qy9_0 hb); clear BK314; clear HB; have BK314 := n0_; have HB := n1_; clear n0_ n1_; (try clear hb); (try clear hb2); (try clear hk); (try clear hi)))
    repeat (go_quiet (first | (go_at_call 13; (try rw [← HLEN.out]); (with_reducible refine (sleuthlaw44_known.calls k  true _ A6.out).mono ?_); rintro e w9 ⟨rfl, hb⟩; have n0_ := Aside0.mk (blk_below (g := gb314) (o := .cells #[.int .i64 a1_0, .int .i64 a1_1] 46 (0, 0)) qy9_1 hb); have n1_ := Aside0.mk (below_step qy9_0 hb); clear BK314; clear HB; have BK314 := n0_; have HB := n1_; clear n0_ n1_; (try clear hb); (try clear hb2); (try clear hk); (try clear hi))); try go_wp2_with (first | (go_at_call 13; (try rw [← HLEN.out]); (with_reducible refine (sleuthlaw44_known.calls k  true _ A6.out).mono ?_); rintro e w9 ⟨rfl, hb⟩; have n0_ := Aside0.mk (blk_below (g := gb314) (o := .cells #[.int .i64 a1_0, .int .i64 a1_1] 46 (0, 0)) qy9_1 hb); have n1_ := Aside0.mk (below_step qy9_0 hb); clear BK314; clear HB; have BK314 := n0_; have HB := n1_; clear n0_ n1_; (try clear hb); (try clear hb2); (try clear hk); (try clear hi))))
    go_meet
    case rel => exact ⟨_, (true), qy9_7, H', ⟨by first | omega | exact Nat.le_refl _⟩, ⟨qy9_1⟩, ⟨qy9_0⟩⟩
   ·rw [if_neg c8] at H
    have c8b0 : decide (40 < (l0.length : Int)) = false := decide_eq_false c8
    have c8b1 : decide (40 < l0.length) = false := decide_eq_false (by omega)
    clear c8
    (first | rw [c8b0] | (simp only [i64_w, i32_w]; rw [c8b0]) | skip)
    replace H := Option.bind_eq_some_iff.mp H
    obtain ⟨t316, A100, H⟩ := H
    replace H : (sleuthlaw44_SegmentationCosts.j0 k l0 a2 (t316 != 0) a1_0 a1_1) = some r := H
    have A10 := Aside0.mk A100
    clear A100
    have H' := Aside0.mk H
    clear H
    go_wp2_with (first | (go_at_call 13; (try rw [← HLEN.out]); (with_reducible refine (sleuthlaw44_known.calls k  true _ A6.out).mono ?_); rintro e w11 ⟨rfl, hb⟩; have n0_ := Aside0.mk (blk_below (g := gb314) (o := .cells #[.int .i64 a1_0, .int .i64 a1_1] 46 (0, 0)) qy9_1 hb); have n1_ := Aside0.mk (below_step qy9_0 hb); clear BK314; clear HB; have BK314 := n0_; have HB := n1_; clear n0_ n1_; (try clear hb); (try clear hb2); (try clear hk); (try clear hi)) | (go_at_call 23; (try rw [← HLEN.out]); (with_reducible refine (sleuthlaw44_check.calls k _ _ l0 0 t316 _ ?side1 ?side2 A10.out).mono ?_); (case side1 => exact qy9_4); (case side2 => exact HC0.out); rintro e w' ⟨rfl, ⟨nd, rfl⟩⟩; (try first | exact ⟨rfl, _, World.drewN_drewN _ _ _⟩ | exact ⟨rfl, _, Eq.trans (World.drewN_drewN _ _ _) (congrArg (World.drewN _) (Nat.add_assoc _ _ _))⟩)))
    repeat (go_quiet (first | (go_at_call 13; (try rw [← HLEN.out]); (with_reducible refine (sleuthlaw44_known.calls k  true _ A6.out).mono ?_); rintro e w11 ⟨rfl, hb⟩; have n0_ := Aside0.mk (blk_below (g := gb314) (o := .cells #[.int .i64 a1_0, .int .i64 a1_1] 46 (0, 0)) qy9_1 hb); have n1_ := Aside0.mk (below_step qy9_0 hb); clear BK314; clear HB; have BK314 := n0_; have HB := n1_; clear n0_ n1_; (try clear hb); (try clear hb2); (try clear hk); (try clear hi)) | (go_at_call 23; (try rw [← HLEN.out]); (with_reducible refine (sleuthlaw44_check.calls k _ _ l0 0 t316 _ ?side1 ?side2 A10.out).mono ?_); (case side1 => exact qy9_4); (case side2 => exact HC0.out); rintro e w' ⟨rfl, ⟨nd, rfl⟩⟩; (try first | exact ⟨rfl, _, World.drewN_drewN _ _ _⟩ | exact ⟨rfl, _, Eq.trans (World.drewN_drewN _ _ _) (congrArg (World.drewN _) (Nat.add_assoc _ _ _))⟩))); try go_wp2_with (first | (go_at_call 13; (try rw [← HLEN.out]); (with_reducible refine (sleuthlaw44_known.calls k  true _ A6.out).mono ?_); rintro e w11 ⟨rfl, hb⟩; have n0_ := Aside0.mk (blk_below (g := gb314) (o := .cells #[.int .i64 a1_0, .int .i64 a1_1] 46 (0, 0)) qy9_1 hb); have n1_ := Aside0.mk (below_step qy9_0 hb); clear BK314; clear HB; have BK314 := n0_; have HB := n1_; clear n0_ n1_; (try clear hb); (try clear hb2); (try clear hk); (try clear hi)) | (go_at_call 23; (try rw [← HLEN.out]); (with_reducible refine (sleuthlaw44_check.calls k _ _ l0 0 t316 _ ?side1 ?side2 A10.out).mono ?_); (case side1 => exact qy9_4); (case side2 => exact HC0.out); rintro e w' ⟨rfl, ⟨nd, rfl⟩⟩; (try first | exact ⟨rfl, _, World.drewN_drewN _ _ _⟩ | exact ⟨rfl, _, Eq.trans (World.drewN_drewN _ _ _) (congrArg (World.drewN _) (Nat.add_assoc _ _ _))⟩))))
    go_meet
    case rel => exact ⟨_, ((t316 != 0)), qy9_7, H', ⟨by first | omega | exact Nat.le_refl _⟩, ⟨qy9_1⟩, ⟨qy9_0⟩⟩
  ·replace c7 := Bool.eq_false_iff.mpr c7
   subst c7
   have H1 : (sleuthlaw44_SegmentationCosts.j0 k l0 a2 true a1_0 a1_1) = some r := by rw [if_neg (show ¬ (false = true) by decide)] at H; exact H
   clear H
   have H := H1
   clear H1
   have H' := Aside0.mk H
   clear H
   go_wp2_with (first | (go_at_call 13; (try rw [← HLEN.out]); (with_reducible refine (sleuthlaw44_known.calls k  false _ A6.out).mono ?_); rintro e w12 ⟨rfl, hb⟩; have n0_ := Aside0.mk (blk_below (g := gb314) (o := .cells #[.int .i64 a1_0, .int .i64 a1_1] 46 (0, 0)) qy9_1 hb); have n1_ := Aside0.mk (below_step qy9_0 hb); clear BK314; clear HB; have BK314 := n0_; have HB := n1_; clear n0_ n1_; (try clear hb); (try clear hb2); (try clear hk); (try clear hi)))
   repeat (go_quiet (first | (go_at_call 13; (try rw [← HLEN.out]); (with_reducible refine (sleuthlaw44_known.calls k  false _ A6.out).mono ?_); rintro e w12 ⟨rfl, hb⟩; have n0_ := Aside0.mk (blk_below (g := gb314) (o := .cells #[.int .i64 a1_0, .int .i64 a1_1] 46 (0, 0)) qy9_1 hb); have n1_ := Aside0.mk (below_step qy9_0 hb); clear BK314; clear HB; have BK314 := n0_; have HB := n1_; clear n0_ n1_; (try clear hb); (try clear hb2); (try clear hk); (try clear hi))); try go_wp2_with (first | (go_at_call 13; (try rw [← HLEN.out]); (with_reducible refine (sleuthlaw44_known.calls k  false _ A6.out).mono ?_); rintro e w12 ⟨rfl, hb⟩; have n0_ := Aside0.mk (blk_below (g := gb314) (o := .cells #[.int .i64 a1_0, .int .i64 a1_1] 46 (0, 0)) qy9_1 hb); have n1_ := Aside0.mk (below_step qy9_0 hb); clear BK314; clear HB; have BK314 := n0_; have HB := n1_; clear n0_ n1_; (try clear hb); (try clear hb2); (try clear hk); (try clear hi))))
   go_meet
   case rel => exact ⟨_, (true), qy9_7, H', ⟨by first | omega | exact Nat.le_refl _⟩, ⟨qy9_1⟩, ⟨qy9_0⟩⟩
 case rest =>
  clear HC4
  try clear c1
  try clear p2
  try clear c7
  try clear c8
  try clear c8b0
  try clear c8b1
  try clear c10
  obtain ⟨kq, x24_3, rfl, HA, HJ3, BK314, HB⟩ := hcut
  cases kq with
  | zero => exact absurd HA.out (by simp [sleuthlaw44_SegmentationCosts.j0])
  | succ kj3 =>
   have H := HA.out
   clear HA
   simp only [sleuthlaw44_SegmentationCosts.j0] at H
   by_cases c13 : x24_3 = true
   ·subst c13
    have H1 : ((sleuthlaw44_known.f kj3).bind fun t317 => (some t317)) = some r := by rw [if_pos rfl] at H; exact H
    clear H
    have H := H1
    clear H1
    replace H := Option.bind_eq_some_iff.mp H
    obtain ⟨t317, A140, H⟩ := H
    replace H : (some t317) = some r := H
    have A14 := Aside0.mk A140
    clear A140
    obtain rfl := Option.some.inj H
    go_wp2_with (first | (go_at_call 13; (try rw [← HLEN.out]); (with_reducible refine (sleuthlaw44_known.calls kj3  t317 _ A14.out).mono ?_); rintro e w15 ⟨rfl, hb⟩; have n0_ := Aside0.mk (blk_below (g := gb314) (o := .cells #[.int .i64 a1_0, .int .i64 a1_1] 46 (0, 0)) qy9_1 hb); have n1_ := Aside0.mk (below_step qy9_0 hb); clear BK314; clear HB; have BK314 := n0_; have HB := n1_; clear n0_ n1_; (try clear hb); (try clear hb2); (try clear hk); (try clear hi)))
    repeat (go_quiet (first | (go_at_call 13; (try rw [← HLEN.out]); (with_reducible refine (sleuthlaw44_known.calls kj3  t317 _ A14.out).mono ?_); rintro e w15 ⟨rfl, hb⟩; have n0_ := Aside0.mk (blk_below (g := gb314) (o := .cells #[.int .i64 a1_0, .int .i64 a1_1] 46 (0, 0)) qy9_1 hb); have n1_ := Aside0.mk (below_step qy9_0 hb); clear BK314; clear HB; have BK314 := n0_; have HB := n1_; clear n0_ n1_; (try clear hb); (try clear hb2); (try clear hk); (try clear hi))); try go_wp2_with (first | (go_at_call 13; (try rw [← HLEN.out]); (with_reducible refine (sleuthlaw44_known.calls kj3  t317 _ A14.out).mono ?_); rintro e w15 ⟨rfl, hb⟩; have n0_ := Aside0.mk (blk_below (g := gb314) (o := .cells #[.int .i64 a1_0, .int .i64 a1_1] 46 (0, 0)) qy9_1 hb); have n1_ := Aside0.mk (below_step qy9_0 hb); clear BK314; clear HB; have BK314 := n0_; have HB := n1_; clear n0_ n1_; (try clear hb); (try clear hb2); (try clear hk); (try clear hi))))
    go_ret
    exact ⟨qy9_6, qy9_0⟩
   ·replace c13 := Bool.eq_false_iff.mpr c13
    subst c13
    have H1 : ((segmentation_Median.f kj3 l0 a1_0 a1_1).bind fun bt318 => ((segmentation_Cost.f kj3 l0 a1_0 a1_1).bind fun bt320 => (if a1_0 < 0 then (sleuthlaw44_SegmentationCosts.j1 kj3 l0 a2 a1_0 a1_1 bt318.1 bt318.2 bt320.1 bt320.2 true) else (if a1_0 ≥ a1_1 then (sleuthlaw44_SegmentationCosts.j1 kj3 l0 a2 a1_0 a1_1 bt318.1 bt318.2 bt320.1 bt320.2 true) else (sleuthlaw44_SegmentationCosts.j1 kj3 l0 a2 a1_0 a1_1 bt318.1 bt318.2 bt320.1 bt320.2 (decide (a1_1 > (l0.length : Int)))))))) = some r := by rw [if_neg (show ¬ (false = true) by decide)] at H; exact H
    clear H
    have H := H1
    clear H1
    replace H := Option.bind_eq_some_iff.mp H
    obtain ⟨⟨t318, t319⟩, A160, H⟩ := H
    replace H : ((segmentation_Cost.f kj3 l0 a1_0 a1_1).bind fun bt320 => (if a1_0 < 0 then (sleuthlaw44_SegmentationCosts.j1 kj3 l0 a2 a1_0 a1_1 t318 t319 bt320.1 bt320.2 true) else (if a1_0 ≥ a1_1 then (sleuthlaw44_SegmentationCosts.j1 kj3 l0 a2 a1_0 a1_1 t318 t319 bt320.1 bt320.2 true) else (sleuthlaw44_SegmentationCosts.j1 kj3 l0 a2 a1_0 a1_1 t318 t319 bt320.1 bt320.2 (decide (a1_1 > (l0.length : Int))))))) = some r := H
    have A16 := Aside0.mk A160
    clear A160
    replace H := Option.bind_eq_some_iff.mp H
    obtain ⟨⟨t320, t321⟩, A170, H⟩ := H
    replace H : (if a1_0 < 0 then (sleuthlaw44_SegmentationCosts.j1 kj3 l0 a2 a1_0 a1_1 t318 t319 t320 t321 true) else (if a1_0 ≥ a1_1 then (sleuthlaw44_SegmentationCosts.j1 kj3 l0 a2 a1_0 a1_1 t318 t319 t320 t321 true) else (sleuthlaw44_SegmentationCosts.j1 kj3 l0 a2 a1_0 a1_1 t318 t319 t320 t321 (decide (a1_1 > (l0.length : Int)))))) = some r := H
    have A17 := Aside0.mk A170
    clear A170
    have HC18 := Aside0.mk H
    clear H
    have hcz19_0 : wc.cell? ⟨gb314, 0, none⟩ = some (.int .i64 a1_0) := (blk_cell BK314.out 0).trans rfl
    have hcz19_1 : wc.cell? ⟨gb314, 1, none⟩ = some (.int .i64 a1_1) := (blk_cell BK314.out 1).trans rfl
    have hfz19_0 := blk_frozen BK314.out 0
    have hfz19_1 := blk_frozen BK314.out 1
    go_upto_region 6 with (first | (go_at_call 31; (try rw [← HLEN.out]); (with_reducible refine (segmentation_Median.calls kj3 _ _ l0 a1_0 a1_1 t318 t319 _ ?side1 ?side2 A16.out).mono ?_); (case side1 => exact qy9_4); (case side2 => exact HC0.out); rintro e w20 ⟨rfl, hb⟩; have n0_ := Aside0.mk (blk_below (g := gb314) (o := .cells #[.int .i64 a1_0, .int .i64 a1_1] 46 (0, 0)) qy9_1 hb); have n1_ := Aside0.mk (below_step qy9_0 hb); clear BK314; clear HB; have BK314 := n0_; have HB := n1_; clear n0_ n1_; (try clear hb); (try clear hb2); (try clear hk); (try clear hi)) | (go_at_call 32; (try rw [← HLEN.out]); (with_reducible refine (segmentation_Cost.calls kj3 _ _ l0 a1_0 a1_1 t320 t321 _ ?side1 ?side2 A17.out).mono ?_); (case side1 => exact qy9_4); (case side2 => exact HC0.out); rintro e w21 ⟨rfl, hb⟩; have n0_ := Aside0.mk (blk_below (g := gb314) (o := .cells #[.int .i64 a1_0, .int .i64 a1_1] 46 (0, 0)) qy9_1 hb); have n1_ := Aside0.mk (below_step qy9_0 hb); clear BK314; clear HB; have BK314 := n0_; have HB := n1_; clear n0_ n1_; (try clear hb); (try clear hb2); (try clear hk); (try clear hi)))
    repeat (go_quiet (first | (go_at_call 31; (try rw [← HLEN.out]); (with_reducible refine (segmentation_Median.calls kj3 _ _ l0 a1_0 a1_1 t318 t319 _ ?side1 ?side2 A16.out).mono ?_); (case side1 => exact qy9_4); (case side2 => exact HC0.out); rintro e w20 ⟨rfl, hb⟩; have n0_ := Aside0.mk (blk_below (g := gb314) (o := .cells #[.int .i64 a1_0, .int .i64 a1_1] 46 (0, 0)) qy9_1 hb); have n1_ := Aside0.mk (below_step qy9_0 hb); clear BK314; clear HB; have BK314 := n0_; have HB := n1_; clear n0_ n1_; (try clear hb); (try clear hb2); (try clear hk); (try clear hi)) | (go_at_call 32; (try rw [← HLEN.out]); (with_reducible refine (segmentation_Cost.calls kj3 _ _ l0 a1_0 a1_1 t320 t321 _ ?side1 ?side2 A17.out).mono ?_); (case side1 => exact qy9_4); (case side2 => exact HC0.out); rintro e w21 ⟨rfl, hb⟩; have n0_ := Aside0.mk (blk_below (g := gb314) (o := .cells #[.int .i64 a1_0, .int .i64 a1_1] 46 (0, 0)) qy9_1 hb); have n1_ := Aside0.mk (below_step qy9_0 hb); clear BK314; clear HB; have BK314 := n0_; have HB := n1_; clear n0_ n1_; (try clear hb); (try clear hb2); (try clear hk); (try clear hi))); go_upto_region 6 with (first | (go_at_call 31; (try rw [← HLEN.out]); (with_reducible refine (segmentation_Median.calls kj3 _ _ l0 a1_0 a1_1 t318 t319 _ ?side1 ?side2 A16.out).mono ?_); (case side1 => exact qy9_4); (case side2 => exact HC0.out); rintro e w20 ⟨rfl, hb⟩; have n0_ := Aside0.mk (blk_below (g := gb314) (o := .cells #[.int .i64 a1_0, .int .i64 a1_1] 46 (0, 0)) qy9_1 hb); have n1_ := Aside0.mk (below_step qy9_0 hb); clear BK314; clear HB; have BK314 := n0_; have HB := n1_; clear n0_ n1_; (try clear hb); (try clear hb2); (try clear hk); (try clear hi)) | (go_at_call 32; (try rw [← HLEN.out]); (with_reducible refine (segmentation_Cost.calls kj3 _ _ l0 a1_0 a1_1 t320 t321 _ ?side1 ?side2 A17.out).mono ?_); (case side1 => exact qy9_4); (case side2 => exact HC0.out); rintro e w21 ⟨rfl, hb⟩; have n0_ := Aside0.mk (blk_below (g := gb314) (o := .cells #[.int .i64 a1_0, .int .i64 a1_1] 46 (0, 0)) qy9_1 hb); have n1_ := Aside0.mk (below_step qy9_0 hb); clear BK314; clear HB; have BK314 := n0_; have HB := n1_; clear n0_ n1_; (try clear hb); (try clear hb2); (try clear hk); (try clear hi))))
    (try simp only [Act.put, List.setIfInBounds_toArray, List.set_cons_zero, List.set_cons_succ])
    go_cut [56] (fun v56 wc => ∃ (kq : Nat) (x56_17 : Bool), v56 = .bool x56_17 ∧ Aside0 (sleuthlaw44_SegmentationCosts.j1 kq l0 a2 a1_0 a1_1 t318 t319 t320 t321 x56_17 = some r) ∧ Aside0 (kq ≤ kj3) ∧ Aside0 (wc.heap[gb314]? = some (.cells #[.int .i64 a1_0, .int .i64 a1_1] 46 (0, 0))) ∧ Aside0 (Below w.heap.size w wc))
    case first =>
     have H := HC18.out
     clear HC18
     by_cases c22 : a1_0 < 0
     ·rw [if_pos c22] at H
      have c22b0 : decide (a1_0 < 0) = true := decide_eq_true c22
      clear c22
      (first | rw [c22b0] | (simp only [i64_w, i32_w]; rw [c22b0]) | skip)
      have H' := Aside0.mk H
      clear H
      go_wp2
      repeat (go_quiet (fail); try go_wp2)
      go_meet
      case rel => exact ⟨_, (true), qy9_7, H', ⟨by have := HJ3.out; first | omega | exact Nat.le_refl _⟩, ⟨qy9_1⟩, ⟨qy9_0⟩⟩
     ·rw [if_neg c22] at H
      have c22b0 : decide (a1_0 < 0) = false := decide_eq_false c22
      clear c22
      (first | rw [c22b0] | (simp only [i64_w, i32_w]; rw [c22b0]) | skip)
      by_cases c23 : a1_0 ≥ a1_1
      ·rw [if_pos c23] at H
       have c23b0 : decide (a1_1 ≤ a1_0) = true := decide_eq_true c23
       clear c23
       have H' := Aside0.mk H
       clear H
       go_wp2
       repeat (go_quiet (fail); try go_wp2)
       go_meet
       case rel => exact ⟨_, (true), qy9_7, H', ⟨by have := HJ3.out; first | omega | exact Nat.le_refl _⟩, ⟨qy9_1⟩, ⟨qy9_0⟩⟩
      ·rw [if_neg c23] at H
       have c23b0 : decide (a1_1 ≤ a1_0) = false := decide_eq_false c23
       clear c23
       have H' := Aside0.mk H
       clear H
       go_wp2
       repeat (go_quiet (fail); try go_wp2)
       go_meet
       case rel => exact ⟨_, (decide (a1_1 > (l0.length : Int))), qy9_7, H', ⟨by have := HJ3.out; first | omega | exact Nat.le_refl _⟩, ⟨qy9_1⟩, ⟨qy9_0⟩⟩
    case rest =>
     clear HC18
     try clear c1
     try clear c2
     try clear p2
     try clear c7
     try clear c8
     try clear c8b0
     try clear c8b1
     try clear c10
     try clear c13
     try clear c22
     try clear c22b0
     try clear c23
     try clear c23b0
     try clear hcz19_0
     try clear hcz19_1
     try clear hfz19_0
     try clear hfz19_1
     try clear p2
     obtain ⟨kq, x56_17, rfl, HA, HJ17, BK314, HB⟩ := hcut
     cases kq with
     | zero => exact absurd HA.out (by simp [sleuthlaw44_SegmentationCosts.j1])
     | succ kj17 =>
      have H := HA.out
      clear HA
      simp only [sleuthlaw44_SegmentationCosts.j1] at H
      by_cases c24 : x56_17 = true
      ·subst c24
       have H1 : (if t318 = 0 then (if t319 = 2 then (if t320 = 0 then (some (t321 == 2)) else (some false)) else (some false)) else (some false)) = some r := by rw [if_pos rfl] at H; exact H
       clear H
       have H := H1
       clear H1
       by_cases c25 : t318 = 0
       ·rw [if_pos c25] at H
        have c25b0 : (t318 == 0) = true := beq_iff_eq.mpr c25
        have c25b1 : (t318 != 0) = false := bne_eq_false_iff_eq.mpr c25
        clear c25
        by_cases c26 : t319 = 2
        ·rw [if_pos c26] at H
         have c26b0 : (t319 == 2) = true := beq_iff_eq.mpr c26
         have c26b1 : (t319 != 2) = false := bne_eq_false_iff_eq.mpr c26
         clear c26
         by_cases c27 : t320 = 0
         ·rw [if_pos c27] at H
          have c27b0 : (t320 == 0) = true := beq_iff_eq.mpr c27
          have c27b1 : (t320 != 0) = false := bne_eq_false_iff_eq.mpr c27
          clear c27
          obtain rfl := Option.some.inj H
          go_wp2
          repeat (go_quiet (fail); try go_wp2)
          go_ret
          exact ⟨qy9_6, qy9_0⟩
         ·rw [if_neg c27] at H
          have c27b0 : (t320 == 0) = false := beq_eq_false_iff_ne.mpr c27
          have c27b1 : (t320 != 0) = true := bne_iff_ne.mpr c27
          obtain rfl := Option.some.inj H
          go_wp2
          repeat (go_quiet (fail); try go_wp2)
          go_ret
          exact ⟨qy9_6, qy9_0⟩
        ·rw [if_neg c26] at H
         have c26b0 : (t319 == 2) = false := beq_eq_false_iff_ne.mpr c26
         have c26b1 : (t319 != 2) = true := bne_iff_ne.mpr c26
         obtain rfl := Option.some.inj H
         go_wp2
         repeat (go_quiet (fail); try go_wp2)
         go_ret
         exact ⟨qy9_6, qy9_0⟩
       ·rw [if_neg c25] at H
        have c25b0 : (t318 == 0) = false := beq_eq_false_iff_ne.mpr c25
        have c25b1 : (t318 != 0) = true := bne_iff_ne.mpr c25
        obtain rfl := Option.some.inj H
        go_wp2
        repeat (go_quiet (fail); try go_wp2)
        go_ret
        exact ⟨qy9_6, qy9_0⟩
      ·replace c24 := Bool.eq_false_iff.mpr c24
       subst c24
       have H1 : (if a2 > (-2199023255552) then (if a2 < 2199023255552 then (if 0 ≤ a1_0 then (if a1_0 ≤ a1_1 then (if a1_1 ≤ (l0.length : Int) then ((sleuthlaw44_deviation.f kj17 ((l0.take (a1_1 : Int).toNat).drop (a1_0 : Int).toNat) a2).bind fun t323 => (sleuthlaw44_SegmentationCosts.j2 kj17 l0 a1_0 a1_1 t318 t319 t320 t321 (decide (t323 < t320)))) else (none)) else (none)) else (none)) else (sleuthlaw44_SegmentationCosts.j2 kj17 l0 a1_0 a1_1 t318 t319 t320 t321 false)) else (sleuthlaw44_SegmentationCosts.j2 kj17 l0 a1_0 a1_1 t318 t319 t320 t321 false)) = some r := by rw [if_neg (show ¬ (false = true) by decide)] at H; exact H
       clear H
       have H := H1
       clear H1
       have HC28 := Aside0.mk H
       clear H
       go_upto_region 8 with (fail)
       repeat (go_quiet (fail); go_upto_region 8 with (fail))
       go_cut [86] (fun v86 wc => ∃ (kq : Nat) (x86_27 : Bool), v86 = .bool x86_27 ∧ Aside0 (sleuthlaw44_SegmentationCosts.j2 kq l0 a1_0 a1_1 t318 t319 t320 t321 x86_27 = some r) ∧ Aside0 (kq ≤ kj17) ∧ Aside0 (wc.heap[gb314]? = some (.cells #[.int .i64 a1_0, .int .i64 a1_1] 46 (0, 0))) ∧ Aside0 (Below w.heap.size w wc))
       case first =>
        have H := HC28.out
        clear HC28
        by_cases c29 : a2 > (-2199023255552)
        ·rw [if_pos c29] at H
         have c29b0 : decide ((-2199023255552) < a2) = true := decide_eq_true c29
         clear c29
         (first | rw [c29b0] | (simp only [i64_w, i32_w]; rw [c29b0]) | skip)
         by_cases c30 : a2 < 2199023255552
         ·rw [if_pos c30] at H
          have c30b0 : decide (a2 < 2199023255552) = true := decide_eq_true c30
          clear c30
          by_cases c31 : 0 ≤ a1_0
          ·rw [if_pos c31] at H
           have c31b0 := eq_true c31
           have c31b1 : decide (0 ≤ a1_0) = true := decide_eq_true c31
           clear c31
           by_cases c32 : a1_0 ≤ a1_1
           ·rw [if_pos c32] at H
            have c32b0 := eq_true c32
            have c32b1 : decide (a1_0 ≤ a1_1) = true := decide_eq_true c32
            clear c32
            by_cases c33 : a1_1 ≤ (l0.length : Int)
            ·rw [if_pos c33] at H
             have c33b0 := eq_true c33
             have c33b1 : decide (a1_1 ≤ (l0.length : Int)) = true := decide_eq_true c33
             clear c33
             replace H := Option.bind_eq_some_iff.mp H
             obtain ⟨t323, A340, H⟩ := H
             replace H : (sleuthlaw44_SegmentationCosts.j2 kj17 l0 a1_0 a1_1 t318 t319 t320 t321 (decide (t323 < t320))) = some r := H
             have A34 := Aside0.mk A340
             clear A340
             have H' := Aside0.mk H
             clear H
             obtain ⟨i035, hi035, _, hsz35, _⟩ := info_parts info3
             obtain ⟨A35, hcut35, hA35, hC35⟩ := print_mid_of (P := Try.prog) (Value.int .i64) 0 24 3 .i64 .i64 Try.underlying24 hi035 hsz35 A0 c0 l0 a1_0 a1_1 (of_decide_eq_true qy9_3) qy9_10 (of_decide_eq_true qy9_3) HC0.out
             have HR322 := Aside0.mk (Kd.C_of_reads (h1 := fun _ => rfl) (hA35 _ (Kd.reads_of_C HR0.out)))
             have HC322 := Aside0.mk hC35
             clear hA35 hC35 hi035 hsz35
             have HLEN := Aside0.mk (show ((l0.take (a1_1 : Int).toNat).drop (a1_0 : Int).toNat).length = (a1_1 : Int).toNat - (a1_0 : Int).toNat by have q_ : a1_1 ≤ (l0.length : Int) := of_decide_eq_true qy9_3; rw [List.length_drop, List.length_take, Nat.min_eq_left (by omega)])
             go_wp2_with (first | (go_at_call 33; (try rw [← HLEN.out]); (with_reducible refine (sleuthlaw44_deviation.calls kj17 _ _ ((l0.take (a1_1 : Int).toNat).drop (a1_0 : Int).toNat) a2 t323 _ ?side1 ?side2 A34.out).mono ?_); (case side1 => exact qy9_8); (case side2 => exact HC322.out); rintro e w36 ⟨rfl, hb⟩; have n0_ := Aside0.mk (blk_below (g := gb314) (o := .cells #[.int .i64 a1_0, .int .i64 a1_1] 46 (0, 0)) qy9_1 hb); have n1_ := Aside0.mk (below_step qy9_0 hb); clear BK314; clear HB; have BK314 := n0_; have HB := n1_; clear n0_ n1_; (try clear hb); (try clear hb2); (try clear hk); (try clear hi)))
             repeat (go_quiet (first | (go_at_call 33; (try rw [← HLEN.out]); (with_reducible refine (sleuthlaw44_deviation.calls kj17 _ _ ((l0.take (a1_1 : Int).toNat).drop (a1_0 : Int).toNat) a2 t323 _ ?side1 ?side2 A34.out).mono ?_); (case side1 => exact qy9_8); (case side2 => exact HC322.out); rintro e w36 ⟨rfl, hb⟩; have n0_ := Aside0.mk (blk_below (g := gb314) (o := .cells #[.int .i64 a1_0, .int .i64 a1_1] 46 (0, 0)) qy9_1 hb); have n1_ := Aside0.mk (below_step qy9_0 hb); clear BK314; clear HB; have BK314 := n0_; have HB := n1_; clear n0_ n1_; (try clear hb); (try clear hb2); (try clear hk); (try clear hi))); try go_wp2_with (first | (go_at_call 33; (try rw [← HLEN.out]); (with_reducible refine (sleuthlaw44_deviation.calls kj17 _ _ ((l0.take (a1_1 : Int).toNat).drop (a1_0 : Int).toNat) a2 t323 _ ?side1 ?side2 A34.out).mono ?_); (case side1 => exact qy9_8); (case side2 => exact HC322.out); rintro e w36 ⟨rfl, hb⟩; have n0_ := Aside0.mk (blk_below (g := gb314) (o := .cells #[.int .i64 a1_0, .int .i64 a1_1] 46 (0, 0)) qy9_1 hb); have n1_ := Aside0.mk (below_step qy9_0 hb); clear BK314; clear HB; have BK314 := n0_; have HB := n1_; clear n0_ n1_; (try clear hb); (try clear hb2); (try clear hk); (try clear hi))))
             go_meet
             case rel => exact ⟨_, (decide (t323 < t320)), qy9_7, H', ⟨qy9_11⟩, ⟨qy9_1⟩, ⟨qy9_0⟩⟩
            ·rw [if_neg c33] at H
             exact absurd H (by simp)
           ·rw [if_neg c32] at H
            exact absurd H (by simp)
          ·rw [if_neg c31] at H
           exact absurd H (by simp)
         ·rw [if_neg c30] at H
          have c30b0 : decide (a2 < 2199023255552) = false := decide_eq_false c30
          clear c30
          have H' := Aside0.mk H
          clear H
          go_wp2
          repeat (go_quiet (fail); try go_wp2)
          go_meet
          case rel => exact ⟨_, (false), qy9_7, H', ⟨qy9_11⟩, ⟨qy9_1⟩, ⟨qy9_0⟩⟩
        ·rw [if_neg c29] at H
         have c29b0 : decide ((-2199023255552) < a2) = false := decide_eq_false c29
         clear c29
         (first | rw [c29b0] | (simp only [i64_w, i32_w]; rw [c29b0]) | skip)
         have H' := Aside0.mk H
         clear H
         go_wp2
         repeat (go_quiet (fail); try go_wp2)
         go_meet
         case rel => exact ⟨_, (false), qy9_7, H', ⟨qy9_11⟩, ⟨qy9_1⟩, ⟨qy9_0⟩⟩
       case rest =>
        clear HC28
        try clear c1
        try clear c2
        try clear p2
        try clear c3
        try clear c7
        try clear c8
        try clear c8b0
        try clear c8b1
        try clear c10
        try clear c13
        try clear c22
        try clear c22b0
        try clear c23
        try clear c23b0
        try clear c24
        try clear c25
        try clear c25b0
        try clear c25b1
        try clear c26
        try clear c26b0
        try clear c26b1
        try clear c27
        try clear c27b0
        try clear c27b1
        try clear c29
        try clear c29b0
        try clear c30
        try clear c30b0
        try clear c31
        try clear c31b0
        try clear c31b1
        try clear c32
        try clear c32b0
        try clear c32b1
        try clear c33
        try clear c33b0
        try clear c33b1
        try clear hcz19_0
        try clear hcz19_1
        try clear hfz19_0
        try clear hfz19_1
        try clear p2
        obtain ⟨kq, x86_27, rfl, HA, HJ27, BK314, HB⟩ := hcut
        cases kq with
        | zero => exact absurd HA.out (by simp [sleuthlaw44_SegmentationCosts.j2])
        | succ kj27 =>
         have H := HA.out
         clear HA
         simp only [sleuthlaw44_SegmentationCosts.j2] at H
         by_cases c37 : x86_27 = true
         ·subst c37
          have H1 : (some false) = some r := by rw [if_pos rfl] at H; exact H
          clear H
          have H := H1
          clear H1
          obtain rfl := Option.some.inj H
          go_wp2
          repeat (go_quiet (fail); try go_wp2)
          go_ret
          exact ⟨qy9_6, qy9_0⟩
         ·replace c37 := Bool.eq_false_iff.mpr c37
          subst c37
          have H1 : (if t319 = 0 then (if 0 ≤ a1_0 then (if a1_0 ≤ a1_1 then (if a1_1 ≤ (l0.length : Int) then ((sleuthlaw44_median.f kj27 ((l0.take (a1_1 : Int).toNat).drop (a1_0 : Int).toNat)).bind fun t325 => (if t318 = t325 then (if t321 = 0 then ((sleuthlaw44_cost.f kj27 ((l0.take (a1_1 : Int).toNat).drop (a1_0 : Int).toNat)).bind fun t327 => (some (t320 == t327))) else (some false)) else (some false))) else (none)) else (none)) else (none)) else (some false)) = some r := by rw [if_neg (show ¬ (false = true) by decide)] at H; exact H
          clear H
          have H := H1
          clear H1
          by_cases c38 : t319 = 0
          ·rw [if_pos c38] at H
           have c38b0 : (t319 == 0) = true := beq_iff_eq.mpr c38
           have c38b1 : (t319 != 0) = false := bne_eq_false_iff_eq.mpr c38
           clear c38
           by_cases c39 : 0 ≤ a1_0
           ·rw [if_pos c39] at H
            have c39b0 := eq_true c39
            have c39b1 : decide (0 ≤ a1_0) = true := decide_eq_true c39
            clear c39
            by_cases c40 : a1_0 ≤ a1_1
            ·rw [if_pos c40] at H
             have c40b0 := eq_true c40
             have c40b1 : decide (a1_0 ≤ a1_1) = true := decide_eq_true c40
             clear c40
             by_cases c41 : a1_1 ≤ (l0.length : Int)
             ·rw [if_pos c41] at H
              have c41b0 := eq_true c41
              have c41b1 : decide (a1_1 ≤ (l0.length : Int)) = true := decide_eq_true c41
              clear c41
              replace H := Option.bind_eq_some_iff.mp H
              obtain ⟨t325, A420, H⟩ := H
              replace H : (if t318 = t325 then (if t321 = 0 then ((sleuthlaw44_cost.f kj27 ((l0.take (a1_1 : Int).toNat).drop (a1_0 : Int).toNat)).bind fun t327 => (some (t320 == t327))) else (some false)) else (some false)) = some r := H
              have A42 := Aside0.mk A420
              clear A420
              by_cases c43 : t318 = t325
              ·rw [if_pos c43] at H
               have c43b0 : (t318 == t325) = true := beq_iff_eq.mpr c43
               have c43b1 : (t318 != t325) = false := bne_eq_false_iff_eq.mpr c43
               clear c43
               by_cases c44 : t321 = 0
               ·rw [if_pos c44] at H
                have c44b0 : (t321 == 0) = true := beq_iff_eq.mpr c44
                have c44b1 : (t321 != 0) = false := bne_eq_false_iff_eq.mpr c44
                clear c44
                have c45b0 := eq_true (of_decide_eq_true qy9_3 : 0 ≤ a1_0)
                have c46b0 := eq_true (of_decide_eq_true qy9_3 : a1_0 ≤ a1_1)
                have c47b0 := eq_true (of_decide_eq_true qy9_3 : a1_1 ≤ (l0.length : Int))
                replace H := Option.bind_eq_some_iff.mp H
                obtain ⟨t327, A480, H⟩ := H
                replace H : (some (t320 == t327)) = some r := H
                have A48 := Aside0.mk A480
                clear A480
                obtain rfl := Option.some.inj H
                obtain ⟨i049, hi049, _, hsz49, _⟩ := info_parts info3
                obtain ⟨A49, hcut49, hA49, hC49⟩ := print_mid_of (P := Try.prog) (Value.int .i64) 0 24 3 .i64 .i64 Try.underlying24 hi049 hsz49 A0 c0 l0 a1_0 a1_1 (of_decide_eq_true qy9_3) qy9_10 (of_decide_eq_true qy9_3) HC0.out
                have HR324 := Aside0.mk (Kd.C_of_reads (h1 := fun _ => rfl) (hA49 _ (Kd.reads_of_C HR0.out)))
                have HC324 := Aside0.mk hC49
                clear hA49 hC49 hi049 hsz49
                have HLEN := Aside0.mk (show ((l0.take (a1_1 : Int).toNat).drop (a1_0 : Int).toNat).length = (a1_1 : Int).toNat - (a1_0 : Int).toNat by have q_ : a1_1 ≤ (l0.length : Int) := of_decide_eq_true qy9_3; rw [List.length_drop, List.length_take, Nat.min_eq_left (by omega)])
                go_wp2_with (first | (go_at_call 30; (try rw [← HLEN.out]); (with_reducible refine (sleuthlaw44_median.calls kj27 _ _ ((l0.take (a1_1 : Int).toNat).drop (a1_0 : Int).toNat) t325 _ ?side1 ?side2 A42.out).mono ?_); (case side1 => exact qy9_2); (case side2 => exact HC324.out); rintro e w' ⟨rfl, ⟨nd, rfl⟩⟩; (try first | exact ⟨rfl, _, World.drewN_drewN _ _ _⟩ | exact ⟨rfl, _, Eq.trans (World.drewN_drewN _ _ _) (congrArg (World.drewN _) (Nat.add_assoc _ _ _))⟩); obtain ⟨i050, hi050, _, hsz50, _⟩ := info_parts info3; obtain ⟨A50, hcut50, hA50, hC50⟩ := print_mid_of (P := Try.prog) (Value.int .i64) 0 24 3 .i64 .i64 Try.underlying24 hi050 hsz50 A0 c0 l0 a1_0 a1_1 (of_decide_eq_true qy9_3) qy9_10 (of_decide_eq_true qy9_3) HC0.out; have HR326 := Aside0.mk (Kd.C_of_reads (h1 := fun _ => rfl) (hA50 _ (Kd.reads_of_C HR0.out))); have HC326 := Aside0.mk hC50; clear hA50 hC50 hi050 hsz50) | (go_at_call 34; (try rw [← HLEN.out]); (with_reducible refine (sleuthlaw44_cost.calls kj27 _ _ ((l0.take (a1_1 : Int).toNat).drop (a1_0 : Int).toNat) t327 _ ?side1 ?side2 A48.out).mono ?_); (case side1 => exact qy9_9); (case side2 => exact HC324.out); rintro e w51 ⟨rfl, hb⟩; have n0_ := Aside0.mk (blk_below (g := gb314) (o := .cells #[.int .i64 a1_0, .int .i64 a1_1] 46 (0, 0)) qy9_1 hb); have n1_ := Aside0.mk (below_step qy9_0 hb); clear BK314; clear HB; have BK314 := n0_; have HB := n1_; clear n0_ n1_; (try clear hb); (try clear hb2); (try clear hk); (try clear hi)))
                repeat (go_quiet (first | (go_at_call 30; (try rw [← HLEN.out]); (with_reducible refine (sleuthlaw44_median.calls kj27 _ _ ((l0.take (a1_1 : Int).toNat).drop (a1_0 : Int).toNat) t325 _ ?side1 ?side2 A42.out).mono ?_); (case side1 => exact qy9_2); (case side2 => exact HC324.out); rintro e w' ⟨rfl, ⟨nd, rfl⟩⟩; (try first | exact ⟨rfl, _, World.drewN_drewN _ _ _⟩ | exact ⟨rfl, _, Eq.trans (World.drewN_drewN _ _ _) (congrArg (World.drewN _) (Nat.add_assoc _ _ _))⟩); obtain ⟨i050, hi050, _, hsz50, _⟩ := info_parts info3; obtain ⟨A50, hcut50, hA50, hC50⟩ := print_mid_of (P := Try.prog) (Value.int .i64) 0 24 3 .i64 .i64 Try.underlying24 hi050 hsz50 A0 c0 l0 a1_0 a1_1 (of_decide_eq_true qy9_3) qy9_10 (of_decide_eq_true qy9_3) HC0.out; have HR326 := Aside0.mk (Kd.C_of_reads (h1 := fun _ => rfl) (hA50 _ (Kd.reads_of_C HR0.out))); have HC326 := Aside0.mk hC50; clear hA50 hC50 hi050 hsz50) | (go_at_call 34; (try rw [← HLEN.out]); (with_reducible refine (sleuthlaw44_cost.calls kj27 _ _ ((l0.take (a1_1 : Int).toNat).drop (a1_0 : Int).toNat) t327 _ ?side1 ?side2 A48.out).mono ?_); (case side1 => exact qy9_9); (case side2 => exact HC324.out); rintro e w51 ⟨rfl, hb⟩; have n0_ := Aside0.mk (blk_below (g := gb314) (o := .cells #[.int .i64 a1_0, .int .i64 a1_1] 46 (0, 0)) qy9_1 hb); have n1_ := Aside0.mk (below_step qy9_0 hb); clear BK314; clear HB; have BK314 := n0_; have HB := n1_; clear n0_ n1_; (try clear hb); (try clear hb2); (try clear hk); (try clear hi))); try go_wp2_with (first | (go_at_call 30; (try rw [← HLEN.out]); (with_reducible refine (sleuthlaw44_median.calls kj27 _ _ ((l0.take (a1_1 : Int).toNat).drop (a1_0 : Int).toNat) t325 _ ?side1 ?side2 A42.out).mono ?_); (case side1 => exact qy9_2); (case side2 => exact HC324.out); rintro e w' ⟨rfl, ⟨nd, rfl⟩⟩; (try first | exact ⟨rfl, _, World.drewN_drewN _ _ _⟩ | exact ⟨rfl, _, Eq.trans (World.drewN_drewN _ _ _) (congrArg (World.drewN _) (Nat.add_assoc _ _ _))⟩); obtain ⟨i050, hi050, _, hsz50, _⟩ := info_parts info3; obtain ⟨A50, hcut50, hA50, hC50⟩ := print_mid_of (P := Try.prog) (Value.int .i64) 0 24 3 .i64 .i64 Try.underlying24 hi050 hsz50 A0 c0 l0 a1_0 a1_1 (of_decide_eq_true qy9_3) qy9_10 (of_decide_eq_true qy9_3) HC0.out; have HR326 := Aside0.mk (Kd.C_of_reads (h1 := fun _ => rfl) (hA50 _ (Kd.reads_of_C HR0.out))); have HC326 := Aside0.mk hC50; clear hA50 hC50 hi050 hsz50) | (go_at_call 34; (try rw [← HLEN.out]); (with_reducible refine (sleuthlaw44_cost.calls kj27 _ _ ((l0.take (a1_1 : Int).toNat).drop (a1_0 : Int).toNat) t327 _ ?side1 ?side2 A48.out).mono ?_); (case side1 => exact qy9_9); (case side2 => exact HC324.out); rintro e w51 ⟨rfl, hb⟩; have n0_ := Aside0.mk (blk_below (g := gb314) (o := .cells #[.int .i64 a1_0, .int .i64 a1_1] 46 (0, 0)) qy9_1 hb); have n1_ := Aside0.mk (below_step qy9_0 hb); clear BK314; clear HB; have BK314 := n0_; have HB := n1_; clear n0_ n1_; (try clear hb); (try clear hb2); (try clear hk); (try clear hi))))
                go_ret
                exact ⟨qy9_6, qy9_0⟩
               ·rw [if_neg c44] at H
                have c44b0 : (t321 == 0) = false := beq_eq_false_iff_ne.mpr c44
                have c44b1 : (t321 != 0) = true := bne_iff_ne.mpr c44
                obtain rfl := Option.some.inj H
                obtain ⟨i052, hi052, _, hsz52, _⟩ := info_parts info3
                obtain ⟨A52, hcut52, hA52, hC52⟩ := print_mid_of (P := Try.prog) (Value.int .i64) 0 24 3 .i64 .i64 Try.underlying24 hi052 hsz52 A0 c0 l0 a1_0 a1_1 (of_decide_eq_true qy9_3) qy9_10 (of_decide_eq_true qy9_3) HC0.out
                have HR324 := Aside0.mk (Kd.C_of_reads (h1 := fun _ => rfl) (hA52 _ (Kd.reads_of_C HR0.out)))
                have HC324 := Aside0.mk hC52
                clear hA52 hC52 hi052 hsz52
                have HLEN := Aside0.mk (show ((l0.take (a1_1 : Int).toNat).drop (a1_0 : Int).toNat).length = (a1_1 : Int).toNat - (a1_0 : Int).toNat by have q_ : a1_1 ≤ (l0.length : Int) := of_decide_eq_true qy9_3; rw [List.length_drop, List.length_take, Nat.min_eq_left (by omega)])
                go_wp2_with (first | (go_at_call 30; (try rw [← HLEN.out]); (with_reducible refine (sleuthlaw44_median.calls kj27 _ _ ((l0.take (a1_1 : Int).toNat).drop (a1_0 : Int).toNat) t325 _ ?side1 ?side2 A42.out).mono ?_); (case side1 => exact qy9_2); (case side2 => exact HC324.out); rintro e w' ⟨rfl, ⟨nd, rfl⟩⟩; (try first | exact ⟨rfl, _, World.drewN_drewN _ _ _⟩ | exact ⟨rfl, _, Eq.trans (World.drewN_drewN _ _ _) (congrArg (World.drewN _) (Nat.add_assoc _ _ _))⟩)))
                repeat (go_quiet (first | (go_at_call 30; (try rw [← HLEN.out]); (with_reducible refine (sleuthlaw44_median.calls kj27 _ _ ((l0.take (a1_1 : Int).toNat).drop (a1_0 : Int).toNat) t325 _ ?side1 ?side2 A42.out).mono ?_); (case side1 => exact qy9_2); (case side2 => exact HC324.out); rintro e w' ⟨rfl, ⟨nd, rfl⟩⟩; (try first | exact ⟨rfl, _, World.drewN_drewN _ _ _⟩ | exact ⟨rfl, _, Eq.trans (World.drewN_drewN _ _ _) (congrArg (World.drewN _) (Nat.add_assoc _ _ _))⟩))); try go_wp2_with (first | (go_at_call 30; (try rw [← HLEN.out]); (with_reducible refine (sleuthlaw44_median.calls kj27 _ _ ((l0.take (a1_1 : Int).toNat).drop (a1_0 : Int).toNat) t325 _ ?side1 ?side2 A42.out).mono ?_); (case side1 => exact qy9_2); (case side2 => exact HC324.out); rintro e w' ⟨rfl, ⟨nd, rfl⟩⟩; (try first | exact ⟨rfl, _, World.drewN_drewN _ _ _⟩ | exact ⟨rfl, _, Eq.trans (World.drewN_drewN _ _ _) (congrArg (World.drewN _) (Nat.add_assoc _ _ _))⟩))))
                go_ret
                exact ⟨qy9_6, qy9_0⟩
              ·rw [if_neg c43] at H
               have c43b0 : (t318 == t325) = false := beq_eq_false_iff_ne.mpr c43
               have c43b1 : (t318 != t325) = true := bne_iff_ne.mpr c43
               obtain rfl := Option.some.inj H
               obtain ⟨i053, hi053, _, hsz53, _⟩ := info_parts info3
               obtain ⟨A53, hcut53, hA53, hC53⟩ := print_mid_of (P := Try.prog) (Value.int .i64) 0 24 3 .i64 .i64 Try.underlying24 hi053 hsz53 A0 c0 l0 a1_0 a1_1 (of_decide_eq_true qy9_3) qy9_10 (of_decide_eq_true qy9_3) HC0.out
               have HR324 := Aside0.mk (Kd.C_of_reads (h1 := fun _ => rfl) (hA53 _ (Kd.reads_of_C HR0.out)))
               have HC324 := Aside0.mk hC53
               clear hA53 hC53 hi053 hsz53
               have HLEN := Aside0.mk (show ((l0.take (a1_1 : Int).toNat).drop (a1_0 : Int).toNat).length = (a1_1 : Int).toNat - (a1_0 : Int).toNat by have q_ : a1_1 ≤ (l0.length : Int) := of_decide_eq_true qy9_3; rw [List.length_drop, List.length_take, Nat.min_eq_left (by omega)])
               go_wp2_with (first | (go_at_call 30; (try rw [← HLEN.out]); (with_reducible refine (sleuthlaw44_median.calls kj27 _ _ ((l0.take (a1_1 : Int).toNat).drop (a1_0 : Int).toNat) t325 _ ?side1 ?side2 A42.out).mono ?_); (case side1 => exact qy9_2); (case side2 => exact HC324.out); rintro e w' ⟨rfl, ⟨nd, rfl⟩⟩; (try first | exact ⟨rfl, _, World.drewN_drewN _ _ _⟩ | exact ⟨rfl, _, Eq.trans (World.drewN_drewN _ _ _) (congrArg (World.drewN _) (Nat.add_assoc _ _ _))⟩)))
               repeat (go_quiet (first | (go_at_call 30; (try rw [← HLEN.out]); (with_reducible refine (sleuthlaw44_median.calls kj27 _ _ ((l0.take (a1_1 : Int).toNat).drop (a1_0 : Int).toNat) t325 _ ?side1 ?side2 A42.out).mono ?_); (case side1 => exact qy9_2); (case side2 => exact HC324.out); rintro e w' ⟨rfl, ⟨nd, rfl⟩⟩; (try first | exact ⟨rfl, _, World.drewN_drewN _ _ _⟩ | exact ⟨rfl, _, Eq.trans (World.drewN_drewN _ _ _) (congrArg (World.drewN _) (Nat.add_assoc _ _ _))⟩))); try go_wp2_with (first | (go_at_call 30; (try rw [← HLEN.out]); (with_reducible refine (sleuthlaw44_median.calls kj27 _ _ ((l0.take (a1_1 : Int).toNat).drop (a1_0 : Int).toNat) t325 _ ?side1 ?side2 A42.out).mono ?_); (case side1 => exact qy9_2); (case side2 => exact HC324.out); rintro e w' ⟨rfl, ⟨nd, rfl⟩⟩; (try first | exact ⟨rfl, _, World.drewN_drewN _ _ _⟩ | exact ⟨rfl, _, Eq.trans (World.drewN_drewN _ _ _) (congrArg (World.drewN _) (Nat.add_assoc _ _ _))⟩))))
               go_ret
               exact ⟨qy9_6, qy9_0⟩
             ·rw [if_neg c41] at H
              exact absurd H (by simp)
            ·rw [if_neg c40] at H
             exact absurd H (by simp)
           ·rw [if_neg c39] at H
            exact absurd H (by simp)
          ·rw [if_neg c38] at H
           have c38b0 : (t319 == 0) = false := beq_eq_false_iff_ne.mpr c38
           have c38b1 : (t319 != 0) = true := bne_iff_ne.mpr c38
           obtain rfl := Option.some.inj H
           go_wp2
           repeat (go_quiet (fail); try go_wp2)
           go_ret
           exact ⟨qy9_6, qy9_0⟩

end Go.Proofs.Ytiimanpmidnffaa.Q
