-- The walk of SegmentationChecks. Laid by myprint.py (a program of this session's, over the kit's printer)
import Derived.Test.YtiimanpmidnffaaQx0
import Derived.Test.YtiimanpmidnffaaQx1
import Derived.Test.YtiimanpmidnffaaQx5
import Derived.Test.YtiimanpmidnffaaQx6
import Derived.Test.YtiimanpmidnffaaQx7
import Derived.Test.YtiimanpmidnffaaQx8
import Derived.Test.YtiimanpmidnffaaQx16
import Derived.Test.YtiimanpmidnffaaQy5
import Derived.Test.YtiimanpmidnffaaQy6
import Derived.Test.YtiimanpmidnffaaQy8
namespace Go.Proofs.Ytiimanpmidnffaa.Q
open Go.RowKit Go.Proofs.YtiimanpmidnffaaW.PrintWords Go.Proofs.YtiimanpmidnffaaW.PrintLast Go.Proofs.YtiimanpmidnffaaW.PrintMore
attribute [local go_sem] max2_int min2_int max_two min_two max_three min_three max_four min_four   -- for this text's walks alone
set_option linter.unusedVariables false
set_option linter.unusedSimpArgs false

theorem qyd_0 {p : Prop} (h : p := by repeat (first | (with_reducible first | exact HB.out | apply below_alloc | apply pw_below_drewN | apply below_drew1 | refine below_set ?_ GE375.out | refine below_set ?_ GE382.out) | exact HB.out)) : p := h
theorem qyd_1 {p : Prop} (h : p := by repeat (first | (with_reducible first | exact HB.out | apply below_alloc | apply pw_below_drewN | apply below_drew1) | exact HB.out)) : p := h
theorem qyd_2 {p : Prop} (h : p := by (try simp only [List.map_toArray, List.map_cons, List.map_nil]); first | done | rfl | (simp only [List.length_drop, List.length_take]; rfl)) : p := h
theorem qyd_3 {p : Prop} (h : p := by (with_reducible repeat (first | refine blk_drewN ?_ _ | refine blk_drew ?_ | refine blk_alloc ?_ _)); exact BK375.out) : p := h
theorem qyd_4 {p : Prop} (h : p := by repeat (first | exact (Kd.C_below HR0.out HB.out) | (with_reducible refine Kd.C_alloc ?_ _) | (with_reducible refine Kd.C_drewN ?_ _) | (with_reducible refine Kd.C_drew ?_))) : p := h
theorem qyd_5 {p : Prop} (h : p := by (with_reducible repeat (first | refine blk_drewN ?_ _ | refine blk_drew ?_ | refine blk_alloc ?_ _)); exact BK382.out) : p := h
theorem qyd_6 {p : Prop} (h : p := by repeat (first | (with_reducible first | exact HB.out | apply below_alloc | apply pw_below_drewN | apply below_drew1 | refine below_set ?_ GE375.out) | exact HB.out)) : p := h
theorem qyd_7 {p : Prop} (h : p := by (with_reducible repeat (first | apply Kd.R_alloc | apply Kd.R_drewN | apply Kd.R_drew)); exact Kd.R_mono HO372.out (fun _ hk => hk.1.2)) : p := h
theorem qyd_8 {p : Prop} (h : p := by (with_reducible repeat (first | apply Kd.R_alloc | apply Kd.R_drewN | apply Kd.R_drew)); exact Kd.R_mono HO378.out (fun _ hk => hk.1.2)) : p := h
theorem qyd_9 {p : Prop} (h : p := by (with_reducible repeat (first | apply Kd.R_alloc | apply Kd.R_drewN | apply Kd.R_drew)); exact HO372.out) : p := h
theorem qyd_10 {p : Prop} (h : p := by (with_reducible repeat (first | apply Kd.R_alloc | apply Kd.R_drewN | apply Kd.R_drew)); exact HO378.out) : p := h
theorem qyd_11 {p : Prop} (h : p := by (with_reducible repeat (first | apply Kd.R_alloc | apply Kd.R_drewN | apply Kd.R_drew)); exact HO386.out) : p := h
theorem qyd_12 {p : Prop} (h : p := by first | rfl | (simp; done) | (simp [*]; done)) : p := h
theorem qyd_13 {p : Prop} (h : p := by have := HJ2.out; have := HJ11.out; first | omega | exact Nat.le_refl _) : p := h
theorem qyd_14 {p : Prop} (h : p := by (with_reducible repeat (first | apply Kd.R_alloc | apply Kd.R_drewN | apply Kd.R_drew)); exact (Kd.R_mono (Kd.R_far (p := ⟨gb375, 1, none⟩) (Kd.R_far (p := ⟨gb375, 0, none⟩) (Kd.R_types HO372.out BK375.out (by decide)) (fun _ hk => hk.2) (.slice Ao42 t370.length co42)) (fun _ hk => hk.2) (.int .i64 t373)) (fun _ h_ => h_.1))) : p := h
theorem qyd_15 {p : Prop} (h : p := by (with_reducible repeat (first | apply Kd.R_alloc | apply Kd.R_drewN | apply Kd.R_drew)); exact (Kd.R_mono (Kd.R_far (p := ⟨gb382, 1, none⟩) (Kd.R_far (p := ⟨gb382, 0, none⟩) (Kd.R_types HO372.out BK382.out (by decide)) (fun _ hk => hk.2) (.slice Ao46 t376.length co46)) (fun _ hk => hk.2) (.int .i64 t379)) (fun _ h_ => h_.1))) : p := h
theorem qyd_16 {p : Prop} (h : p := by (with_reducible repeat (first | apply Kd.R_alloc | apply Kd.R_drewN | apply Kd.R_drew)); exact (Kd.R_mono (Kd.R_far (p := ⟨gb382, 1, none⟩) (Kd.R_far (p := ⟨gb382, 0, none⟩) (Kd.R_types HO378.out BK382.out (by decide)) (fun _ hk => hk.2) (.slice Ao46 t376.length co46)) (fun _ hk => hk.2) (.int .i64 t379)) (fun _ h_ => h_.1))) : p := h
theorem qyd_17 {p : Prop} (h : p := by first | rfl | (simp [errW_none, errW_some] <;> rfl) | (simp [*, errW_none, errW_some] <;> rfl)) : p := h
theorem qyd_18 {p : Prop} (h : p := by (with_reducible repeat (first | apply Kd.N_alloc | apply Kd.N_drewN | apply Kd.N_drew)); exact HO392.out) : p := h
theorem qyd_19 {p : Prop} (h : p := by repeat (first | exact (Kd.R_reads' HO362.out).2.2 | (with_reducible refine Kd.C_alloc ?_ _) | (with_reducible refine Kd.C_drewN ?_ _) | (with_reducible refine Kd.C_drew ?_))) : p := h
/-! ### sleuthlaw44_SegmentationChecks: function 12 -/
mutual
def sleuthlaw44_SegmentationChecks.j0 : Nat → List Int → Int → Bool → Option (Bool)
 | 0, _, _, _ => none
 | k + 1, x0, x1, x26 => if x26 = true then ((sleuthlaw44_known.f k).bind fun t357 => (some t357)) else ((sleuthlaw44_check.f k x0 x1).bind fun t358 => ((segmentation_Check.f k x0 x1).bind fun t359 => (if t359 = t358 then (if 1025 ≤ 35184372088832 then ((segmentation_Check.f k (List.replicate 1025 0) 0).bind fun t363 => (if t363 = 6 then (if 1024 ≤ 35184372088832 then ((segmentation_Check.f k (List.replicate 1024 0) 0).bind fun t367 => (sleuthlaw44_SegmentationChecks.j1 k x0 x1 t358 (t367 != 0))) else (none)) else (sleuthlaw44_SegmentationChecks.j1 k x0 x1 t358 true))) else (none)) else (sleuthlaw44_SegmentationChecks.j1 k x0 x1 t358 true))))
def sleuthlaw44_SegmentationChecks.j1 : Nat → List Int → Int → Int → Bool → Option (Bool)
 | 0, _, _, _, _ => none
 | k + 1, x0, x1, x5, x45 => if x45 = true then (some false) else (if x5 = 0 then (some true) else ((segmentation_Total.f k x0 x1 ([] : List Int)).bind fun bt368 => ((segmentation_Best.f k x0 x1).bind fun bt370 => ((segmentation_Pruned.f k x0 x1).bind fun bt376 => ((segmentation_Potentials.f k x0 x1).bind fun bt383 => ((sleuthlaw44_check.f k x0 0).bind fun t387 => ((segmentation_Median.f k x0 0 1).bind fun bt388 => ((segmentation_Counts.f k x0 0).bind fun bt390 => (if bt368.2 = x5 then (if bt370.2.2 = x5 then (if bt376.2.2.2 = x5 then (if bt383.2 = x5 then ((segmentation_Verify.f k x0 x1 ([] : List Int) ([] : List Int) 0).bind fun t394 => (if t394 = x5 then (if bt388.2 = t387 then (sleuthlaw44_SegmentationChecks.j2 k (bt390.2 == t387)) else (sleuthlaw44_SegmentationChecks.j2 k false)) else (sleuthlaw44_SegmentationChecks.j2 k false))) else (sleuthlaw44_SegmentationChecks.j2 k false)) else (sleuthlaw44_SegmentationChecks.j2 k false)) else (sleuthlaw44_SegmentationChecks.j2 k false)) else (sleuthlaw44_SegmentationChecks.j2 k false))))))))))
def sleuthlaw44_SegmentationChecks.j2 : Nat → Bool → Option (Bool)
 | 0, _ => none
 | k + 1, x4 => some x4
end
def sleuthlaw44_SegmentationChecks.f (k : Nat) (l0 : List Int) (a1 : Int) : Option (Bool) := (sleuthlaw44_known.f k).bind fun t356 => (if t356 = true then (sleuthlaw44_SegmentationChecks.j0 k l0 a1 (decide ((l0.length : Int) > 40))) else (sleuthlaw44_SegmentationChecks.j0 k l0 a1 true))
theorem sleuthlaw44_SegmentationChecks.mono_l : ∀ k, (∀ y0 y1 y2, LeO (sleuthlaw44_SegmentationChecks.j0 k y0 y1 y2) (sleuthlaw44_SegmentationChecks.j0 (k + 1) y0 y1 y2)) ∧ (∀ y0 y1 y2 y3, LeO (sleuthlaw44_SegmentationChecks.j1 k y0 y1 y2 y3) (sleuthlaw44_SegmentationChecks.j1 (k + 1) y0 y1 y2 y3)) ∧ (∀ y0, LeO (sleuthlaw44_SegmentationChecks.j2 k y0) (sleuthlaw44_SegmentationChecks.j2 (k + 1) y0))
 | 0 => ⟨fun _ _ _ r h => by simp [sleuthlaw44_SegmentationChecks.j0] at h, fun _ _ _ _ r h => by simp [sleuthlaw44_SegmentationChecks.j1] at h, fun _ r h => by simp [sleuthlaw44_SegmentationChecks.j2] at h⟩
 | k + 1 => by
  obtain ⟨ih0, ih1, ih2⟩ := sleuthlaw44_SegmentationChecks.mono_l k
  refine ⟨?_, ?_, ?_⟩
  ·intro y0 y1 y2
   unfold sleuthlaw44_SegmentationChecks.j0
   repeat' first
   | (with_reducible exact ih0 _ _ _)
   | (with_reducible exact ih1 _ _ _ _)
   | (with_reducible exact ih2 _)
   | (with_reducible exact segmentation_Best.mono _ _ _)
   | (with_reducible exact segmentation_Check.mono _ _ _)
   | (with_reducible exact segmentation_Counts.mono _ _ _)
   | (with_reducible exact segmentation_Median.mono _ _ _ _)
   | (with_reducible exact segmentation_Potentials.mono _ _ _)
   | (with_reducible exact segmentation_Pruned.mono _ _ _)
   | (with_reducible exact segmentation_Total.mono _ _ _ _)
   | (with_reducible exact segmentation_Verify.mono _ _ _ _ _ _)
   | (with_reducible exact sleuthlaw44_check.mono _ _ _)
   | (with_reducible exact sleuthlaw44_known.mono _)
   | (with_reducible exact LeO.refl _)
   | (with_reducible exact LeO.none _)
   | (with_reducible refine LeO.ite ?_ ?_)
   | (with_reducible refine LeO.bind ?_ (fun _ => ?_))
   | exact ih0 _ _ _
   | exact ih1 _ _ _ _
   | exact ih2 _
   | exact segmentation_Best.mono _ _ _
   | exact segmentation_Check.mono _ _ _
   | exact segmentation_Counts.mono _ _ _
   | exact segmentation_Median.mono _ _ _ _
   | exact segmentation_Potentials.mono _ _ _
   | exact segmentation_Pruned.mono _ _ _
   | exact segmentation_Total.mono _ _ _ _
   | exact segmentation_Verify.mono _ _ _ _ _ _
   | exact sleuthlaw44_check.mono _ _ _
   | exact sleuthlaw44_known.mono _
   | exact LeO.none _
   | refine LeO.ite ?_ ?_
   | refine LeO.bind ?_ (fun _ => ?_)
  ·intro y0 y1 y2 y3
   unfold sleuthlaw44_SegmentationChecks.j1
   repeat' first
   | (with_reducible exact ih0 _ _ _)
   | (with_reducible exact ih1 _ _ _ _)
   | (with_reducible exact ih2 _)
   | (with_reducible exact segmentation_Best.mono _ _ _)
   | (with_reducible exact segmentation_Check.mono _ _ _)
   | (with_reducible exact segmentation_Counts.mono _ _ _)
   | (with_reducible exact segmentation_Median.mono _ _ _ _)
   | (with_reducible exact segmentation_Potentials.mono _ _ _)
   | (with_reducible exact segmentation_Pruned.mono _ _ _)
   | (with_reducible exact segmentation_Total.mono _ _ _ _)
   | (with_reducible exact segmentation_Verify.mono _ _ _ _ _ _)
   | (with_reducible exact sleuthlaw44_check.mono _ _ _)
   | (with_reducible exact sleuthlaw44_known.mono _)
   | (with_reducible exact LeO.refl _)
   | (with_reducible exact LeO.none _)
   | (with_reducible refine LeO.ite ?_ ?_)
   | (with_reducible refine LeO.bind ?_ (fun _ => ?_))
   | exact ih0 _ _ _
   | exact ih1 _ _ _ _
   | exact ih2 _
   | exact segmentation_Best.mono _ _ _
   | exact segmentation_Check.mono _ _ _
   | exact segmentation_Counts.mono _ _ _
   | exact segmentation_Median.mono _ _ _ _
   | exact segmentation_Potentials.mono _ _ _
   | exact segmentation_Pruned.mono _ _ _
   | exact segmentation_Total.mono _ _ _ _
   | exact segmentation_Verify.mono _ _ _ _ _ _
   | exact sleuthlaw44_check.mono _ _ _
   | exact sleuthlaw44_known.mono _
   | exact LeO.none _
   | refine LeO.ite ?_ ?_
   | refine LeO.bind ?_ (fun _ => ?_)
  ·intro y0
   unfold sleuthlaw44_SegmentationChecks.j2
   repeat' first
   | (with_reducible exact ih0 _ _ _)
   | (with_reducible exact ih1 _ _ _ _)
   | (with_reducible exact ih2 _)
   | (with_reducible exact segmentation_Best.mono _ _ _)
   | (with_reducible exact segmentation_Check.mono _ _ _)
   | (with_reducible exact segmentation_Counts.mono _ _ _)
   | (with_reducible exact segmentation_Median.mono _ _ _ _)
   | (with_reducible exact segmentation_Potentials.mono _ _ _)
   | (with_reducible exact segmentation_Pruned.mono _ _ _)
   | (with_reducible exact segmentation_Total.mono _ _ _ _)
   | (with_reducible exact segmentation_Verify.mono _ _ _ _ _ _)
   | (with_reducible exact sleuthlaw44_check.mono _ _ _)
   | (with_reducible exact sleuthlaw44_known.mono _)
   | (with_reducible exact LeO.refl _)
   | (with_reducible exact LeO.none _)
   | (with_reducible refine LeO.ite ?_ ?_)
   | (with_reducible refine LeO.bind ?_ (fun _ => ?_))
   | exact ih0 _ _ _
   | exact ih1 _ _ _ _
   | exact ih2 _
   | exact segmentation_Best.mono _ _ _
   | exact segmentation_Check.mono _ _ _
   | exact segmentation_Counts.mono _ _ _
   | exact segmentation_Median.mono _ _ _ _
   | exact segmentation_Potentials.mono _ _ _
   | exact segmentation_Pruned.mono _ _ _
   | exact segmentation_Total.mono _ _ _ _
   | exact segmentation_Verify.mono _ _ _ _ _ _
   | exact sleuthlaw44_check.mono _ _ _
   | exact sleuthlaw44_known.mono _
   | exact LeO.none _
   | refine LeO.ite ?_ ?_
   | refine LeO.bind ?_ (fun _ => ?_)
theorem sleuthlaw44_SegmentationChecks.mono : ∀ a0 a1 k, LeO (sleuthlaw44_SegmentationChecks.f k a0 a1) (sleuthlaw44_SegmentationChecks.f (k + 1) a0 a1) := by
 intro a0 a1 k
 obtain ⟨ih0, ih1, ih2⟩ := sleuthlaw44_SegmentationChecks.mono_l k
 unfold sleuthlaw44_SegmentationChecks.f
 repeat' first
   | (with_reducible exact ih0 _ _ _)
   | (with_reducible exact ih1 _ _ _ _)
   | (with_reducible exact ih2 _)
   | (with_reducible exact segmentation_Best.mono _ _ _)
   | (with_reducible exact segmentation_Check.mono _ _ _)
   | (with_reducible exact segmentation_Counts.mono _ _ _)
   | (with_reducible exact segmentation_Median.mono _ _ _ _)
   | (with_reducible exact segmentation_Potentials.mono _ _ _)
   | (with_reducible exact segmentation_Pruned.mono _ _ _)
   | (with_reducible exact segmentation_Total.mono _ _ _ _)
   | (with_reducible exact segmentation_Verify.mono _ _ _ _ _ _)
   | (with_reducible exact sleuthlaw44_check.mono _ _ _)
   | (with_reducible exact sleuthlaw44_known.mono _)
   | (with_reducible exact LeO.refl _)
   | (with_reducible exact LeO.none _)
   | (with_reducible refine LeO.ite ?_ ?_)
   | (with_reducible refine LeO.bind ?_ (fun _ => ?_))
   | exact ih0 _ _ _
   | exact ih1 _ _ _ _
   | exact ih2 _
   | exact segmentation_Best.mono _ _ _
   | exact segmentation_Check.mono _ _ _
   | exact segmentation_Counts.mono _ _ _
   | exact segmentation_Median.mono _ _ _ _
   | exact segmentation_Potentials.mono _ _ _
   | exact segmentation_Pruned.mono _ _ _
   | exact segmentation_Total.mono _ _ _ _
   | exact segmentation_Verify.mono _ _ _ _ _ _
   | exact sleuthlaw44_check.mono _ _ _
   | exact sleuthlaw44_known.mono _
   | exact LeO.none _
   | refine LeO.ite ?_ ?_
   | refine LeO.bind ?_ (fun _ => ?_)
set_option maxHeartbeats 8000000 in
set_option maxRecDepth 100000 in
theorem sleuthlaw44_SegmentationChecks.calls (k : Nat) (A0 : Option Addr) (c0 : Nat) (l0 : List Int) (a1 : Int) (r : Bool) (w : World) (hr0 : Kd.C (Kd.int .i64) w A0 l0.length l0) (hc0 : l0.length ≤ c0) (h : sleuthlaw44_SegmentationChecks.f k l0 a1 = some r) :
  Calls Try.prog 12 #[.slice A0 l0.length c0, .int .i64 a1] w fun e w' => e = .returned (.bool r) ∧ Below w.heap.size w w' := by
 have hu27 := Try.underlying27
 have HR0 := Aside0.mk hr0
 have HC0 := Aside0.mk hc0
 clear hr0 hc0
 have HB := Aside0.mk (Below.refl w.heap.size w)
 have H : ((sleuthlaw44_known.f k).bind fun t356 => (if t356 = true then (sleuthlaw44_SegmentationChecks.j0 k l0 a1 (decide ((l0.length : Int) > 40))) else (sleuthlaw44_SegmentationChecks.j0 k l0 a1 true))) = some r := h
 clear h
 have HC3 := Aside0.mk H
 clear H
 go_enter Try.func12, Try.ntmps12
 go_upto_region 1 with (fail)
 go_cut [26] (fun v26 wc => ∃ (kq : Nat) (x26_2 : Bool), v26 = .bool x26_2 ∧ Aside0 (sleuthlaw44_SegmentationChecks.j0 kq l0 a1 x26_2 = some r) ∧ Aside0 (kq ≤ k) ∧ Aside0 (Below w.heap.size w wc))
 case first =>
  have H := HC3.out
  clear HC3
  replace H := Option.bind_eq_some_iff.mp H
  obtain ⟨t356, A40, H⟩ := H
  replace H : (if t356 = true then (sleuthlaw44_SegmentationChecks.j0 k l0 a1 (decide ((l0.length : Int) > 40))) else (sleuthlaw44_SegmentationChecks.j0 k l0 a1 true)) = some r := H
  have A4 := Aside0.mk A40
  clear A40
  by_cases c5 : t356 = true
  ·subst c5
   have H1 : (sleuthlaw44_SegmentationChecks.j0 k l0 a1 (decide ((l0.length : Int) > 40))) = some r := by rw [if_pos rfl] at H; exact H
   clear H
   have H := H1
   clear H1
   have H' := Aside0.mk H
   clear H
   go_wp2_with (first | ((with_reducible refine gate_callee (f := 13) rfl ?_); refine goesL_ (some 20) rfl rfl Try.func13 (by kernel_rfl) rfl #[] rfl qyd_2 ?_; (with_reducible refine (sleuthlaw44_known.calls k  true _ A4.out).mono ?_); rintro e w6 ⟨rfl, hb⟩; refine ⟨_, rfl, ?_⟩; have n0_ := Aside0.mk (below_step qyd_1 hb); clear HB; have HB := n0_; clear n0_; (try clear hb); (try clear hb2); (try clear hk); (try clear hi)))
   go_meet
   case rel => exact ⟨_, (decide ((l0.length : Int) > 40)), qyd_12, H', ⟨by first | omega | exact Nat.le_refl _⟩, ⟨qyd_1⟩⟩
  replace c5 := Bool.eq_false_iff.mpr c5
  subst c5
  have H1 : (sleuthlaw44_SegmentationChecks.j0 k l0 a1 true) = some r := by rw [if_neg (show ¬ (false = true) by decide)] at H; exact H
  clear H
  have H := H1
  clear H1
  have H' := Aside0.mk H
  clear H
  go_wp2_with (first | ((with_reducible refine gate_callee (f := 13) rfl ?_); refine goesL_ (some 20) rfl rfl Try.func13 (by kernel_rfl) rfl #[] rfl qyd_2 ?_; (with_reducible refine (sleuthlaw44_known.calls k  false _ A4.out).mono ?_); rintro e w7 ⟨rfl, hb⟩; refine ⟨_, rfl, ?_⟩; have n0_ := Aside0.mk (below_step qyd_1 hb); clear HB; have HB := n0_; clear n0_; (try clear hb); (try clear hb2); (try clear hk); (try clear hi)))
  go_meet
  case rel => exact ⟨_, (true), qyd_12, H', ⟨by first | omega | exact Nat.le_refl _⟩, ⟨qyd_1⟩⟩
 clear HC3
 try clear c1
 try clear p2
 try clear c5
 obtain ⟨kq, x26_2, rfl, HA, HJ2, HB⟩ := hcut
 cases kq with
 | zero => exact absurd HA.out (by simp [sleuthlaw44_SegmentationChecks.j0])
 | succ kj2 =>
  have H := HA.out
  clear HA
  simp only [sleuthlaw44_SegmentationChecks.j0] at H
  by_cases c8 : x26_2 = true
  ·subst c8
   have H1 : ((sleuthlaw44_known.f kj2).bind fun t357 => (some t357)) = some r := by rw [if_pos rfl] at H; exact H
   clear H
   have H := H1
   clear H1
   replace H := Option.bind_eq_some_iff.mp H
   obtain ⟨t357, A90, H⟩ := H
   replace H : (some t357) = some r := H
   have A9 := Aside0.mk A90
   clear A90
   obtain rfl := Option.some.inj H
   go_wp2_with (first | ((with_reducible refine gate_callee (f := 13) rfl ?_); refine goesL_ (some 27) rfl rfl Try.func13 (by kernel_rfl) rfl #[] rfl qyd_2 ?_; (with_reducible refine (sleuthlaw44_known.calls kj2  t357 _ A9.out).mono ?_); rintro e w10 ⟨rfl, hb⟩; refine ⟨_, rfl, ?_⟩; have n0_ := Aside0.mk (below_step qyd_1 hb); clear HB; have HB := n0_; clear n0_; (try clear hb); (try clear hb2); (try clear hk); (try clear hi)))
   go_ret
   exact ⟨qyd_17, qyd_1⟩
  replace c8 := Bool.eq_false_iff.mpr c8
  subst c8
  have H1 : ((sleuthlaw44_check.f kj2 l0 a1).bind fun t358 => ((segmentation_Check.f kj2 l0 a1).bind fun t359 => (if t359 = t358 then (if 1025 ≤ 35184372088832 then ((segmentation_Check.f kj2 (List.replicate 1025 0) 0).bind fun t363 => (if t363 = 6 then (if 1024 ≤ 35184372088832 then ((segmentation_Check.f kj2 (List.replicate 1024 0) 0).bind fun t367 => (sleuthlaw44_SegmentationChecks.j1 kj2 l0 a1 t358 (t367 != 0))) else (none)) else (sleuthlaw44_SegmentationChecks.j1 kj2 l0 a1 t358 true))) else (none)) else (sleuthlaw44_SegmentationChecks.j1 kj2 l0 a1 t358 true)))) = some r := by rw [if_neg (show ¬ (false = true) by decide)] at H; exact H
  clear H
  have H := H1
  clear H1
  replace H := Option.bind_eq_some_iff.mp H
  obtain ⟨t358, A110, H⟩ := H
  replace H : ((segmentation_Check.f kj2 l0 a1).bind fun t359 => (if t359 = t358 then (if 1025 ≤ 35184372088832 then ((segmentation_Check.f kj2 (List.replicate 1025 0) 0).bind fun t363 => (if t363 = 6 then (if 1024 ≤ 35184372088832 then ((segmentation_Check.f kj2 (List.replicate 1024 0) 0).bind fun t367 => (sleuthlaw44_SegmentationChecks.j1 kj2 l0 a1 t358 (t367 != 0))) else (none)) else (sleuthlaw44_SegmentationChecks.j1 kj2 l0 a1 t358 true))) else (none)) else (sleuthlaw44_SegmentationChecks.j1 kj2 l0 a1 t358 true))) = some r := H
  have A11 := Aside0.mk A110
  clear A110
  have HC12 := Aside0.mk H
  clear H
  go_upto_region 4 with (first | ((with_reducible refine gate_callee (f := 23) rfl ?_); refine goesL_ (some 30) rfl rfl Try.func23 (by kernel_rfl) rfl #[.slice A0 l0.length c0, .int .i64 a1] rfl qyd_2 ?_; (with_reducible refine (sleuthlaw44_check.calls kj2 _ _ l0 a1 t358 _ ?side1 ?side2 A11.out).mono ?_); (case side1 => exact qyd_4); (case side2 => exact HC0.out); rintro e w' ⟨rfl, ⟨nd, rfl⟩⟩; refine ⟨_, rfl, ?_⟩))
  (try simp only [Act.put, List.setIfInBounds_toArray, List.set_cons_zero, List.set_cons_succ])
  go_cut [45] (fun v45 wc => ∃ (kq : Nat) (x45_11 : Bool), v45 = .bool x45_11 ∧ Aside0 (sleuthlaw44_SegmentationChecks.j1 kq l0 a1 t358 x45_11 = some r) ∧ Aside0 (kq ≤ kj2) ∧ Aside0 (Below w.heap.size w wc))
  case first =>
   have H := HC12.out
   clear HC12
   replace H := Option.bind_eq_some_iff.mp H
   obtain ⟨t359, A130, H⟩ := H
   replace H : (if t359 = t358 then (if 1025 ≤ 35184372088832 then ((segmentation_Check.f kj2 (List.replicate 1025 0) 0).bind fun t363 => (if t363 = 6 then (if 1024 ≤ 35184372088832 then ((segmentation_Check.f kj2 (List.replicate 1024 0) 0).bind fun t367 => (sleuthlaw44_SegmentationChecks.j1 kj2 l0 a1 t358 (t367 != 0))) else (none)) else (sleuthlaw44_SegmentationChecks.j1 kj2 l0 a1 t358 true))) else (none)) else (sleuthlaw44_SegmentationChecks.j1 kj2 l0 a1 t358 true)) = some r := H
   have A13 := Aside0.mk A130
   clear A130
   by_cases c14 : t359 = t358
   rotate_left
   ·rw [if_neg c14] at H
    have c14b0 : (t359 == t358) = false := beq_eq_false_iff_ne.mpr c14
    have c14b1 : (t359 != t358) = true := bne_iff_ne.mpr c14
    (first | rw [c14b0] | (simp only [i64_w, i32_w]; rw [c14b0]) | skip)
    have H' := Aside0.mk H
    clear H
    go_wp2_with (first | ((with_reducible refine gate_callee (f := 36) rfl ?_); refine goesL_ (some 33) rfl rfl Try.func36 (by kernel_rfl) rfl #[.slice A0 l0.length c0, .int .i64 a1] rfl qyd_2 ?_; (with_reducible refine (segmentation_Check.calls kj2 _ _ l0 a1 t359 _ ?side1 ?side2 A13.out).mono ?_); (case side1 => exact qyd_4); (case side2 => exact HC0.out); rintro e w' ⟨rfl, ⟨nd, rfl⟩⟩; refine ⟨_, rfl, ?_⟩))
    go_meet
    case rel => exact ⟨_, (true), qyd_12, H', ⟨by have := HJ2.out; first | omega | exact Nat.le_refl _⟩, ⟨qyd_1⟩⟩
   rw [if_pos c14] at H
   have c14b0 : (t359 == t358) = true := beq_iff_eq.mpr c14
   have c14b1 : (t359 != t358) = false := bne_eq_false_iff_eq.mpr c14
   clear c14
   (first | rw [c14b0] | (simp only [i64_w, i32_w]; rw [c14b0]) | skip)
   by_cases c15 : 1025 ≤ 35184372088832
   rotate_left
   ·rw [if_neg c15] at H
    exact absurd H (by simp)
   rw [if_pos c15] at H
   have c15b0 := eq_true c15
   have c15b1 : decide (1025 ≤ 35184372088832) = true := decide_eq_true c15
   clear c15
   obtain ⟨y360, hy360⟩ : ∃ y_ : List Int, y_ = (List.replicate 1025 0) := ⟨_, rfl⟩
   replace H : ((segmentation_Check.f kj2 y360 0).bind fun t363 => (if t363 = 6 then (if 1024 ≤ 35184372088832 then ((segmentation_Check.f kj2 (List.replicate 1024 0) 0).bind fun t367 => (sleuthlaw44_SegmentationChecks.j1 kj2 l0 a1 t358 (t367 != 0))) else (none)) else (sleuthlaw44_SegmentationChecks.j1 kj2 l0 a1 t358 true))) = some r := by first | (rw [hy360]; with_reducible exact H) | (have H2_ := (Option.bind_some _ _).symm.trans H; rw [hy360]; with_reducible exact H2_) | (have H2_ := (Option.bind_some _ _).symm.trans H; with_reducible exact H2_) | with_reducible exact H | (rw [hy360]; exact H) | exact H
   have Ny360 := Aside0.mk hy360
   clear hy360
   replace H := Option.bind_eq_some_iff.mp H
   obtain ⟨t363, A160, H⟩ := H
   replace H : (if t363 = 6 then (if 1024 ≤ 35184372088832 then ((segmentation_Check.f kj2 (List.replicate 1024 0) 0).bind fun t367 => (sleuthlaw44_SegmentationChecks.j1 kj2 l0 a1 t358 (t367 != 0))) else (none)) else (sleuthlaw44_SegmentationChecks.j1 kj2 l0 a1 t358 true)) = some r := H
   have A16 := Aside0.mk A160
   clear A160
   by_cases c17 : t363 = 6
   rotate_left
   ·rw [if_neg c17] at H
    have c17b0 : (t363 == 6) = false := beq_eq_false_iff_ne.mpr c17
    have c17b1 : (t363 != 6) = true := bne_iff_ne.mpr c17
    have H' := Aside0.mk H
    clear H
    go_wp2_with (first | ((with_reducible refine gate_callee (f := 36) rfl ?_); refine goesL_ (some 33) rfl rfl Try.func36 (by kernel_rfl) rfl #[.slice A0 l0.length c0, .int .i64 a1] rfl qyd_2 ?_; (with_reducible refine (segmentation_Check.calls kj2 _ _ l0 a1 t359 _ ?side1 ?side2 A13.out).mono ?_); (case side1 => exact qyd_4); (case side2 => exact HC0.out); rintro e w' ⟨rfl, ⟨nd, rfl⟩⟩; refine ⟨_, rfl, ?_⟩) | ((with_reducible refine gate_dst (N := 37) rfl ?_); (try (refine gate_guard (by rfl) ?_; dsimp only)); refine Kd.R_make (Kd.int .i64) _ 3 rfl (N := 37) rfl 24 _ _ rfl 1025 rfl rfl Try.underlying24 (.int .i64 0) 8 info3 rfl (by decide) (by omega) 0 (ok := fun _ => True) (okp := fun _ => True) rfl (fun _ hk => hk) trivial (by omega) (by omega) (Below.refl _ _) (Nat.le_refl _) ?_; intro v361 w26 ho27 hb hg_ hnew_; clear hg_ hnew_; (first | rw [← Ny360.out] at ho27 | (simp only [Int.reduceToNat] at ho27; rw [← Ny360.out] at ho27)); have n0_ := Aside0.mk (Kd.R_lower ho27 (below_size qyd_1)); have n1_ := Aside0.mk (below_step qyd_1 hb); clear HB; have HO362 := n0_; have HB := n1_; clear n0_ n1_; clear hb ho27; obtain ⟨Ao28, co28, eo28⟩ := Kd.R_slice HO362.out; subst eo28) | (go_at_call 36; (with_reducible refine (segmentation_Check.calls kj2 _ _ y360 0 t363 _ ?side1 ?side2 A16.out).mono ?_); (case side1 => exact qyd_19); (case side2 => exact (Kd.R_reads' HO362.out).2.1); rintro e w' ⟨rfl, ⟨nd, rfl⟩⟩))
    go_meet
    case rel => exact ⟨_, (true), qyd_12, H', ⟨by have := HJ2.out; first | omega | exact Nat.le_refl _⟩, ⟨qyd_1⟩⟩
   rw [if_pos c17] at H
   have c17b0 : (t363 == 6) = true := beq_iff_eq.mpr c17
   have c17b1 : (t363 != 6) = false := bne_eq_false_iff_eq.mpr c17
   clear c17
   by_cases c18 : 1024 ≤ 35184372088832
   rotate_left
   ·rw [if_neg c18] at H
    exact absurd H (by simp)
   rw [if_pos c18] at H
   have c18b0 := eq_true c18
   have c18b1 : decide (1024 ≤ 35184372088832) = true := decide_eq_true c18
   clear c18
   obtain ⟨y364, hy364⟩ : ∃ y_ : List Int, y_ = (List.replicate 1024 0) := ⟨_, rfl⟩
   replace H : ((segmentation_Check.f kj2 y364 0).bind fun t367 => (sleuthlaw44_SegmentationChecks.j1 kj2 l0 a1 t358 (t367 != 0))) = some r := by first | (rw [hy364]; with_reducible exact H) | (have H2_ := (Option.bind_some _ _).symm.trans H; rw [hy364]; with_reducible exact H2_) | (have H2_ := (Option.bind_some _ _).symm.trans H; with_reducible exact H2_) | with_reducible exact H | (rw [hy364]; exact H) | exact H
   have Ny364 := Aside0.mk hy364
   clear hy364
   replace H := Option.bind_eq_some_iff.mp H
   obtain ⟨t367, A190, H⟩ := H
   replace H : (sleuthlaw44_SegmentationChecks.j1 kj2 l0 a1 t358 (t367 != 0)) = some r := H
   have A19 := Aside0.mk A190
   clear A190
   have H' := Aside0.mk H
   clear H
   go_wp2_with (first | ((with_reducible refine gate_callee (f := 36) rfl ?_); refine goesL_ (some 33) rfl rfl Try.func36 (by kernel_rfl) rfl #[.slice A0 l0.length c0, .int .i64 a1] rfl qyd_2 ?_; (with_reducible refine (segmentation_Check.calls kj2 _ _ l0 a1 t359 _ ?side1 ?side2 A13.out).mono ?_); (case side1 => exact qyd_4); (case side2 => exact HC0.out); rintro e w' ⟨rfl, ⟨nd, rfl⟩⟩; refine ⟨_, rfl, ?_⟩) | ((with_reducible refine gate_dst (N := 37) rfl ?_); (try (refine gate_guard (by rfl) ?_; dsimp only)); refine Kd.R_make (Kd.int .i64) _ 3 rfl (N := 37) rfl 24 _ _ rfl 1025 rfl rfl Try.underlying24 (.int .i64 0) 8 info3 rfl (by decide) (by omega) 0 (ok := fun _ => True) (okp := fun _ => True) rfl (fun _ hk => hk) trivial (by omega) (by omega) (Below.refl _ _) (Nat.le_refl _) ?_; intro v361 w20 ho21 hb hg_ hnew_; clear hg_ hnew_; (first | rw [← Ny360.out] at ho21 | (simp only [Int.reduceToNat] at ho21; rw [← Ny360.out] at ho21)); have n0_ := Aside0.mk (Kd.R_lower ho21 (below_size qyd_1)); have n1_ := Aside0.mk (below_step qyd_1 hb); clear HB; have HO362 := n0_; have HB := n1_; clear n0_ n1_; clear hb ho21; obtain ⟨Ao22, co22, eo22⟩ := Kd.R_slice HO362.out; subst eo22) | (go_at_call 36; (with_reducible refine (segmentation_Check.calls kj2 _ _ y360 0 t363 _ ?side1 ?side2 A16.out).mono ?_); (case side1 => exact qyd_19); (case side2 => exact (Kd.R_reads' HO362.out).2.1); rintro e w' ⟨rfl, ⟨nd, rfl⟩⟩) | ((with_reducible refine gate_dst (N := 42) rfl ?_); (try (refine gate_guard (by rfl) ?_; dsimp only)); refine Kd.R_make (Kd.int .i64) _ 3 rfl (N := 42) rfl 24 _ _ rfl 1024 rfl rfl Try.underlying24 (.int .i64 0) 8 info3 rfl (by decide) (by omega) 0 (ok := fun _ => True) (okp := fun _ => True) rfl (fun _ hk => hk) trivial (by omega) (by omega) (Below.refl _ _) (Nat.le_refl _) ?_; intro v365 w23 ho24 hb hg_ hnew_; clear hg_ hnew_; (first | rw [← Ny364.out] at ho24 | (simp only [Int.reduceToNat] at ho24; rw [← Ny364.out] at ho24)); have n0_ := Aside0.mk (Kd.R_elder' (by (with_reducible repeat (first | apply Kd.R_alloc | apply Kd.R_drewN | apply Kd.R_drew)); exact HO362.out) (Kd.R_base ho24) hb); have n1_ := Aside0.mk (Kd.R_lower (Kd.R_new' ho24 (Kd.R_lt (by (with_reducible repeat (first | apply Kd.R_alloc | apply Kd.R_drewN | apply Kd.R_drew)); exact HO362.out))) (below_size qyd_1)); have n2_ := Aside0.mk (below_step qyd_1 hb); clear HO362; clear HB; have HO362 := n0_; have HO366 := n1_; have HB := n2_; clear n0_ n1_ n2_; clear hb ho24; obtain ⟨Ao25, co25, eo25⟩ := Kd.R_slice HO366.out; subst eo25) | (go_at_call 36; (with_reducible refine (segmentation_Check.calls kj2 _ _ y364 0 t367 _ ?side1 ?side2 A19.out).mono ?_); (case side1 => repeat (first | exact (Kd.R_reads' HO366.out).2.2 | (with_reducible refine Kd.C_alloc ?_ _) | (with_reducible refine Kd.C_drewN ?_ _) | (with_reducible refine Kd.C_drew ?_))); (case side2 => exact (Kd.R_reads' HO366.out).2.1); rintro e w' ⟨rfl, ⟨nd, rfl⟩⟩))
   go_meet
   case rel => exact ⟨_, ((t367 != 0)), qyd_12, H', ⟨by have := HJ2.out; first | omega | exact Nat.le_refl _⟩, ⟨qyd_1⟩⟩
  clear HC12
  try clear c1
  try clear c2
  try clear p2
  try clear c3
  try clear c5
  try clear c8
  try clear c12
  try clear c13
  try clear c14
  try clear c14b0
  try clear c14b1
  try clear c15
  try clear c15b0
  try clear c15b1
  try clear c17
  try clear c17b0
  try clear c17b1
  try clear c18
  try clear c18b0
  try clear c18b1
  try clear c23
  try clear p2
  obtain ⟨kq, x45_11, rfl, HA, HJ11, HB⟩ := hcut
  cases kq with
  | zero => exact absurd HA.out (by simp [sleuthlaw44_SegmentationChecks.j1])
  | succ kj11 =>
   have H := HA.out
   clear HA
   simp only [sleuthlaw44_SegmentationChecks.j1] at H
   by_cases c29 : x45_11 = true
   ·subst c29
    have H1 : (some false) = some r := by rw [if_pos rfl] at H; exact H
    clear H
    have H := H1
    clear H1
    obtain rfl := Option.some.inj H
    go_wp2
    go_ret
    exact ⟨qyd_17, qyd_1⟩
   replace c29 := Bool.eq_false_iff.mpr c29
   subst c29
   have H1 : (if t358 = 0 then (some true) else ((segmentation_Total.f kj11 l0 a1 ([] : List Int)).bind fun bt368 => ((segmentation_Best.f kj11 l0 a1).bind fun bt370 => ((segmentation_Pruned.f kj11 l0 a1).bind fun bt376 => ((segmentation_Potentials.f kj11 l0 a1).bind fun bt383 => ((sleuthlaw44_check.f kj11 l0 0).bind fun t387 => ((segmentation_Median.f kj11 l0 0 1).bind fun bt388 => ((segmentation_Counts.f kj11 l0 0).bind fun bt390 => (if bt368.2 = t358 then (if bt370.2.2 = t358 then (if bt376.2.2.2 = t358 then (if bt383.2 = t358 then ((segmentation_Verify.f kj11 l0 a1 ([] : List Int) ([] : List Int) 0).bind fun t394 => (if t394 = t358 then (if bt388.2 = t387 then (sleuthlaw44_SegmentationChecks.j2 kj11 (bt390.2 == t387)) else (sleuthlaw44_SegmentationChecks.j2 kj11 false)) else (sleuthlaw44_SegmentationChecks.j2 kj11 false))) else (sleuthlaw44_SegmentationChecks.j2 kj11 false)) else (sleuthlaw44_SegmentationChecks.j2 kj11 false)) else (sleuthlaw44_SegmentationChecks.j2 kj11 false)) else (sleuthlaw44_SegmentationChecks.j2 kj11 false)))))))))) = some r := by rw [if_neg (show ¬ (false = true) by decide)] at H; exact H
   clear H
   have H := H1
   clear H1
   by_cases c30 : t358 = 0
   ·rw [if_pos c30] at H
    have c30b0 : (t358 == 0) = true := beq_iff_eq.mpr c30
    have c30b1 : (t358 != 0) = false := bne_eq_false_iff_eq.mpr c30
    clear c30
    obtain rfl := Option.some.inj H
    go_wp2
    go_ret
    exact ⟨qyd_17, qyd_1⟩
   rw [if_neg c30] at H
   have c30b0 : (t358 == 0) = false := beq_eq_false_iff_ne.mpr c30
   have c30b1 : (t358 != 0) = true := bne_iff_ne.mpr c30
   replace H := Option.bind_eq_some_iff.mp H
   obtain ⟨⟨t368, t369⟩, A310, H⟩ := H
   replace H : ((segmentation_Best.f kj11 l0 a1).bind fun bt370 => ((segmentation_Pruned.f kj11 l0 a1).bind fun bt376 => ((segmentation_Potentials.f kj11 l0 a1).bind fun bt383 => ((sleuthlaw44_check.f kj11 l0 0).bind fun t387 => ((segmentation_Median.f kj11 l0 0 1).bind fun bt388 => ((segmentation_Counts.f kj11 l0 0).bind fun bt390 => (if t369 = t358 then (if bt370.2.2 = t358 then (if bt376.2.2.2 = t358 then (if bt383.2 = t358 then ((segmentation_Verify.f kj11 l0 a1 ([] : List Int) ([] : List Int) 0).bind fun t394 => (if t394 = t358 then (if bt388.2 = t387 then (sleuthlaw44_SegmentationChecks.j2 kj11 (bt390.2 == t387)) else (sleuthlaw44_SegmentationChecks.j2 kj11 false)) else (sleuthlaw44_SegmentationChecks.j2 kj11 false))) else (sleuthlaw44_SegmentationChecks.j2 kj11 false)) else (sleuthlaw44_SegmentationChecks.j2 kj11 false)) else (sleuthlaw44_SegmentationChecks.j2 kj11 false)) else (sleuthlaw44_SegmentationChecks.j2 kj11 false)))))))) = some r := H
   have A31 := Aside0.mk A310
   clear A310
   replace H := Option.bind_eq_some_iff.mp H
   obtain ⟨⟨t370, t373, t374⟩, A320, H⟩ := H
   replace H : ((segmentation_Pruned.f kj11 l0 a1).bind fun bt376 => ((segmentation_Potentials.f kj11 l0 a1).bind fun bt383 => ((sleuthlaw44_check.f kj11 l0 0).bind fun t387 => ((segmentation_Median.f kj11 l0 0 1).bind fun bt388 => ((segmentation_Counts.f kj11 l0 0).bind fun bt390 => (if t369 = t358 then (if t374 = t358 then (if bt376.2.2.2 = t358 then (if bt383.2 = t358 then ((segmentation_Verify.f kj11 l0 a1 ([] : List Int) ([] : List Int) 0).bind fun t394 => (if t394 = t358 then (if bt388.2 = t387 then (sleuthlaw44_SegmentationChecks.j2 kj11 (bt390.2 == t387)) else (sleuthlaw44_SegmentationChecks.j2 kj11 false)) else (sleuthlaw44_SegmentationChecks.j2 kj11 false))) else (sleuthlaw44_SegmentationChecks.j2 kj11 false)) else (sleuthlaw44_SegmentationChecks.j2 kj11 false)) else (sleuthlaw44_SegmentationChecks.j2 kj11 false)) else (sleuthlaw44_SegmentationChecks.j2 kj11 false))))))) = some r := H
   have A32 := Aside0.mk A320
   clear A320
   replace H := Option.bind_eq_some_iff.mp H
   obtain ⟨⟨t376, t379, t380, t381⟩, A330, H⟩ := H
   replace H : ((segmentation_Potentials.f kj11 l0 a1).bind fun bt383 => ((sleuthlaw44_check.f kj11 l0 0).bind fun t387 => ((segmentation_Median.f kj11 l0 0 1).bind fun bt388 => ((segmentation_Counts.f kj11 l0 0).bind fun bt390 => (if t369 = t358 then (if t374 = t358 then (if t381 = t358 then (if bt383.2 = t358 then ((segmentation_Verify.f kj11 l0 a1 ([] : List Int) ([] : List Int) 0).bind fun t394 => (if t394 = t358 then (if bt388.2 = t387 then (sleuthlaw44_SegmentationChecks.j2 kj11 (bt390.2 == t387)) else (sleuthlaw44_SegmentationChecks.j2 kj11 false)) else (sleuthlaw44_SegmentationChecks.j2 kj11 false))) else (sleuthlaw44_SegmentationChecks.j2 kj11 false)) else (sleuthlaw44_SegmentationChecks.j2 kj11 false)) else (sleuthlaw44_SegmentationChecks.j2 kj11 false)) else (sleuthlaw44_SegmentationChecks.j2 kj11 false)))))) = some r := H
   have A33 := Aside0.mk A330
   clear A330
   replace H := Option.bind_eq_some_iff.mp H
   obtain ⟨⟨t383, t384⟩, A340, H⟩ := H
   replace H : ((sleuthlaw44_check.f kj11 l0 0).bind fun t387 => ((segmentation_Median.f kj11 l0 0 1).bind fun bt388 => ((segmentation_Counts.f kj11 l0 0).bind fun bt390 => (if t369 = t358 then (if t374 = t358 then (if t381 = t358 then (if t384 = t358 then ((segmentation_Verify.f kj11 l0 a1 ([] : List Int) ([] : List Int) 0).bind fun t394 => (if t394 = t358 then (if bt388.2 = t387 then (sleuthlaw44_SegmentationChecks.j2 kj11 (bt390.2 == t387)) else (sleuthlaw44_SegmentationChecks.j2 kj11 false)) else (sleuthlaw44_SegmentationChecks.j2 kj11 false))) else (sleuthlaw44_SegmentationChecks.j2 kj11 false)) else (sleuthlaw44_SegmentationChecks.j2 kj11 false)) else (sleuthlaw44_SegmentationChecks.j2 kj11 false)) else (sleuthlaw44_SegmentationChecks.j2 kj11 false))))) = some r := H
   have A34 := Aside0.mk A340
   clear A340
   replace H := Option.bind_eq_some_iff.mp H
   obtain ⟨t387, A350, H⟩ := H
   replace H : ((segmentation_Median.f kj11 l0 0 1).bind fun bt388 => ((segmentation_Counts.f kj11 l0 0).bind fun bt390 => (if t369 = t358 then (if t374 = t358 then (if t381 = t358 then (if t384 = t358 then ((segmentation_Verify.f kj11 l0 a1 ([] : List Int) ([] : List Int) 0).bind fun t394 => (if t394 = t358 then (if bt388.2 = t387 then (sleuthlaw44_SegmentationChecks.j2 kj11 (bt390.2 == t387)) else (sleuthlaw44_SegmentationChecks.j2 kj11 false)) else (sleuthlaw44_SegmentationChecks.j2 kj11 false))) else (sleuthlaw44_SegmentationChecks.j2 kj11 false)) else (sleuthlaw44_SegmentationChecks.j2 kj11 false)) else (sleuthlaw44_SegmentationChecks.j2 kj11 false)) else (sleuthlaw44_SegmentationChecks.j2 kj11 false)))) = some r := H
   have A35 := Aside0.mk A350
   clear A350
   replace H := Option.bind_eq_some_iff.mp H
   obtain ⟨⟨t388, t389⟩, A360, H⟩ := H
   replace H : ((segmentation_Counts.f kj11 l0 0).bind fun bt390 => (if t369 = t358 then (if t374 = t358 then (if t381 = t358 then (if t384 = t358 then ((segmentation_Verify.f kj11 l0 a1 ([] : List Int) ([] : List Int) 0).bind fun t394 => (if t394 = t358 then (if t389 = t387 then (sleuthlaw44_SegmentationChecks.j2 kj11 (bt390.2 == t387)) else (sleuthlaw44_SegmentationChecks.j2 kj11 false)) else (sleuthlaw44_SegmentationChecks.j2 kj11 false))) else (sleuthlaw44_SegmentationChecks.j2 kj11 false)) else (sleuthlaw44_SegmentationChecks.j2 kj11 false)) else (sleuthlaw44_SegmentationChecks.j2 kj11 false)) else (sleuthlaw44_SegmentationChecks.j2 kj11 false))) = some r := H
   have A36 := Aside0.mk A360
   clear A360
   replace H := Option.bind_eq_some_iff.mp H
   obtain ⟨⟨t390, t393⟩, A370, H⟩ := H
   replace H : (if t369 = t358 then (if t374 = t358 then (if t381 = t358 then (if t384 = t358 then ((segmentation_Verify.f kj11 l0 a1 ([] : List Int) ([] : List Int) 0).bind fun t394 => (if t394 = t358 then (if t389 = t387 then (sleuthlaw44_SegmentationChecks.j2 kj11 (t393 == t387)) else (sleuthlaw44_SegmentationChecks.j2 kj11 false)) else (sleuthlaw44_SegmentationChecks.j2 kj11 false))) else (sleuthlaw44_SegmentationChecks.j2 kj11 false)) else (sleuthlaw44_SegmentationChecks.j2 kj11 false)) else (sleuthlaw44_SegmentationChecks.j2 kj11 false)) else (sleuthlaw44_SegmentationChecks.j2 kj11 false)) = some r := H
   have A37 := Aside0.mk A370
   clear A370
   have HC38 := Aside0.mk H
   clear H
   go_upto_region 15 with (first | ((with_reducible refine gate_callee (f := 27) rfl ?_); refine goesL_ (some 51) rfl rfl Try.func27 (by kernel_rfl) rfl #[.slice A0 l0.length c0, .int .i64 a1, .slice none 0 0] rfl qyd_2 ?_; (refine (segmentation_Total.calls kj11 _ _ l0 a1 _ _ ([] : List Int) t368 t369 _ ?side1 ?side2 ?side3 ?side4 A31.out).mono ?_); (case side1 => exact qyd_4); (case side2 => exact HC0.out); (case side3 => exact Kd.C_nil _ _); (case side4 => exact Nat.le_refl _); rintro e w39 ⟨rfl, hb⟩; refine ⟨_, rfl, ?_⟩; have n0_ := Aside0.mk (below_step qyd_1 hb); clear HB; have HB := n0_; clear n0_; (try clear hb); (try clear hb2); (try clear hk); (try clear hi)) | ((with_reducible refine gate_callee (f := 15) rfl ?_); refine goesL_ (some 57) rfl rfl Try.func15 (by kernel_rfl) rfl #[.slice A0 l0.length c0, .int .i64 a1] rfl qyd_2 ?_; (with_reducible refine (segmentation_Best.calls kj11 _ _ l0 a1 t370 t373 t374 _ ?side1 ?side2 A32.out).mono ?_); (case side1 => exact qyd_4); (case side2 => exact HC0.out); rintro e w40 ⟨v371, rfl, ho0, hb⟩; refine ⟨_, rfl, ?_⟩; have n0_ := Aside0.mk (Kd.R_lower ho0 (below_size qyd_1)); have n1_ := Aside0.mk (below_step qyd_1 hb); clear HB; have HO372 := n0_; have HB := n1_; clear n0_ n1_; (try clear hb); (try clear hb2); (try clear hk); (try clear hi); (try clear ho0)) | ((with_reducible refine gate_dst (N := 8) rfl ?_); (try (refine gate_guard (by rfl) ?_; dsimp only)); refine box_event ?hg (N := 8) ?hd (cs := #[.slice none 0 0, .int .i64 0]) (t := 27) ?hr ?_; (case hd => rfl); (case hg => rfl); (case hr => first | (go_simp; done) | (go_simp; rfl)); intro gb375 hg w41 hbox hb; have n0_ := Aside0.mk (Kd.R_below qyd_9 hb); have n1_ := Aside0.mk (below_step qyd_1 hb); have n2_ := Aside0.mk (hbox); have n3_ := Aside0.mk ((by rw [hg]; exact (below_size qyd_1) : w.heap.size ≤ gb375)); have n4_ := Aside0.mk ((by rw [hg]; exact (below_size qyd_1) : w.heap.size ≤ gb375)); clear HO372; clear HB; have HO372 := n0_; have HB := n1_; have BK375 := n2_; have GW375 := n3_; have GE375 := n4_; clear n0_ n1_ n2_ n3_ n4_; clear hb hbox hg; obtain ⟨Ao42, co42, eo42⟩ := Kd.R_slice HO372.out; subst eo42; have hcz43_0 : w41.cell? ⟨gb375, 0, none⟩ = some (.slice none 0 0) := (blk_cell BK375.out 0).trans rfl; have hcz43_1 : w41.cell? ⟨gb375, 1, none⟩ = some (.int .i64 0) := (blk_cell BK375.out 1).trans rfl; have hfz43_0 := blk_frozen BK375.out 0; have hfz43_1 := blk_frozen BK375.out 1) | ((with_reducible refine gate_callee (f := 25) rfl ?_); refine goesL_ (some 63) rfl rfl Try.func25 (by kernel_rfl) rfl #[.slice A0 l0.length c0, .int .i64 a1] rfl qyd_2 ?_; (with_reducible refine (segmentation_Pruned.calls kj11 _ _ l0 a1 t376 t379 t380 t381 _ ?side1 ?side2 A33.out).mono ?_); (case side1 => exact Kd.C_below HR0.out qyd_6); (case side2 => exact HC0.out); rintro e w44 ⟨v377, rfl, ho0, hb⟩; refine ⟨_, rfl, ?_⟩; have n0_ := Aside0.mk (Kd.R_elder' qyd_14 (Kd.R_base ho0) hb); have n1_ := Aside0.mk (Kd.R_lower (Kd.R_new' ho0 (Kd.R_lt qyd_14)) (below_size qyd_6)); have n2_ := Aside0.mk (blk_below (g := gb375) (o := .cells #[.slice Ao42 t370.length co42, .int .i64 t373] 27 (0, 0)) (by (with_reducible repeat (first | refine blk_drewN ?_ _ | refine blk_drew ?_ | refine blk_alloc ?_ _)); refine blk_put (cs := #[.slice Ao42 t370.length co42, .int .i64 0]) ?_ 1 _ rfl; (with_reducible repeat (first | refine blk_drewN ?_ _ | refine blk_drew ?_ | refine blk_alloc ?_ _)); refine blk_put (cs := #[.slice none 0 0, .int .i64 0]) ?_ 0 _ rfl; (with_reducible repeat (first | refine blk_drewN ?_ _ | refine blk_drew ?_ | refine blk_alloc ?_ _)); exact BK375.out) hb); have n3_ := Aside0.mk (below_step qyd_6 hb); clear HO372; clear BK375; clear HB; have HO372 := n0_; have HO378 := n1_; have BK375 := n2_; have HB := n3_; clear n0_ n1_ n2_ n3_; (try clear hb); (try clear hb2); (try clear hk); (try clear hi); (try clear ho0)) | ((with_reducible refine gate_dst (N := 10) rfl ?_); (try (refine gate_guard (by rfl) ?_; dsimp only)); refine box_event ?hg (N := 10) ?hd (cs := #[.slice none 0 0, .int .i64 0]) (t := 27) ?hr ?_; (case hd => rfl); (case hg => rfl); (case hr => first | (go_simp; done) | (go_simp; rfl)); intro gb382 hg w45 hbox hb; have n0_ := Aside0.mk (Kd.R_below qyd_9 hb); have n1_ := Aside0.mk (Kd.R_below qyd_10 hb); have n2_ := Aside0.mk (blk_below (g := gb375) (o := .cells #[.slice Ao42 t370.length co42, .int .i64 t373] 27 (0, 0)) qyd_3 hb); have n3_ := Aside0.mk (below_step qyd_6 hb); have n4_ := Aside0.mk (hbox); have n5_ := Aside0.mk ((by rw [hg]; exact (below_size qyd_6) : w.heap.size ≤ gb382)); have n6_ := Aside0.mk ((by rw [hg]; exact (below_size qyd_6) : w.heap.size ≤ gb382)); have n7_ := Aside0.mk ((by rw [hg]; exact Nat.ne_of_lt (blk_lt (g := gb375) (o := .cells #[.slice Ao42 t370.length co42, .int .i64 t373] 27 (0, 0)) qyd_3) : gb375 ≠ gb382)); have n8_ := Aside0.mk ((by rw [hg]; exact Nat.ne_of_gt (blk_lt (g := gb375) (o := .cells #[.slice Ao42 t370.length co42, .int .i64 t373] 27 (0, 0)) qyd_3) : gb382 ≠ gb375)); clear HO372; clear HO378; clear BK375; clear HB; have HO372 := n0_; have HO378 := n1_; have BK375 := n2_; have HB := n3_; have BK382 := n4_; have GW382 := n5_; have GE382 := n6_; have NB375_382 := n7_; have NB382_375 := n8_; clear n0_ n1_ n2_ n3_ n4_ n5_ n6_ n7_ n8_; clear hb hbox hg; obtain ⟨Ao46, co46, eo46⟩ := Kd.R_slice HO378.out; subst eo46; have hnb47 := NB382_375.out; have hnc47 := NB375_382.out; have hcz48_0 : w45.cell? ⟨gb382, 0, none⟩ = some (.slice none 0 0) := (blk_cell BK382.out 0).trans rfl; have hcz48_1 : w45.cell? ⟨gb382, 1, none⟩ = some (.int .i64 0) := (blk_cell BK382.out 1).trans rfl; have hfz48_0 := blk_frozen BK382.out 0; have hfz48_1 := blk_frozen BK382.out 1) | ((with_reducible refine gate_callee (f := 18) rfl ?_); refine goesL_ (some 70) rfl rfl Try.func18 (by kernel_rfl) rfl #[.slice A0 l0.length c0, .int .i64 a1] rfl qyd_2 ?_; (with_reducible refine (segmentation_Potentials.calls kj11 _ _ l0 a1 t383 t384 _ ?side1 ?side2 A34.out).mono ?_); (case side1 => exact Kd.C_below HR0.out qyd_0); (case side2 => exact HC0.out); rintro e w49 ⟨v385, rfl, ho0, hb⟩; refine ⟨_, rfl, ?_⟩; have n0_ := Aside0.mk (Kd.R_elder' qyd_15 (Kd.R_base ho0) hb); have n1_ := Aside0.mk (Kd.R_elder' qyd_16 (Kd.R_base ho0) hb); have n2_ := Aside0.mk (Kd.R_lower (Kd.R_new' (Kd.R_new' ho0 (Kd.R_lt qyd_15)) (Kd.R_lt qyd_16)) (below_size qyd_0)); have n3_ := Aside0.mk (blk_below (g := gb375) (o := .cells #[.slice Ao42 t370.length co42, .int .i64 t373] 27 (0, 0)) (by (with_reducible repeat (first | refine blk_drewN ?_ _ | refine blk_drew ?_ | refine blk_alloc ?_ _)); refine blk_far ?_ NB375_382.out _; (with_reducible repeat (first | refine blk_drewN ?_ _ | refine blk_drew ?_ | refine blk_alloc ?_ _)); refine blk_far ?_ NB375_382.out _; (with_reducible repeat (first | refine blk_drewN ?_ _ | refine blk_drew ?_ | refine blk_alloc ?_ _)); exact BK375.out) hb); have n4_ := Aside0.mk (blk_below (g := gb382) (o := .cells #[.slice Ao46 t376.length co46, .int .i64 t379] 27 (0, 0)) (by (with_reducible repeat (first | refine blk_drewN ?_ _ | refine blk_drew ?_ | refine blk_alloc ?_ _)); refine blk_put (cs := #[.slice Ao46 t376.length co46, .int .i64 0]) ?_ 1 _ rfl; (with_reducible repeat (first | refine blk_drewN ?_ _ | refine blk_drew ?_ | refine blk_alloc ?_ _)); refine blk_put (cs := #[.slice none 0 0, .int .i64 0]) ?_ 0 _ rfl; (with_reducible repeat (first | refine blk_drewN ?_ _ | refine blk_drew ?_ | refine blk_alloc ?_ _)); exact BK382.out) hb); have n5_ := Aside0.mk (below_step qyd_0 hb); clear HO372; clear HO378; clear BK375; clear BK382; clear HB; have HO372 := n0_; have HO378 := n1_; have HO386 := n2_; have BK375 := n3_; have BK382 := n4_; have HB := n5_; clear n0_ n1_ n2_ n3_ n4_ n5_; (try clear hb); (try clear hb2); (try clear hk); (try clear hi); (try clear ho0)) | ((with_reducible refine gate_callee (f := 23) rfl ?_); refine goesL_ (some 74) rfl rfl Try.func23 (by kernel_rfl) rfl #[.slice A0 l0.length c0, .int .i64 0] rfl qyd_2 ?_; (with_reducible refine (sleuthlaw44_check.calls kj11 _ _ l0 0 t387 _ ?side1 ?side2 A35.out).mono ?_); (case side1 => exact qyd_4); (case side2 => exact HC0.out); rintro e w' ⟨rfl, ⟨nd, rfl⟩⟩; refine ⟨_, rfl, ?_⟩) | ((with_reducible refine gate_callee (f := 31) rfl ?_); refine goesL_ (some 77) rfl rfl Try.func31 (by kernel_rfl) rfl #[.slice A0 l0.length c0, .int .i64 0, .int .i64 1] rfl qyd_2 ?_; (with_reducible refine (segmentation_Median.calls kj11 _ _ l0 0 1 t388 t389 _ ?side1 ?side2 A36.out).mono ?_); (case side1 => repeat (first | exact (Kd.C_below HR0.out qyd_0) | (with_reducible refine Kd.C_alloc ?_ _) | (with_reducible refine Kd.C_drewN ?_ _) | (with_reducible refine Kd.C_drew ?_))); (case side2 => exact HC0.out); rintro e w50 ⟨rfl, hb⟩; refine ⟨_, rfl, ?_⟩; have n0_ := Aside0.mk (Kd.R_below qyd_9 hb); have n1_ := Aside0.mk (Kd.R_below qyd_10 hb); have n2_ := Aside0.mk (Kd.R_below qyd_11 hb); have n3_ := Aside0.mk (blk_below (g := gb375) (o := .cells #[.slice Ao42 t370.length co42, .int .i64 t373] 27 (0, 0)) qyd_3 hb); have n4_ := Aside0.mk (blk_below (g := gb382) (o := .cells #[.slice Ao46 t376.length co46, .int .i64 t379] 27 (0, 0)) qyd_5 hb); have n5_ := Aside0.mk (below_step qyd_0 hb); clear HO372; clear HO378; clear HO386; clear BK375; clear BK382; clear HB; have HO372 := n0_; have HO378 := n1_; have HO386 := n2_; have BK375 := n3_; have BK382 := n4_; have HB := n5_; clear n0_ n1_ n2_ n3_ n4_ n5_; (try clear hb); (try clear hb2); (try clear hk); (try clear hi)) | ((with_reducible refine gate_callee (f := 35) rfl ?_); refine goesL_ (some 82) rfl rfl Try.func35 (by kernel_rfl) rfl #[.slice A0 l0.length c0, .int .i64 0] rfl qyd_2 ?_; (with_reducible refine (segmentation_Counts.calls kj11 _ _ l0 0 t390 t393 _ ?side1 ?side2 A37.out).mono ?_); (case side1 => exact qyd_4); (case side2 => exact HC0.out); rintro e w51 ⟨v391, rfl, ho0, hb⟩; refine ⟨_, rfl, ?_⟩; have n0_ := Aside0.mk (Kd.R_below qyd_9 hb); have n1_ := Aside0.mk (Kd.R_below qyd_10 hb); have n2_ := Aside0.mk (Kd.R_below qyd_11 hb); have n3_ := Aside0.mk (Kd.N_lower (Kd.N_mono (ok' := fun k_ => some k_ ≠ (.slice Ao42 t370.length co42 : Value).ownBlock ∧ some k_ ≠ (.slice Ao46 t376.length co46 : Value).ownBlock ∧ some k_ ≠ (v385 : Value).ownBlock ∧ k_ ≠ gb375 ∧ k_ ≠ gb382) ho0 (fun k_ hk_ => ⟨(Kd.fresh' (Kd.R_lt qyd_9) k_ hk_), (Kd.fresh' (Kd.R_lt qyd_10) k_ hk_), (Kd.fresh' (Kd.R_lt qyd_11) k_ hk_), (Kd.freshB (g := gb375) (o := .cells #[.slice Ao42 t370.length co42, .int .i64 t373] 27 (0, 0)) qyd_3 k_ hk_), (Kd.freshB (g := gb382) (o := .cells #[.slice Ao46 t376.length co46, .int .i64 t379] 27 (0, 0)) qyd_5 k_ hk_)⟩)) (below_size qyd_0)); have n4_ := Aside0.mk (blk_below (g := gb375) (o := .cells #[.slice Ao42 t370.length co42, .int .i64 t373] 27 (0, 0)) qyd_3 hb); have n5_ := Aside0.mk (blk_below (g := gb382) (o := .cells #[.slice Ao46 t376.length co46, .int .i64 t379] 27 (0, 0)) qyd_5 hb); have n6_ := Aside0.mk (below_step qyd_0 hb); clear HO372; clear HO378; clear HO386; clear BK375; clear BK382; clear HB; have HO372 := n0_; have HO378 := n1_; have HO386 := n2_; have HO392 := n3_; have BK375 := n4_; have BK382 := n5_; have HB := n6_; clear n0_ n1_ n2_ n3_ n4_ n5_ n6_; (try clear hb); (try clear hb2); (try clear hk); (try clear hi); (try clear ho0)))
   (try simp only [Act.put, List.setIfInBounds_toArray, List.set_cons_zero, List.set_cons_succ])
   go_cut [4] (fun v4 wc => ∃ (kq : Nat) (x4_37 : Bool), v4 = .bool x4_37 ∧ Aside0 (sleuthlaw44_SegmentationChecks.j2 kq x4_37 = some r) ∧ Aside0 (kq ≤ kj11) ∧ Aside0 (Kd.R (Kd.int .i64) 3 wc w.heap.size (fun k_ => some k_ ≠ ((.slice Ao46 t376.length co46) : Value).ownBlock) (.slice Ao42 t370.length co42) t370) ∧ Aside0 (Kd.R (Kd.int .i64) 3 wc w.heap.size (fun k_ => some k_ ≠ ((.slice Ao42 t370.length co42) : Value).ownBlock) (.slice Ao46 t376.length co46) t376) ∧ Aside0 (wc.heap[gb375]? = some (.cells #[(.slice Ao42 t370.length co42), .int .i64 t373] 27 (0, 0))) ∧ Aside0 (wc.heap[gb382]? = some (.cells #[(.slice Ao46 t376.length co46), .int .i64 t379] 27 (0, 0))) ∧ Aside0 (Below w.heap.size w wc))
   case first =>
    have H := HC38.out
    clear HC38
    by_cases c52 : t369 = t358
    rotate_left
    ·rw [if_neg c52] at H
     have c52b0 : (t369 == t358) = false := beq_eq_false_iff_ne.mpr c52
     have c52b1 : (t369 != t358) = true := bne_iff_ne.mpr c52
     (first | rw [c52b0] | (simp only [i64_w, i32_w]; rw [c52b0]) | skip)
     have H' := Aside0.mk H
     clear H
     go_wp2
     go_meet
     case rel => exact ⟨_, (false), qyd_12, H', ⟨qyd_13⟩, ⟨qyd_7⟩, ⟨qyd_8⟩, ⟨qyd_3⟩, ⟨qyd_5⟩, ⟨qyd_0⟩⟩
    rw [if_pos c52] at H
    have c52b0 : (t369 == t358) = true := beq_iff_eq.mpr c52
    have c52b1 : (t369 != t358) = false := bne_eq_false_iff_eq.mpr c52
    clear c52
    (first | rw [c52b0] | (simp only [i64_w, i32_w]; rw [c52b0]) | skip)
    by_cases c53 : t374 = t358
    rotate_left
    ·rw [if_neg c53] at H
     have c53b0 : (t374 == t358) = false := beq_eq_false_iff_ne.mpr c53
     have c53b1 : (t374 != t358) = true := bne_iff_ne.mpr c53
     have H' := Aside0.mk H
     clear H
     go_wp2
     go_meet
     case rel => exact ⟨_, (false), qyd_12, H', ⟨qyd_13⟩, ⟨qyd_7⟩, ⟨qyd_8⟩, ⟨qyd_3⟩, ⟨qyd_5⟩, ⟨qyd_0⟩⟩
    rw [if_pos c53] at H
    have c53b0 : (t374 == t358) = true := beq_iff_eq.mpr c53
    have c53b1 : (t374 != t358) = false := bne_eq_false_iff_eq.mpr c53
    clear c53
    by_cases c54 : t381 = t358
    rotate_left
    ·rw [if_neg c54] at H
     have c54b0 : (t381 == t358) = false := beq_eq_false_iff_ne.mpr c54
     have c54b1 : (t381 != t358) = true := bne_iff_ne.mpr c54
     have H' := Aside0.mk H
     clear H
     go_wp2
     go_meet
     case rel => exact ⟨_, (false), qyd_12, H', ⟨qyd_13⟩, ⟨qyd_7⟩, ⟨qyd_8⟩, ⟨qyd_3⟩, ⟨qyd_5⟩, ⟨qyd_0⟩⟩
    rw [if_pos c54] at H
    have c54b0 : (t381 == t358) = true := beq_iff_eq.mpr c54
    have c54b1 : (t381 != t358) = false := bne_eq_false_iff_eq.mpr c54
    clear c54
    by_cases c55 : t384 = t358
    rotate_left
    ·rw [if_neg c55] at H
     have c55b0 : (t384 == t358) = false := beq_eq_false_iff_ne.mpr c55
     have c55b1 : (t384 != t358) = true := bne_iff_ne.mpr c55
     have H' := Aside0.mk H
     clear H
     go_wp2
     go_meet
     case rel => exact ⟨_, (false), qyd_12, H', ⟨qyd_13⟩, ⟨qyd_7⟩, ⟨qyd_8⟩, ⟨qyd_3⟩, ⟨qyd_5⟩, ⟨qyd_0⟩⟩
    rw [if_pos c55] at H
    have c55b0 : (t384 == t358) = true := beq_iff_eq.mpr c55
    have c55b1 : (t384 != t358) = false := bne_eq_false_iff_eq.mpr c55
    clear c55
    replace H := Option.bind_eq_some_iff.mp H
    obtain ⟨t394, A560, H⟩ := H
    replace H : (if t394 = t358 then (if t389 = t387 then (sleuthlaw44_SegmentationChecks.j2 kj11 (t393 == t387)) else (sleuthlaw44_SegmentationChecks.j2 kj11 false)) else (sleuthlaw44_SegmentationChecks.j2 kj11 false)) = some r := H
    have A56 := Aside0.mk A560
    clear A560
    by_cases c57 : t394 = t358
    rotate_left
    ·rw [if_neg c57] at H
     have c57b0 : (t394 == t358) = false := beq_eq_false_iff_ne.mpr c57
     have c57b1 : (t394 != t358) = true := bne_iff_ne.mpr c57
     have H' := Aside0.mk H
     clear H
     go_wp2_with (first | (go_at_call 20; (refine (segmentation_Verify.calls kj11 _ _ l0 a1 _ _ ([] : List Int) _ _ ([] : List Int) 0 t394 _ ?side1 ?side2 ?side3 ?side4 ?side5 ?side6 A56.out).mono ?_); (case side1 => exact qyd_4); (case side2 => exact HC0.out); (case side3 => exact Kd.C_nil _ _); (case side4 => exact Nat.le_refl _); (case side5 => exact Kd.C_nil _ _); (case side6 => exact Nat.le_refl _); rintro e w61 ⟨rfl, hb⟩; have n0_ := Aside0.mk (Kd.R_below qyd_9 hb); have n1_ := Aside0.mk (Kd.R_below qyd_10 hb); have n2_ := Aside0.mk (Kd.R_below qyd_11 hb); have n3_ := Aside0.mk (Kd.N_below qyd_18 hb); have n4_ := Aside0.mk (blk_below (g := gb375) (o := .cells #[.slice Ao42 t370.length co42, .int .i64 t373] 27 (0, 0)) qyd_3 hb); have n5_ := Aside0.mk (blk_below (g := gb382) (o := .cells #[.slice Ao46 t376.length co46, .int .i64 t379] 27 (0, 0)) qyd_5 hb); have n6_ := Aside0.mk (below_step qyd_0 hb); clear HO372; clear HO378; clear HO386; clear HO392; clear BK375; clear BK382; clear HB; have HO372 := n0_; have HO378 := n1_; have HO386 := n2_; have HO392 := n3_; have BK375 := n4_; have BK382 := n5_; have HB := n6_; clear n0_ n1_ n2_ n3_ n4_ n5_ n6_; (try clear hb); (try clear hb2); (try clear hk); (try clear hi)))
     go_meet
     case rel => exact ⟨_, (false), qyd_12, H', ⟨qyd_13⟩, ⟨qyd_7⟩, ⟨qyd_8⟩, ⟨qyd_3⟩, ⟨qyd_5⟩, ⟨qyd_0⟩⟩
    rw [if_pos c57] at H
    have c57b0 : (t394 == t358) = true := beq_iff_eq.mpr c57
    have c57b1 : (t394 != t358) = false := bne_eq_false_iff_eq.mpr c57
    clear c57
    by_cases c58 : t389 = t387
    rotate_left
    ·rw [if_neg c58] at H
     have c58b0 : (t389 == t387) = false := beq_eq_false_iff_ne.mpr c58
     have c58b1 : (t389 != t387) = true := bne_iff_ne.mpr c58
     have H' := Aside0.mk H
     clear H
     go_wp2_with (first | (go_at_call 20; (refine (segmentation_Verify.calls kj11 _ _ l0 a1 _ _ ([] : List Int) _ _ ([] : List Int) 0 t394 _ ?side1 ?side2 ?side3 ?side4 ?side5 ?side6 A56.out).mono ?_); (case side1 => exact qyd_4); (case side2 => exact HC0.out); (case side3 => exact Kd.C_nil _ _); (case side4 => exact Nat.le_refl _); (case side5 => exact Kd.C_nil _ _); (case side6 => exact Nat.le_refl _); rintro e w60 ⟨rfl, hb⟩; have n0_ := Aside0.mk (Kd.R_below qyd_9 hb); have n1_ := Aside0.mk (Kd.R_below qyd_10 hb); have n2_ := Aside0.mk (Kd.R_below qyd_11 hb); have n3_ := Aside0.mk (Kd.N_below qyd_18 hb); have n4_ := Aside0.mk (blk_below (g := gb375) (o := .cells #[.slice Ao42 t370.length co42, .int .i64 t373] 27 (0, 0)) qyd_3 hb); have n5_ := Aside0.mk (blk_below (g := gb382) (o := .cells #[.slice Ao46 t376.length co46, .int .i64 t379] 27 (0, 0)) qyd_5 hb); have n6_ := Aside0.mk (below_step qyd_0 hb); clear HO372; clear HO378; clear HO386; clear HO392; clear BK375; clear BK382; clear HB; have HO372 := n0_; have HO378 := n1_; have HO386 := n2_; have HO392 := n3_; have BK375 := n4_; have BK382 := n5_; have HB := n6_; clear n0_ n1_ n2_ n3_ n4_ n5_ n6_; (try clear hb); (try clear hb2); (try clear hk); (try clear hi)))
     go_meet
     case rel => exact ⟨_, (false), qyd_12, H', ⟨qyd_13⟩, ⟨qyd_7⟩, ⟨qyd_8⟩, ⟨qyd_3⟩, ⟨qyd_5⟩, ⟨qyd_0⟩⟩
    rw [if_pos c58] at H
    have c58b0 : (t389 == t387) = true := beq_iff_eq.mpr c58
    have c58b1 : (t389 != t387) = false := bne_eq_false_iff_eq.mpr c58
    clear c58
    have H' := Aside0.mk H
    clear H
    go_wp2_with (first | (go_at_call 20; (refine (segmentation_Verify.calls kj11 _ _ l0 a1 _ _ ([] : List Int) _ _ ([] : List Int) 0 t394 _ ?side1 ?side2 ?side3 ?side4 ?side5 ?side6 A56.out).mono ?_); (case side1 => exact qyd_4); (case side2 => exact HC0.out); (case side3 => exact Kd.C_nil _ _); (case side4 => exact Nat.le_refl _); (case side5 => exact Kd.C_nil _ _); (case side6 => exact Nat.le_refl _); rintro e w59 ⟨rfl, hb⟩; have n0_ := Aside0.mk (Kd.R_below qyd_9 hb); have n1_ := Aside0.mk (Kd.R_below qyd_10 hb); have n2_ := Aside0.mk (Kd.R_below qyd_11 hb); have n3_ := Aside0.mk (Kd.N_below qyd_18 hb); have n4_ := Aside0.mk (blk_below (g := gb375) (o := .cells #[.slice Ao42 t370.length co42, .int .i64 t373] 27 (0, 0)) qyd_3 hb); have n5_ := Aside0.mk (blk_below (g := gb382) (o := .cells #[.slice Ao46 t376.length co46, .int .i64 t379] 27 (0, 0)) qyd_5 hb); have n6_ := Aside0.mk (below_step qyd_0 hb); clear HO372; clear HO378; clear HO386; clear HO392; clear BK375; clear BK382; clear HB; have HO372 := n0_; have HO378 := n1_; have HO386 := n2_; have HO392 := n3_; have BK375 := n4_; have BK382 := n5_; have HB := n6_; clear n0_ n1_ n2_ n3_ n4_ n5_ n6_; (try clear hb); (try clear hb2); (try clear hk); (try clear hi)))
    go_meet
    case rel => exact ⟨_, ((t393 == t387)), qyd_12, H', ⟨qyd_13⟩, ⟨qyd_7⟩, ⟨qyd_8⟩, ⟨qyd_3⟩, ⟨qyd_5⟩, ⟨qyd_0⟩⟩
   clear HC38
   try clear c1
   try clear c2
   try clear p2
   try clear c3
   try clear c4
   try clear c5
   try clear c8
   try clear c12
   try clear c13
   try clear c14
   try clear c14b0
   try clear c14b1
   try clear c15
   try clear c15b0
   try clear c15b1
   try clear c17
   try clear c17b0
   try clear c17b1
   try clear c18
   try clear c18b0
   try clear c18b1
   try clear c23
   try clear c25
   try clear c27
   try clear c29
   try clear c30
   try clear c30b0
   try clear c30b1
   try clear c31
   try clear c35
   try clear c36
   try clear c47
   try clear c52
   try clear c52b0
   try clear c52b1
   try clear c53
   try clear c53b0
   try clear c53b1
   try clear c54
   try clear c54b0
   try clear c54b1
   try clear c55
   try clear c55b0
   try clear c55b1
   try clear c57
   try clear c57b0
   try clear c57b1
   try clear c58
   try clear c58b0
   try clear c58b1
   try clear hcz43_0
   try clear hcz43_1
   try clear hcz48_0
   try clear hcz48_1
   try clear hfz43_0
   try clear hfz43_1
   try clear hfz48_0
   try clear hfz48_1
   try clear p2
   obtain ⟨kq, x4_37, rfl, HA, HJ37, HO_376000, HO_383000, BK375, BK382, HB⟩ := hcut
   cases kq with
   | zero => exact absurd HA.out (by simp [sleuthlaw44_SegmentationChecks.j2])
   | succ kj37 =>
    have H := HA.out
    clear HA
    simp only [sleuthlaw44_SegmentationChecks.j2] at H
    obtain rfl := Option.some.inj H
    go_wp2
    go_ret
    exact ⟨qyd_17, qyd_0⟩

/-- THE ONE PURE STATEMENT of sleuthlaw44_SegmentationChecks: yours. -/
def sleuthlaw44_SegmentationChecks.Pure : Prop := ∀ (l0 : List Int) (a1 : Int), l0.length ≤ maxLen → l0.length * 8 ≤ 140737488351232 → (∀ x ∈ l0, (Lit.int .i64 x).wf = true) → (Lit.int .i64 a1).wf = true → ∃ k, sleuthlaw44_SegmentationChecks.f k l0 a1 = some true
theorem sleuthlaw44_SegmentationChecks.walk (P : sleuthlaw44_SegmentationChecks.Pure) (a0 : Option Addr) (len0 cap0 : Nat) (z0 : List Int) (a1 : Int) (w : World) (w0 : (a0 = none ∧ len0 = 0 ∧ cap0 = 0 ∧ z0 = []) ∨ ∃ x, a0 = some x ∧ len0 ≤ cap0 ∧ cap0 ≤ maxLen ∧ z0.length = cap0 ∧ (∀ i, i < z0.length → w.cell? (x.add i) = some (.int .i64 (z0.getD i 0))) ∧ ∀ n ∈ z0, (Lit.int .i64 n).wf = true) (y0 : len0 * 8 ≤ 140737488351232) (w1 : (Lit.int .i64 a1).wf = true) :
  Calls Try.prog 12 #[.slice a0 len0 cap0, .int .i64 a1] w fun e w' => e = .returned (.bool true) ∧ Below w.heap.size w w' := by
 obtain ⟨l0, rfl, hr0, hm0, hw0, hc0⟩ := ReadsInt.ofRowC w0
 obtain ⟨k, h⟩ := P l0 a1 hm0 y0 hw0 w1
 refine (sleuthlaw44_SegmentationChecks.calls k _ _ l0 a1 true w (Kd.C_of_reads (d := (0 : Int)) (h1 := fun _ => rfl) hr0) hc0 h).mono ?_
 rintro e w' ⟨rfl, hd⟩
 exact ⟨rfl, hd⟩

end Go.Proofs.Ytiimanpmidnffaa.Q
