-- Laid by myprint.py (a program of this session's, over the kit's printer and with functions proved by hand)
import Derived.Test.YtcjgmofgfblmnaaTy
import Derived.Test.YtcjgmofgfblmnaaQgBase
import Derived.Test.YtcjgmofgfblmnaaQgChangepointOf
import Derived.Test.YtcjgmofgfblmnaaQgKnown
namespace Go.Proofs.Ytcjgmofgfblmnaa.Q
open Go.RowKit Go.Proofs.YtcjgmofgfblmnaaW.PrintWords Go.Proofs.YtcjgmofgfblmnaaW.PrintLast Go.Proofs.YtcjgmofgfblmnaaW.PrintMore
attribute [local go_sem] max2_int min2_int max_two min_two max_three min_three max_four min_four   -- for this text's walks alone
set_option linter.unusedVariables false
set_option linter.unusedSimpArgs false

theorem qgsleuthlaw45changepointshifts_0 {p : Prop} (h : p := by repeat (first | (with_reducible first | exact HB.out | apply below_alloc | apply pw_below_drewN | apply below_drew1 | refine below_set ?_ GE605.out) | exact HB.out)) : p := h
theorem qgsleuthlaw45changepointshifts_1 {p : Prop} (h : p := by (with_reducible repeat (first | refine blk_drewN ?_ _ | refine blk_drew ?_ | refine blk_alloc ?_ _)); exact BK605.out) : p := h
theorem qgsleuthlaw45changepointshifts_2 {p : Prop} (h : p := by (with_reducible repeat (first | apply Kd.R_alloc | apply Kd.R_drewN | apply Kd.R_drew)); exact HO616.out) : p := h
theorem qgsleuthlaw45changepointshifts_3 {p : Prop} (h : p := by repeat (first | (with_reducible first | exact HB.out | apply below_alloc | apply pw_below_drewN | apply below_drew1) | exact HB.out)) : p := h
theorem qgsleuthlaw45changepointshifts_4 {p : Prop} (h : p := by first | (with_reducible assumption) | assumption) : p := h
theorem qgsleuthlaw45changepointshifts_5 {p : Prop} (h : p := by repeat (first | exact (Kd.C_below HR0.out HB.out) | (with_reducible refine Kd.C_alloc ?_ _) | (with_reducible refine Kd.C_drewN ?_ _) | (with_reducible refine Kd.C_drew ?_))) : p := h
theorem qgsleuthlaw45changepointshifts_6 {p : Prop} (h : p := by (with_reducible repeat (first | apply Kd.R_alloc | apply Kd.R_drewN | apply Kd.R_drew)); exact HO619.out) : p := h
theorem qgsleuthlaw45changepointshifts_7 {p : Prop} (h : p := by first | rfl | (simp [errW_none, errW_some] <;> rfl) | (simp [*, errW_none, errW_some] <;> rfl)) : p := h
theorem qgsleuthlaw45changepointshifts_8 {p : Prop} (h : p := by repeat (first | exact (Kd.R_reads' HO616.out).2.2 | (with_reducible refine Kd.C_alloc ?_ _) | (with_reducible refine Kd.C_drewN ?_ _) | (with_reducible refine Kd.C_drew ?_))) : p := h
theorem qgsleuthlaw45changepointshifts_9 {p : Prop} (h : p := by repeat (first | exact (Kd.R_reads' HO629.out).2.2 | (with_reducible refine Kd.C_alloc ?_ _) | (with_reducible refine Kd.C_drewN ?_ _) | (with_reducible refine Kd.C_drew ?_))) : p := h
theorem qgsleuthlaw45changepointshifts_10 {p : Prop} (h : p := by (with_reducible repeat (first | apply Kd.R_alloc | apply Kd.R_drewN | apply Kd.R_drew)); exact Kd.R_mono HO619.out (fun _ hk => hk.2)) : p := h
theorem qgsleuthlaw45changepointshifts_11 {p : Prop} (h : p := by (with_reducible repeat (first | apply Kd.R_alloc | apply Kd.R_drewN | apply Kd.R_drew)); exact Kd.R_mono HO632.out (fun _ hk => hk.2)) : p := h
/-! ### sleuthlaw45_ChangepointShifts: function 9 -/
mutual
def sleuthlaw45_ChangepointShifts.j0 : Nat → List Int → Int → Bool → Int → Int → Option (Bool)
 | 0, _, _, _, _, _ => none
 | k + 1, x0, x1, x18, x606000, x606001 => if x18 = true then ((sleuthlaw45_known.f k).bind fun t607 => (some t607)) else ((sleuthlaw45_points.f k x606000 x0).bind fun bt608 => ((changepoint_Of.f k bt608.1 bt608.2.1 bt608.2.2.1 bt608.2.2.2.1 bt608.2.2.2.2.1 bt608.2.2.2.2.2.1 bt608.2.2.2.2.2.2 (wrap64 (x1))).bind fun bt617 => ((sleuthlaw45_points.f k x606001 x0).bind fun bt621 => ((changepoint_Of.f k bt621.1 bt621.2.1 bt621.2.2.1 bt621.2.2.2.1 bt621.2.2.2.2.1 bt621.2.2.2.2.2.1 bt621.2.2.2.2.2.2 (wrap64 (x1))).bind fun bt630 => (if bt617.2 = 0 then (if bt630.2 = 0 then (sleuthlaw45_ChangepointShifts.j1 k bt617.1 bt630.1 ((bt617.1.length : Int) != (bt630.1.length : Int)) x606000 x606001) else (sleuthlaw45_ChangepointShifts.j1 k bt617.1 bt630.1 true x606000 x606001)) else (sleuthlaw45_ChangepointShifts.j1 k bt617.1 bt630.1 true x606000 x606001))))))
def sleuthlaw45_ChangepointShifts.j1 : Nat → List (S41) → List (S41) → Bool → Int → Int → Option (Bool)
 | 0, _, _, _, _, _ => none
 | k + 1, x7, x9, x52, x606000, x606001 => if x52 = true then (some false) else (sleuthlaw45_ChangepointShifts.l0 k x7 x9 0 x606000 x606001)
def sleuthlaw45_ChangepointShifts.l0 : Nat → List (S41) → List (S41) → Int → Int → Int → Option (Bool)
 | 0, _, _, _, _, _ => none
 | k + 1, x7, x9, x11, x606000, x606001 => if x11 < (x7.length : Int) then (if 0 ≤ x11 then (if x11 < (x9.length : Int) then (if (wrap64 (((rd_T41 x9 x11).f0) - (wrap64 (x606001)))) = (wrap64 (((rd_T41 x7 x11).f0) - (wrap64 (x606000)))) then (if ((rd_T41 x9 x11).f1) = ((rd_T41 x7 x11).f1) then (if ((rd_T41 x9 x11).f2) = ((rd_T41 x7 x11).f2) then (sleuthlaw45_ChangepointShifts.l0 k x7 x9 (wrap64 (x11 + 1)) x606000 x606001) else (some false)) else (some false)) else (some false)) else (none)) else (none)) else (some true)
end
def sleuthlaw45_ChangepointShifts.f (k : Nat) (l0 : List Int) (a1 : Int) (a2_0 : Int) (a2_1 : Int) : Option (Bool) := (sleuthlaw45_known.f k).bind fun t606 => (if t606 = true then (sleuthlaw45_ChangepointShifts.j0 k l0 a1 ((l0.length : Int) == 0) a2_0 a2_1) else (sleuthlaw45_ChangepointShifts.j0 k l0 a1 true a2_0 a2_1))
theorem sleuthlaw45_ChangepointShifts.mono_l : ∀ k, (∀ y0 y1 y2 y3 y4, LeO (sleuthlaw45_ChangepointShifts.j0 k y0 y1 y2 y3 y4) (sleuthlaw45_ChangepointShifts.j0 (k + 1) y0 y1 y2 y3 y4)) ∧ (∀ y0 y1 y2 y3 y4, LeO (sleuthlaw45_ChangepointShifts.j1 k y0 y1 y2 y3 y4) (sleuthlaw45_ChangepointShifts.j1 (k + 1) y0 y1 y2 y3 y4)) ∧ (∀ y0 y1 y2 y3 y4, LeO (sleuthlaw45_ChangepointShifts.l0 k y0 y1 y2 y3 y4) (sleuthlaw45_ChangepointShifts.l0 (k + 1) y0 y1 y2 y3 y4))
 | 0 => ⟨fun _ _ _ _ _ r h => by simp [sleuthlaw45_ChangepointShifts.j0] at h, fun _ _ _ _ _ r h => by simp [sleuthlaw45_ChangepointShifts.j1] at h, fun _ _ _ _ _ r h => by simp [sleuthlaw45_ChangepointShifts.l0] at h⟩
 | k + 1 => by
  obtain ⟨ih0, ih1, ih2⟩ := sleuthlaw45_ChangepointShifts.mono_l k
  refine ⟨?_, ?_, ?_⟩
  ·intro y0 y1 y2 y3 y4
   unfold sleuthlaw45_ChangepointShifts.j0
   repeat' first
   | (with_reducible exact ih0 _ _ _ _ _)
   | (with_reducible exact ih1 _ _ _ _ _)
   | (with_reducible exact ih2 _ _ _ _ _)
   | (with_reducible exact changepoint_Of.mono _ _ _ _ _ _ _ _ _)
   | (with_reducible exact sleuthlaw45_known.mono _)
   | (with_reducible exact sleuthlaw45_points.mono _ _ _)
   | (with_reducible exact LeO.refl _)
   | (with_reducible exact LeO.none _)
   | (with_reducible refine LeO.ite ?_ ?_)
   | (with_reducible refine LeO.bind ?_ (fun _ => ?_))
   | exact ih0 _ _ _ _ _
   | exact ih1 _ _ _ _ _
   | exact ih2 _ _ _ _ _
   | exact changepoint_Of.mono _ _ _ _ _ _ _ _ _
   | exact sleuthlaw45_known.mono _
   | exact sleuthlaw45_points.mono _ _ _
   | exact LeO.none _
   | refine LeO.ite ?_ ?_
   | refine LeO.bind ?_ (fun _ => ?_)
  ·intro y0 y1 y2 y3 y4
   unfold sleuthlaw45_ChangepointShifts.j1
   repeat' first
   | (with_reducible exact ih0 _ _ _ _ _)
   | (with_reducible exact ih1 _ _ _ _ _)
   | (with_reducible exact ih2 _ _ _ _ _)
   | (with_reducible exact changepoint_Of.mono _ _ _ _ _ _ _ _ _)
   | (with_reducible exact sleuthlaw45_known.mono _)
   | (with_reducible exact sleuthlaw45_points.mono _ _ _)
   | (with_reducible exact LeO.refl _)
   | (with_reducible exact LeO.none _)
   | (with_reducible refine LeO.ite ?_ ?_)
   | (with_reducible refine LeO.bind ?_ (fun _ => ?_))
   | exact ih0 _ _ _ _ _
   | exact ih1 _ _ _ _ _
   | exact ih2 _ _ _ _ _
   | exact changepoint_Of.mono _ _ _ _ _ _ _ _ _
   | exact sleuthlaw45_known.mono _
   | exact sleuthlaw45_points.mono _ _ _
   | exact LeO.none _
   | refine LeO.ite ?_ ?_
   | refine LeO.bind ?_ (fun _ => ?_)
  ·intro y0 y1 y2 y3 y4
   unfold sleuthlaw45_ChangepointShifts.l0
   repeat' first
   | (with_reducible exact ih0 _ _ _ _ _)
   | (with_reducible exact ih1 _ _ _ _ _)
   | (with_reducible exact ih2 _ _ _ _ _)
   | (with_reducible exact changepoint_Of.mono _ _ _ _ _ _ _ _ _)
   | (with_reducible exact sleuthlaw45_known.mono _)
   | (with_reducible exact sleuthlaw45_points.mono _ _ _)
   | (with_reducible exact LeO.refl _)
   | (with_reducible exact LeO.none _)
   | (with_reducible refine LeO.ite ?_ ?_)
   | (with_reducible refine LeO.bind ?_ (fun _ => ?_))
   | exact ih0 _ _ _ _ _
   | exact ih1 _ _ _ _ _
   | exact ih2 _ _ _ _ _
   | exact changepoint_Of.mono _ _ _ _ _ _ _ _ _
   | exact sleuthlaw45_known.mono _
   | exact sleuthlaw45_points.mono _ _ _
   | exact LeO.none _
   | refine LeO.ite ?_ ?_
   | refine LeO.bind ?_ (fun _ => ?_)
theorem sleuthlaw45_ChangepointShifts.mono : ∀ a0 a1 a2 a3 k, LeO (sleuthlaw45_ChangepointShifts.f k a0 a1 a2 a3) (sleuthlaw45_ChangepointShifts.f (k + 1) a0 a1 a2 a3) := by
 intro a0 a1 a2 a3 k
 obtain ⟨ih0, ih1, ih2⟩ := sleuthlaw45_ChangepointShifts.mono_l k
 unfold sleuthlaw45_ChangepointShifts.f
 repeat' first
   | (with_reducible exact ih0 _ _ _ _ _)
   | (with_reducible exact ih1 _ _ _ _ _)
   | (with_reducible exact ih2 _ _ _ _ _)
   | (with_reducible exact changepoint_Of.mono _ _ _ _ _ _ _ _ _)
   | (with_reducible exact sleuthlaw45_known.mono _)
   | (with_reducible exact sleuthlaw45_points.mono _ _ _)
   | (with_reducible exact LeO.refl _)
   | (with_reducible exact LeO.none _)
   | (with_reducible refine LeO.ite ?_ ?_)
   | (with_reducible refine LeO.bind ?_ (fun _ => ?_))
   | exact ih0 _ _ _ _ _
   | exact ih1 _ _ _ _ _
   | exact ih2 _ _ _ _ _
   | exact changepoint_Of.mono _ _ _ _ _ _ _ _ _
   | exact sleuthlaw45_known.mono _
   | exact sleuthlaw45_points.mono _ _ _
   | exact LeO.none _
   | refine LeO.ite ?_ ?_
   | refine LeO.bind ?_ (fun _ => ?_)
set_option maxHeartbeats 8000000 in
set_option maxRecDepth 100000 in
theorem sleuthlaw45_ChangepointShifts.calls (k : Nat) (A0 : Option Addr) (c0 : Nat) (l0 : List Int) (a1 : Int) (a2_0 : Int) (a2_1 : Int) (r : Bool) (w : World) (hr0 : Kd.C (Kd.int .u8) w A0 l0.length l0) (hc0 : l0.length ≤ c0) (h : sleuthlaw45_ChangepointShifts.f k l0 a1 a2_0 a2_1 = some r) :
  Calls Try.prog 9 #[.slice A0 l0.length c0, .int .u8 a1, .agg #[.int .u8 a2_0, .int .u8 a2_1]] w fun e w' => e = .returned (.bool r) ∧ Below w.heap.size w w' := by
 have hu60 := Try.underlying60
 have HR0 := Aside0.mk hr0
 have HC0 := Aside0.mk hc0
 clear hr0 hc0
 have HB := Aside0.mk (Below.refl w.heap.size w)
 have H : ((sleuthlaw45_known.f k).bind fun t606 => (if t606 = true then (sleuthlaw45_ChangepointShifts.j0 k l0 a1 ((l0.length : Int) == 0) a2_0 a2_1) else (sleuthlaw45_ChangepointShifts.j0 k l0 a1 true a2_0 a2_1))) = some r := h
 clear h
 have HC4 := Aside0.mk H
 clear H
 go_enter Try.func9, Try.ntmps9
 go_upto_region 1 with (first | ((with_reducible refine gate_dst (N := 5) rfl ?_); (try (refine gate_guard (by rfl) ?_; dsimp only)); refine box_event ?hg (N := 5) ?hd (cs := #[.int .u8 a2_0, .int .u8 a2_1]) (t := 60) ?hr ?_; (case hd => rfl); (case hg => rfl); (case hr => first | (go_simp; done) | (go_simp; rfl)); intro gb605 hg w5 hbox hb; have n0_ := Aside0.mk (below_step qgsleuthlaw45changepointshifts_3 hb); have n1_ := Aside0.mk (hbox); have n2_ := Aside0.mk ((by rw [hg]; exact (below_size qgsleuthlaw45changepointshifts_3) : w.heap.size ≤ gb605)); have n3_ := Aside0.mk ((by rw [hg]; exact (below_size qgsleuthlaw45changepointshifts_3) : w.heap.size ≤ gb605)); clear HB; have HB := n0_; have BK605 := n1_; have GW605 := n2_; have GE605 := n3_; clear n0_ n1_ n2_ n3_; clear hb hbox hg))
 repeat (go_quiet (first | ((with_reducible refine gate_dst (N := 5) rfl ?_); (try (refine gate_guard (by rfl) ?_; dsimp only)); refine box_event ?hg (N := 5) ?hd (cs := #[.int .u8 a2_0, .int .u8 a2_1]) (t := 60) ?hr ?_; (case hd => rfl); (case hg => rfl); (case hr => first | (go_simp; done) | (go_simp; rfl)); intro gb605 hg w5 hbox hb; have n0_ := Aside0.mk (below_step qgsleuthlaw45changepointshifts_3 hb); have n1_ := Aside0.mk (hbox); have n2_ := Aside0.mk ((by rw [hg]; exact (below_size qgsleuthlaw45changepointshifts_3) : w.heap.size ≤ gb605)); have n3_ := Aside0.mk ((by rw [hg]; exact (below_size qgsleuthlaw45changepointshifts_3) : w.heap.size ≤ gb605)); clear HB; have HB := n0_; have BK605 := n1_; have GW605 := n2_; have GE605 := n3_; clear n0_ n1_ n2_ n3_; clear hb hbox hg)); go_upto_region 1 with (first | ((with_reducible refine gate_dst (N := 5) rfl ?_); (try (refine gate_guard (by rfl) ?_; dsimp only)); refine box_event ?hg (N := 5) ?hd (cs := #[.int .u8 a2_0, .int .u8 a2_1]) (t := 60) ?hr ?_; (case hd => rfl); (case hg => rfl); (case hr => first | (go_simp; done) | (go_simp; rfl)); intro gb605 hg w5 hbox hb; have n0_ := Aside0.mk (below_step qgsleuthlaw45changepointshifts_3 hb); have n1_ := Aside0.mk (hbox); have n2_ := Aside0.mk ((by rw [hg]; exact (below_size qgsleuthlaw45changepointshifts_3) : w.heap.size ≤ gb605)); have n3_ := Aside0.mk ((by rw [hg]; exact (below_size qgsleuthlaw45changepointshifts_3) : w.heap.size ≤ gb605)); clear HB; have HB := n0_; have BK605 := n1_; have GW605 := n2_; have GE605 := n3_; clear n0_ n1_ n2_ n3_; clear hb hbox hg)))
 (try simp only [Act.put, List.setIfInBounds_toArray, List.set_cons_zero, List.set_cons_succ])
 go_cut [18] (fun v18 wc => ∃ (kq : Nat) (x18_3 : Bool), v18 = .bool x18_3 ∧ Aside0 (sleuthlaw45_ChangepointShifts.j0 kq l0 a1 x18_3 a2_0 a2_1 = some r) ∧ Aside0 (kq ≤ k) ∧ Aside0 (wc.heap[gb605]? = some (.cells #[.int .u8 a2_0, .int .u8 a2_1] 60 (0, 0))) ∧ Aside0 (Below w.heap.size w wc))
 case first =>
  have H := HC4.out
  clear HC4
  replace H := Option.bind_eq_some_iff.mp H
  obtain ⟨t606, A60, H⟩ := H
  replace H : (if t606 = true then (sleuthlaw45_ChangepointShifts.j0 k l0 a1 ((l0.length : Int) == 0) a2_0 a2_1) else (sleuthlaw45_ChangepointShifts.j0 k l0 a1 true a2_0 a2_1)) = some r := H
  have A6 := Aside0.mk A60
  clear A60
  by_cases c7 : t606 = true
  ·subst c7
   have H1 : (sleuthlaw45_ChangepointShifts.j0 k l0 a1 ((l0.length : Int) == 0) a2_0 a2_1) = some r := by rw [if_pos rfl] at H; exact H
   clear H
   have H := H1
   clear H1
   have H' := Aside0.mk H
   clear H
   go_wp2_with (first | (go_at_call 13; (with_reducible refine (sleuthlaw45_known.calls k  true _ A6.out).mono ?_); rintro e w8 ⟨rfl, hb⟩; have n0_ := Aside0.mk (blk_below (g := gb605) (o := .cells #[.int .u8 a2_0, .int .u8 a2_1] 60 (0, 0)) qgsleuthlaw45changepointshifts_1 hb); have n1_ := Aside0.mk (below_step qgsleuthlaw45changepointshifts_0 hb); clear BK605; clear HB; have BK605 := n0_; have HB := n1_; clear n0_ n1_; (try clear hb); (try clear hb2); (try clear hk); (try clear hi)))
   repeat (go_quiet (first | (go_at_call 13; (with_reducible refine (sleuthlaw45_known.calls k  true _ A6.out).mono ?_); rintro e w8 ⟨rfl, hb⟩; have n0_ := Aside0.mk (blk_below (g := gb605) (o := .cells #[.int .u8 a2_0, .int .u8 a2_1] 60 (0, 0)) qgsleuthlaw45changepointshifts_1 hb); have n1_ := Aside0.mk (below_step qgsleuthlaw45changepointshifts_0 hb); clear BK605; clear HB; have BK605 := n0_; have HB := n1_; clear n0_ n1_; (try clear hb); (try clear hb2); (try clear hk); (try clear hi))); try go_wp2_with (first | (go_at_call 13; (with_reducible refine (sleuthlaw45_known.calls k  true _ A6.out).mono ?_); rintro e w8 ⟨rfl, hb⟩; have n0_ := Aside0.mk (blk_below (g := gb605) (o := .cells #[.int .u8 a2_0, .int .u8 a2_1] 60 (0, 0)) qgsleuthlaw45changepointshifts_1 hb); have n1_ := Aside0.mk (below_step qgsleuthlaw45changepointshifts_0 hb); clear BK605; clear HB; have BK605 := n0_; have HB := n1_; clear n0_ n1_; (try clear hb); (try clear hb2); (try clear hk); (try clear hi))))
   go_meet
   case rel => exact ⟨_, (((l0.length : Int) == 0)), (by first | rfl | (simp; done) | (simp [*]; done)), H', ⟨by first | omega | exact Nat.le_refl _⟩, ⟨qgsleuthlaw45changepointshifts_1⟩, ⟨qgsleuthlaw45changepointshifts_0⟩⟩
  ·replace c7 := Bool.eq_false_iff.mpr c7
   subst c7
   have H1 : (sleuthlaw45_ChangepointShifts.j0 k l0 a1 true a2_0 a2_1) = some r := by rw [if_neg (show ¬ (false = true) by decide)] at H; exact H
   clear H
   have H := H1
   clear H1
   have H' := Aside0.mk H
   clear H
   go_wp2_with (first | (go_at_call 13; (with_reducible refine (sleuthlaw45_known.calls k  false _ A6.out).mono ?_); rintro e w9 ⟨rfl, hb⟩; have n0_ := Aside0.mk (blk_below (g := gb605) (o := .cells #[.int .u8 a2_0, .int .u8 a2_1] 60 (0, 0)) qgsleuthlaw45changepointshifts_1 hb); have n1_ := Aside0.mk (below_step qgsleuthlaw45changepointshifts_0 hb); clear BK605; clear HB; have BK605 := n0_; have HB := n1_; clear n0_ n1_; (try clear hb); (try clear hb2); (try clear hk); (try clear hi)))
   repeat (go_quiet (first | (go_at_call 13; (with_reducible refine (sleuthlaw45_known.calls k  false _ A6.out).mono ?_); rintro e w9 ⟨rfl, hb⟩; have n0_ := Aside0.mk (blk_below (g := gb605) (o := .cells #[.int .u8 a2_0, .int .u8 a2_1] 60 (0, 0)) qgsleuthlaw45changepointshifts_1 hb); have n1_ := Aside0.mk (below_step qgsleuthlaw45changepointshifts_0 hb); clear BK605; clear HB; have BK605 := n0_; have HB := n1_; clear n0_ n1_; (try clear hb); (try clear hb2); (try clear hk); (try clear hi))); try go_wp2_with (first | (go_at_call 13; (with_reducible refine (sleuthlaw45_known.calls k  false _ A6.out).mono ?_); rintro e w9 ⟨rfl, hb⟩; have n0_ := Aside0.mk (blk_below (g := gb605) (o := .cells #[.int .u8 a2_0, .int .u8 a2_1] 60 (0, 0)) qgsleuthlaw45changepointshifts_1 hb); have n1_ := Aside0.mk (below_step qgsleuthlaw45changepointshifts_0 hb); clear BK605; clear HB; have BK605 := n0_; have HB := n1_; clear n0_ n1_; (try clear hb); (try clear hb2); (try clear hk); (try clear hi))))
   go_meet
   case rel => exact ⟨_, (true), (by first | rfl | (simp; done) | (simp [*]; done)), H', ⟨by first | omega | exact Nat.le_refl _⟩, ⟨qgsleuthlaw45changepointshifts_1⟩, ⟨qgsleuthlaw45changepointshifts_0⟩⟩
 case rest =>
  clear HC4
  try clear p2
  try clear c7
  try clear c9
  obtain ⟨kq, x18_3, rfl, HA, HJ3, BK605, HB⟩ := hcut
  cases kq with
  | zero => exact absurd HA.out (by simp [sleuthlaw45_ChangepointShifts.j0])
  | succ kj3 =>
   have H := HA.out
   clear HA
   simp only [sleuthlaw45_ChangepointShifts.j0] at H
   by_cases c10 : x18_3 = true
   ·subst c10
    have H1 : ((sleuthlaw45_known.f kj3).bind fun t607 => (some t607)) = some r := by rw [if_pos rfl] at H; exact H
    clear H
    have H := H1
    clear H1
    replace H := Option.bind_eq_some_iff.mp H
    obtain ⟨t607, A110, H⟩ := H
    replace H : (some t607) = some r := H
    have A11 := Aside0.mk A110
    clear A110
    obtain rfl := Option.some.inj H
    go_wp2_with (first | (go_at_call 13; (with_reducible refine (sleuthlaw45_known.calls kj3  t607 _ A11.out).mono ?_); rintro e w12 ⟨rfl, hb⟩; have n0_ := Aside0.mk (blk_below (g := gb605) (o := .cells #[.int .u8 a2_0, .int .u8 a2_1] 60 (0, 0)) qgsleuthlaw45changepointshifts_1 hb); have n1_ := Aside0.mk (below_step qgsleuthlaw45changepointshifts_0 hb); clear BK605; clear HB; have BK605 := n0_; have HB := n1_; clear n0_ n1_; (try clear hb); (try clear hb2); (try clear hk); (try clear hi)))
    repeat (go_quiet (first | (go_at_call 13; (with_reducible refine (sleuthlaw45_known.calls kj3  t607 _ A11.out).mono ?_); rintro e w12 ⟨rfl, hb⟩; have n0_ := Aside0.mk (blk_below (g := gb605) (o := .cells #[.int .u8 a2_0, .int .u8 a2_1] 60 (0, 0)) qgsleuthlaw45changepointshifts_1 hb); have n1_ := Aside0.mk (below_step qgsleuthlaw45changepointshifts_0 hb); clear BK605; clear HB; have BK605 := n0_; have HB := n1_; clear n0_ n1_; (try clear hb); (try clear hb2); (try clear hk); (try clear hi))); try go_wp2_with (first | (go_at_call 13; (with_reducible refine (sleuthlaw45_known.calls kj3  t607 _ A11.out).mono ?_); rintro e w12 ⟨rfl, hb⟩; have n0_ := Aside0.mk (blk_below (g := gb605) (o := .cells #[.int .u8 a2_0, .int .u8 a2_1] 60 (0, 0)) qgsleuthlaw45changepointshifts_1 hb); have n1_ := Aside0.mk (below_step qgsleuthlaw45changepointshifts_0 hb); clear BK605; clear HB; have BK605 := n0_; have HB := n1_; clear n0_ n1_; (try clear hb); (try clear hb2); (try clear hk); (try clear hi))))
    go_ret
    exact ⟨qgsleuthlaw45changepointshifts_7, qgsleuthlaw45changepointshifts_0⟩
   ·replace c10 := Bool.eq_false_iff.mpr c10
    subst c10
    have H1 : ((sleuthlaw45_points.f kj3 a2_0 l0).bind fun bt608 => ((changepoint_Of.f kj3 bt608.1 bt608.2.1 bt608.2.2.1 bt608.2.2.2.1 bt608.2.2.2.2.1 bt608.2.2.2.2.2.1 bt608.2.2.2.2.2.2 (wrap64 (a1))).bind fun bt617 => ((sleuthlaw45_points.f kj3 a2_1 l0).bind fun bt621 => ((changepoint_Of.f kj3 bt621.1 bt621.2.1 bt621.2.2.1 bt621.2.2.2.1 bt621.2.2.2.2.1 bt621.2.2.2.2.2.1 bt621.2.2.2.2.2.2 (wrap64 (a1))).bind fun bt630 => (if bt617.2 = 0 then (if bt630.2 = 0 then (sleuthlaw45_ChangepointShifts.j1 kj3 bt617.1 bt630.1 ((bt617.1.length : Int) != (bt630.1.length : Int)) a2_0 a2_1) else (sleuthlaw45_ChangepointShifts.j1 kj3 bt617.1 bt630.1 true a2_0 a2_1)) else (sleuthlaw45_ChangepointShifts.j1 kj3 bt617.1 bt630.1 true a2_0 a2_1)))))) = some r := by rw [if_neg (show ¬ (false = true) by decide)] at H; exact H
    clear H
    have H := H1
    clear H1
    replace H := Option.bind_eq_some_iff.mp H
    obtain ⟨⟨t608, t609, t610, t611, t612, t613, t614⟩, A130, H⟩ := H
    replace H : ((changepoint_Of.f kj3 t608 t609 t610 t611 t612 t613 t614 (wrap64 (a1))).bind fun bt617 => ((sleuthlaw45_points.f kj3 a2_1 l0).bind fun bt621 => ((changepoint_Of.f kj3 bt621.1 bt621.2.1 bt621.2.2.1 bt621.2.2.2.1 bt621.2.2.2.2.1 bt621.2.2.2.2.2.1 bt621.2.2.2.2.2.2 (wrap64 (a1))).bind fun bt630 => (if bt617.2 = 0 then (if bt630.2 = 0 then (sleuthlaw45_ChangepointShifts.j1 kj3 bt617.1 bt630.1 ((bt617.1.length : Int) != (bt630.1.length : Int)) a2_0 a2_1) else (sleuthlaw45_ChangepointShifts.j1 kj3 bt617.1 bt630.1 true a2_0 a2_1)) else (sleuthlaw45_ChangepointShifts.j1 kj3 bt617.1 bt630.1 true a2_0 a2_1))))) = some r := H
    have A13 := Aside0.mk A130
    clear A130
    replace H := Option.bind_eq_some_iff.mp H
    obtain ⟨⟨t617, t620⟩, A140, H⟩ := H
    replace H : ((sleuthlaw45_points.f kj3 a2_1 l0).bind fun bt621 => ((changepoint_Of.f kj3 bt621.1 bt621.2.1 bt621.2.2.1 bt621.2.2.2.1 bt621.2.2.2.2.1 bt621.2.2.2.2.2.1 bt621.2.2.2.2.2.2 (wrap64 (a1))).bind fun bt630 => (if t620 = 0 then (if bt630.2 = 0 then (sleuthlaw45_ChangepointShifts.j1 kj3 t617 bt630.1 ((t617.length : Int) != (bt630.1.length : Int)) a2_0 a2_1) else (sleuthlaw45_ChangepointShifts.j1 kj3 t617 bt630.1 true a2_0 a2_1)) else (sleuthlaw45_ChangepointShifts.j1 kj3 t617 bt630.1 true a2_0 a2_1)))) = some r := H
    have A14 := Aside0.mk A140
    clear A140
    replace H := Option.bind_eq_some_iff.mp H
    obtain ⟨⟨t621, t622, t623, t624, t625, t626, t627⟩, A150, H⟩ := H
    replace H : ((changepoint_Of.f kj3 t621 t622 t623 t624 t625 t626 t627 (wrap64 (a1))).bind fun bt630 => (if t620 = 0 then (if bt630.2 = 0 then (sleuthlaw45_ChangepointShifts.j1 kj3 t617 bt630.1 ((t617.length : Int) != (bt630.1.length : Int)) a2_0 a2_1) else (sleuthlaw45_ChangepointShifts.j1 kj3 t617 bt630.1 true a2_0 a2_1)) else (sleuthlaw45_ChangepointShifts.j1 kj3 t617 bt630.1 true a2_0 a2_1))) = some r := H
    have A15 := Aside0.mk A150
    clear A150
    replace H := Option.bind_eq_some_iff.mp H
    obtain ⟨⟨t630, t633⟩, A160, H⟩ := H
    replace H : (if t620 = 0 then (if t633 = 0 then (sleuthlaw45_ChangepointShifts.j1 kj3 t617 t630 ((t617.length : Int) != (t630.length : Int)) a2_0 a2_1) else (sleuthlaw45_ChangepointShifts.j1 kj3 t617 t630 true a2_0 a2_1)) else (sleuthlaw45_ChangepointShifts.j1 kj3 t617 t630 true a2_0 a2_1)) = some r := H
    have A16 := Aside0.mk A160
    clear A160
    have HC17 := Aside0.mk H
    clear H
    have hcz18_0 : wc.cell? ⟨gb605, 0, none⟩ = some (.int .u8 a2_0) := (blk_cell BK605.out 0).trans rfl
    have hcz18_1 : wc.cell? ⟨gb605, 1, none⟩ = some (.int .u8 a2_1) := (blk_cell BK605.out 1).trans rfl
    have hfz18_0 := blk_frozen BK605.out 0
    have hfz18_1 := blk_frozen BK605.out 1
    go_upto_region 5 with (first | (go_at_call 14; (with_reducible refine (sleuthlaw45_points.calls kj3 a2_0 _ _ l0 t608 t609 t610 t611 t612 t613 t614 _ ?side1 ?side2 A13.out).mono ?_); (case side1 => exact qgsleuthlaw45changepointshifts_5); (case side2 => exact HC0.out); rintro e w19 ⟨v615, rfl, ho0, hb⟩; have n0_ := Aside0.mk (Kd.R_lower ho0 (below_size qgsleuthlaw45changepointshifts_0)); have n1_ := Aside0.mk (blk_below (g := gb605) (o := .cells #[.int .u8 a2_0, .int .u8 a2_1] 60 (0, 0)) qgsleuthlaw45changepointshifts_1 hb); have n2_ := Aside0.mk (below_step qgsleuthlaw45changepointshifts_0 hb); clear BK605; clear HB; have HO616 := n0_; have BK605 := n1_; have HB := n2_; clear n0_ n1_ n2_; (try clear hb); (try clear hb2); (try clear hk); (try clear hi); (try clear ho0); obtain ⟨Ao20, co20, eo20⟩ := Kd.R_slice HO616.out; subst eo20) | (go_at_call 15; (with_reducible refine (changepoint_Of.calls kj3 t608 t609 t610 t611 t612 t613 _ _ t614 (wrap64 (a1)) t617 t620 _ ?side1 ?side2 A14.out).mono ?_); (case side1 => exact qgsleuthlaw45changepointshifts_8); (case side2 => exact (Kd.R_reads' HO616.out).2.1); rintro e w21 ⟨v618, rfl, ho0, hb⟩; have n0_ := Aside0.mk (Kd.R_below qgsleuthlaw45changepointshifts_2 hb); have n1_ := Aside0.mk (Kd.R_lower ho0 (below_size qgsleuthlaw45changepointshifts_0)); have n2_ := Aside0.mk (blk_below (g := gb605) (o := .cells #[.int .u8 a2_0, .int .u8 a2_1] 60 (0, 0)) qgsleuthlaw45changepointshifts_1 hb); have n3_ := Aside0.mk (below_step qgsleuthlaw45changepointshifts_0 hb); clear HO616; clear BK605; clear HB; have HO616 := n0_; have HO619 := n1_; have BK605 := n2_; have HB := n3_; clear n0_ n1_ n2_ n3_; (try clear hb); (try clear hb2); (try clear hk); (try clear hi); (try clear ho0); have hcz22_0 : w21.cell? ⟨gb605, 0, none⟩ = some (.int .u8 a2_0) := (blk_cell BK605.out 0).trans rfl; have hcz22_1 : w21.cell? ⟨gb605, 1, none⟩ = some (.int .u8 a2_1) := (blk_cell BK605.out 1).trans rfl; have hfz22_0 := blk_frozen BK605.out 0; have hfz22_1 := blk_frozen BK605.out 1) | (go_at_call 14; (with_reducible refine (sleuthlaw45_points.calls kj3 a2_1 _ _ l0 t621 t622 t623 t624 t625 t626 t627 _ ?side1 ?side2 A15.out).mono ?_); (case side1 => exact qgsleuthlaw45changepointshifts_5); (case side2 => exact HC0.out); rintro e w23 ⟨v628, rfl, ho0, hb⟩; have n0_ := Aside0.mk (Kd.R_elder' qgsleuthlaw45changepointshifts_2 (Kd.R_base ho0) hb); have n1_ := Aside0.mk (Kd.R_below qgsleuthlaw45changepointshifts_6 hb); have n2_ := Aside0.mk (Kd.R_lower (Kd.R_new' ho0 (Kd.R_lt qgsleuthlaw45changepointshifts_2)) (below_size qgsleuthlaw45changepointshifts_0)); have n3_ := Aside0.mk (blk_below (g := gb605) (o := .cells #[.int .u8 a2_0, .int .u8 a2_1] 60 (0, 0)) qgsleuthlaw45changepointshifts_1 hb); have n4_ := Aside0.mk (below_step qgsleuthlaw45changepointshifts_0 hb); clear HO616; clear HO619; clear BK605; clear HB; have HO616 := n0_; have HO619 := n1_; have HO629 := n2_; have BK605 := n3_; have HB := n4_; clear n0_ n1_ n2_ n3_ n4_; (try clear hb); (try clear hb2); (try clear hk); (try clear hi); (try clear ho0); obtain ⟨Ao24, co24, eo24⟩ := Kd.R_slice HO629.out; subst eo24) | (go_at_call 15; (with_reducible refine (changepoint_Of.calls kj3 t621 t622 t623 t624 t625 t626 _ _ t627 (wrap64 (a1)) t630 t633 _ ?side1 ?side2 A16.out).mono ?_); (case side1 => exact qgsleuthlaw45changepointshifts_9); (case side2 => exact (Kd.R_reads' HO629.out).2.1); rintro e w25 ⟨v631, rfl, ho0, hb⟩; have n0_ := Aside0.mk (Kd.R_below qgsleuthlaw45changepointshifts_2 hb); have n1_ := Aside0.mk (Kd.R_elder' qgsleuthlaw45changepointshifts_6 (Kd.R_base ho0) hb); have n2_ := Aside0.mk (Kd.R_below (by (with_reducible repeat (first | apply Kd.R_alloc | apply Kd.R_drewN | apply Kd.R_drew)); exact HO629.out) hb); have n3_ := Aside0.mk (Kd.R_lower (Kd.R_new' ho0 (Kd.R_lt qgsleuthlaw45changepointshifts_6)) (below_size qgsleuthlaw45changepointshifts_0)); have n4_ := Aside0.mk (blk_below (g := gb605) (o := .cells #[.int .u8 a2_0, .int .u8 a2_1] 60 (0, 0)) qgsleuthlaw45changepointshifts_1 hb); have n5_ := Aside0.mk (below_step qgsleuthlaw45changepointshifts_0 hb); clear HO616; clear HO619; clear HO629; clear BK605; clear HB; have HO616 := n0_; have HO619 := n1_; have HO629 := n2_; have HO632 := n3_; have BK605 := n4_; have HB := n5_; clear n0_ n1_ n2_ n3_ n4_ n5_; (try clear hb); (try clear hb2); (try clear hk); (try clear hi); (try clear ho0)))
    repeat (go_quiet (first | (go_at_call 14; (with_reducible refine (sleuthlaw45_points.calls kj3 a2_0 _ _ l0 t608 t609 t610 t611 t612 t613 t614 _ ?side1 ?side2 A13.out).mono ?_); (case side1 => exact qgsleuthlaw45changepointshifts_5); (case side2 => exact HC0.out); rintro e w19 ⟨v615, rfl, ho0, hb⟩; have n0_ := Aside0.mk (Kd.R_lower ho0 (below_size qgsleuthlaw45changepointshifts_0)); have n1_ := Aside0.mk (blk_below (g := gb605) (o := .cells #[.int .u8 a2_0, .int .u8 a2_1] 60 (0, 0)) qgsleuthlaw45changepointshifts_1 hb); have n2_ := Aside0.mk (below_step qgsleuthlaw45changepointshifts_0 hb); clear BK605; clear HB; have HO616 := n0_; have BK605 := n1_; have HB := n2_; clear n0_ n1_ n2_; (try clear hb); (try clear hb2); (try clear hk); (try clear hi); (try clear ho0); obtain ⟨Ao20, co20, eo20⟩ := Kd.R_slice HO616.out; subst eo20) | (go_at_call 15; (with_reducible refine (changepoint_Of.calls kj3 t608 t609 t610 t611 t612 t613 _ _ t614 (wrap64 (a1)) t617 t620 _ ?side1 ?side2 A14.out).mono ?_); (case side1 => exact qgsleuthlaw45changepointshifts_8); (case side2 => exact (Kd.R_reads' HO616.out).2.1); rintro e w21 ⟨v618, rfl, ho0, hb⟩; have n0_ := Aside0.mk (Kd.R_below qgsleuthlaw45changepointshifts_2 hb); have n1_ := Aside0.mk (Kd.R_lower ho0 (below_size qgsleuthlaw45changepointshifts_0)); have n2_ := Aside0.mk (blk_below (g := gb605) (o := .cells #[.int .u8 a2_0, .int .u8 a2_1] 60 (0, 0)) qgsleuthlaw45changepointshifts_1 hb); have n3_ := Aside0.mk (below_step qgsleuthlaw45changepointshifts_0 hb); clear HO616; clear BK605; clear HB; have HO616 := n0_; have HO619 := n1_; have BK605 := n2_; have HB := n3_; clear n0_ n1_ n2_ n3_; (try clear hb); (try clear hb2); (try clear hk); (try clear hi); (try clear ho0); have hcz22_0 : w21.cell? ⟨gb605, 0, none⟩ = some (.int .u8 a2_0) := (blk_cell BK605.out 0).trans rfl; have hcz22_1 : w21.cell? ⟨gb605, 1, none⟩ = some (.int .u8 a2_1) := (blk_cell BK605.out 1).trans rfl; have hfz22_0 := blk_frozen BK605.out 0; have hfz22_1 := blk_frozen BK605.out 1) | (go_at_call 14; (with_reducible refine (sleuthlaw45_points.calls kj3 a2_1 _ _ l0 t621 t622 t623 t624 t625 t626 t627 _ ?side1 ?side2 A15.out).mono ?_); (case side1 => exact qgsleuthlaw45changepointshifts_5); (case side2 => exact HC0.out); rintro e w23 ⟨v628, rfl, ho0, hb⟩; have n0_ := Aside0.mk (Kd.R_elder' qgsleuthlaw45changepointshifts_2 (Kd.R_base ho0) hb); have n1_ := Aside0.mk (Kd.R_below qgsleuthlaw45changepointshifts_6 hb); have n2_ := Aside0.mk (Kd.R_lower (Kd.R_new' ho0 (Kd.R_lt qgsleuthlaw45changepointshifts_2)) (below_size qgsleuthlaw45changepointshifts_0)); have n3_ := Aside0.mk (blk_below (g := gb605) (o := .cells #[.int .u8 a2_0, .int .u8 a2_1] 60 (0, 0)) qgsleuthlaw45changepointshifts_1 hb); have n4_ := Aside0.mk (below_step qgsleuthlaw45changepointshifts_0 hb); clear HO616; clear HO619; clear BK605; clear HB; have HO616 := n0_; have HO619 := n1_; have HO629 := n2_; have BK605 := n3_; have HB := n4_; clear n0_ n1_ n2_ n3_ n4_; (try clear hb); (try clear hb2); (try clear hk); (try clear hi); (try clear ho0); obtain ⟨Ao24, co24, eo24⟩ := Kd.R_slice HO629.out; subst eo24) | (go_at_call 15; (with_reducible refine (changepoint_Of.calls kj3 t621 t622 t623 t624 t625 t626 _ _ t627 (wrap64 (a1)) t630 t633 _ ?side1 ?side2 A16.out).mono ?_); (case side1 => exact qgsleuthlaw45changepointshifts_9); (case side2 => exact (Kd.R_reads' HO629.out).2.1); rintro e w25 ⟨v631, rfl, ho0, hb⟩; have n0_ := Aside0.mk (Kd.R_below qgsleuthlaw45changepointshifts_2 hb); have n1_ := Aside0.mk (Kd.R_elder' qgsleuthlaw45changepointshifts_6 (Kd.R_base ho0) hb); have n2_ := Aside0.mk (Kd.R_below (by (with_reducible repeat (first | apply Kd.R_alloc | apply Kd.R_drewN | apply Kd.R_drew)); exact HO629.out) hb); have n3_ := Aside0.mk (Kd.R_lower (Kd.R_new' ho0 (Kd.R_lt qgsleuthlaw45changepointshifts_6)) (below_size qgsleuthlaw45changepointshifts_0)); have n4_ := Aside0.mk (blk_below (g := gb605) (o := .cells #[.int .u8 a2_0, .int .u8 a2_1] 60 (0, 0)) qgsleuthlaw45changepointshifts_1 hb); have n5_ := Aside0.mk (below_step qgsleuthlaw45changepointshifts_0 hb); clear HO616; clear HO619; clear HO629; clear BK605; clear HB; have HO616 := n0_; have HO619 := n1_; have HO629 := n2_; have HO632 := n3_; have BK605 := n4_; have HB := n5_; clear n0_ n1_ n2_ n3_ n4_ n5_; (try clear hb); (try clear hb2); (try clear hk); (try clear hi); (try clear ho0))); go_upto_region 5 with (first | (go_at_call 14; (with_reducible refine (sleuthlaw45_points.calls kj3 a2_0 _ _ l0 t608 t609 t610 t611 t612 t613 t614 _ ?side1 ?side2 A13.out).mono ?_); (case side1 => exact qgsleuthlaw45changepointshifts_5); (case side2 => exact HC0.out); rintro e w19 ⟨v615, rfl, ho0, hb⟩; have n0_ := Aside0.mk (Kd.R_lower ho0 (below_size qgsleuthlaw45changepointshifts_0)); have n1_ := Aside0.mk (blk_below (g := gb605) (o := .cells #[.int .u8 a2_0, .int .u8 a2_1] 60 (0, 0)) qgsleuthlaw45changepointshifts_1 hb); have n2_ := Aside0.mk (below_step qgsleuthlaw45changepointshifts_0 hb); clear BK605; clear HB; have HO616 := n0_; have BK605 := n1_; have HB := n2_; clear n0_ n1_ n2_; (try clear hb); (try clear hb2); (try clear hk); (try clear hi); (try clear ho0); obtain ⟨Ao20, co20, eo20⟩ := Kd.R_slice HO616.out; subst eo20) | (go_at_call 15; (with_reducible refine (changepoint_Of.calls kj3 t608 t609 t610 t611 t612 t613 _ _ t614 (wrap64 (a1)) t617 t620 _ ?side1 ?side2 A14.out).mono ?_); (case side1 => exact qgsleuthlaw45changepointshifts_8); (case side2 => exact (Kd.R_reads' HO616.out).2.1); rintro e w21 ⟨v618, rfl, ho0, hb⟩; have n0_ := Aside0.mk (Kd.R_below qgsleuthlaw45changepointshifts_2 hb); have n1_ := Aside0.mk (Kd.R_lower ho0 (below_size qgsleuthlaw45changepointshifts_0)); have n2_ := Aside0.mk (blk_below (g := gb605) (o := .cells #[.int .u8 a2_0, .int .u8 a2_1] 60 (0, 0)) qgsleuthlaw45changepointshifts_1 hb); have n3_ := Aside0.mk (below_step qgsleuthlaw45changepointshifts_0 hb); clear HO616; clear BK605; clear HB; have HO616 := n0_; have HO619 := n1_; have BK605 := n2_; have HB := n3_; clear n0_ n1_ n2_ n3_; (try clear hb); (try clear hb2); (try clear hk); (try clear hi); (try clear ho0); have hcz22_0 : w21.cell? ⟨gb605, 0, none⟩ = some (.int .u8 a2_0) := (blk_cell BK605.out 0).trans rfl; have hcz22_1 : w21.cell? ⟨gb605, 1, none⟩ = some (.int .u8 a2_1) := (blk_cell BK605.out 1).trans rfl; have hfz22_0 := blk_frozen BK605.out 0; have hfz22_1 := blk_frozen BK605.out 1) | (go_at_call 14; (with_reducible refine (sleuthlaw45_points.calls kj3 a2_1 _ _ l0 t621 t622 t623 t624 t625 t626 t627 _ ?side1 ?side2 A15.out).mono ?_); (case side1 => exact qgsleuthlaw45changepointshifts_5); (case side2 => exact HC0.out); rintro e w23 ⟨v628, rfl, ho0, hb⟩; have n0_ := Aside0.mk (Kd.R_elder' qgsleuthlaw45changepointshifts_2 (Kd.R_base ho0) hb); have n1_ := Aside0.mk (Kd.R_below qgsleuthlaw45changepointshifts_6 hb); have n2_ := Aside0.mk (Kd.R_lower (Kd.R_new' ho0 (Kd.R_lt qgsleuthlaw45changepointshifts_2)) (below_size qgsleuthlaw45changepointshifts_0)); have n3_ := Aside0.mk (blk_below (g := gb605) (o := .cells #[.int .u8 a2_0, .int .u8 a2_1] 60 (0, 0)) qgsleuthlaw45changepointshifts_1 hb); have n4_ := Aside0.mk (below_step qgsleuthlaw45changepointshifts_0 hb); clear HO616; clear HO619; clear BK605; clear HB; have HO616 := n0_; have HO619 := n1_; have HO629 := n2_; have BK605 := n3_; have HB := n4_; clear n0_ n1_ n2_ n3_ n4_; (try clear hb); (try clear hb2); (try clear hk); (try clear hi); (try clear ho0); obtain ⟨Ao24, co24, eo24⟩ := Kd.R_slice HO629.out; subst eo24) | (go_at_call 15; (with_reducible refine (changepoint_Of.calls kj3 t621 t622 t623 t624 t625 t626 _ _ t627 (wrap64 (a1)) t630 t633 _ ?side1 ?side2 A16.out).mono ?_); (case side1 => exact qgsleuthlaw45changepointshifts_9); (case side2 => exact (Kd.R_reads' HO629.out).2.1); rintro e w25 ⟨v631, rfl, ho0, hb⟩; have n0_ := Aside0.mk (Kd.R_below qgsleuthlaw45changepointshifts_2 hb); have n1_ := Aside0.mk (Kd.R_elder' qgsleuthlaw45changepointshifts_6 (Kd.R_base ho0) hb); have n2_ := Aside0.mk (Kd.R_below (by (with_reducible repeat (first | apply Kd.R_alloc | apply Kd.R_drewN | apply Kd.R_drew)); exact HO629.out) hb); have n3_ := Aside0.mk (Kd.R_lower (Kd.R_new' ho0 (Kd.R_lt qgsleuthlaw45changepointshifts_6)) (below_size qgsleuthlaw45changepointshifts_0)); have n4_ := Aside0.mk (blk_below (g := gb605) (o := .cells #[.int .u8 a2_0, .int .u8 a2_1] 60 (0, 0)) qgsleuthlaw45changepointshifts_1 hb); have n5_ := Aside0.mk (below_step qgsleuthlaw45changepointshifts_0 hb); clear HO616; clear HO619; clear HO629; clear BK605; clear HB; have HO616 := n0_; have HO619 := n1_; have HO629 := n2_; have HO632 := n3_; have BK605 := n4_; have HB := n5_; clear n0_ n1_ n2_ n3_ n4_ n5_; (try clear hb); (try clear hb2); (try clear hk); (try clear hi); (try clear ho0))))
    (try simp only [Act.put, List.setIfInBounds_toArray, List.set_cons_zero, List.set_cons_succ])
    go_cut [52] (fun v52 wc => ∃ (kq : Nat) (x52_16 : Bool), v52 = .bool x52_16 ∧ Aside0 (sleuthlaw45_ChangepointShifts.j1 kq t617 t630 x52_16 a2_0 a2_1 = some r) ∧ Aside0 (kq ≤ kj3) ∧ Aside0 (Kd.R k41 41 wc w.heap.size (fun k_ => some k_ ≠ (v631 : Value).ownBlock) v618 t617) ∧ Aside0 (Kd.R k41 41 wc w.heap.size (fun k_ => some k_ ≠ (v618 : Value).ownBlock) v631 t630) ∧ Aside0 (wc.heap[gb605]? = some (.cells #[.int .u8 a2_0, .int .u8 a2_1] 60 (0, 0))) ∧ Aside0 (Below w.heap.size w wc))
    case first =>
     have H := HC17.out
     clear HC17
     by_cases c26 : t620 = 0
     ·rw [if_pos c26] at H
      have c26b0 : (t620 == 0) = true := beq_iff_eq.mpr c26
      have c26b1 : (t620 != 0) = false := bne_eq_false_iff_eq.mpr c26
      clear c26
      (first | rw [c26b0] | (simp only [i64_w, i32_w]; rw [c26b0]) | skip)
      by_cases c27 : t633 = 0
      ·rw [if_pos c27] at H
       have c27b0 : (t633 == 0) = true := beq_iff_eq.mpr c27
       have c27b1 : (t633 != 0) = false := bne_eq_false_iff_eq.mpr c27
       clear c27
       have H' := Aside0.mk H
       clear H
       obtain ⟨Ao28, co28, eo28⟩ := Kd.R_slice HO619.out
       subst eo28
       obtain ⟨Ao29, co29, eo29⟩ := Kd.R_slice HO632.out
       subst eo29
       go_wp2
       repeat (go_quiet (fail); try go_wp2)
       go_meet
       case rel => exact ⟨_, (((t617.length : Int) != (t630.length : Int))), (by first | rfl | (simp; done) | (simp [*]; done)), H', ⟨by have := HJ3.out; first | omega | exact Nat.le_refl _⟩, ⟨qgsleuthlaw45changepointshifts_10⟩, ⟨qgsleuthlaw45changepointshifts_11⟩, ⟨qgsleuthlaw45changepointshifts_1⟩, ⟨qgsleuthlaw45changepointshifts_0⟩⟩
      ·rw [if_neg c27] at H
       have c27b0 : (t633 == 0) = false := beq_eq_false_iff_ne.mpr c27
       have c27b1 : (t633 != 0) = true := bne_iff_ne.mpr c27
       have H' := Aside0.mk H
       clear H
       go_wp2
       repeat (go_quiet (fail); try go_wp2)
       go_meet
       case rel => exact ⟨_, (true), (by first | rfl | (simp; done) | (simp [*]; done)), H', ⟨by have := HJ3.out; first | omega | exact Nat.le_refl _⟩, ⟨qgsleuthlaw45changepointshifts_10⟩, ⟨qgsleuthlaw45changepointshifts_11⟩, ⟨qgsleuthlaw45changepointshifts_1⟩, ⟨qgsleuthlaw45changepointshifts_0⟩⟩
     ·rw [if_neg c26] at H
      have c26b0 : (t620 == 0) = false := beq_eq_false_iff_ne.mpr c26
      have c26b1 : (t620 != 0) = true := bne_iff_ne.mpr c26
      (first | rw [c26b0] | (simp only [i64_w, i32_w]; rw [c26b0]) | skip)
      have H' := Aside0.mk H
      clear H
      go_wp2
      repeat (go_quiet (fail); try go_wp2)
      go_meet
      case rel => exact ⟨_, (true), (by first | rfl | (simp; done) | (simp [*]; done)), H', ⟨by have := HJ3.out; first | omega | exact Nat.le_refl _⟩, ⟨qgsleuthlaw45changepointshifts_10⟩, ⟨qgsleuthlaw45changepointshifts_11⟩, ⟨qgsleuthlaw45changepointshifts_1⟩, ⟨qgsleuthlaw45changepointshifts_0⟩⟩
    case rest =>
     clear HC17
     try clear c1
     try clear c2
     try clear p2
     try clear p6
     try clear c7
     try clear c9
     try clear c10
     try clear c26
     try clear c26b0
     try clear c26b1
     try clear c27
     try clear c27b0
     try clear c27b1
     try clear hcz18_0
     try clear hcz18_1
     try clear hcz22_0
     try clear hcz22_1
     try clear hfz18_0
     try clear hfz18_1
     try clear hfz22_0
     try clear hfz22_1
     try clear p2
     obtain ⟨kq, x52_16, rfl, HA, HJ16, HO_7, HO_9, BK605, HB⟩ := hcut
     cases kq with
     | zero => exact absurd HA.out (by simp [sleuthlaw45_ChangepointShifts.j1])
     | succ kj16 =>
      have H := HA.out
      clear HA
      simp only [sleuthlaw45_ChangepointShifts.j1] at H
      by_cases c30 : x52_16 = true
      ·subst c30
       have H1 : (some false) = some r := by rw [if_pos rfl] at H; exact H
       clear H
       have H := H1
       clear H1
       obtain rfl := Option.some.inj H
       go_wp2
       repeat (go_quiet (fail); try go_wp2)
       go_ret
       exact ⟨qgsleuthlaw45changepointshifts_7, qgsleuthlaw45changepointshifts_0⟩
      ·replace c30 := Bool.eq_false_iff.mpr c30
       subst c30
       have H1 : (sleuthlaw45_ChangepointShifts.l0 kj16 t617 t630 0 a2_0 a2_1) = some r := by rw [if_neg (show ¬ (false = true) by decide)] at H; exact H
       clear H
       have H := H1
       clear H1
       have H' := Aside0.mk H
       clear H
       go_wp2
       repeat (go_quiet (fail); try go_wp2)
       go_loopg [11] kj16 (fun kq v11 w' => ∃ (x11_3 : Int), v11 = .int .i64 x11_3 ∧ Aside0 (sleuthlaw45_ChangepointShifts.l0 kq t617 t630 x11_3 a2_0 a2_1 = some r) ∧ Aside0 (kq ≤ kj16) ∧ Aside0 (Kd.R k41 41 w' w.heap.size (fun k_ => some k_ ≠ (v631 : Value).ownBlock) v618 t617) ∧ Aside0 (Kd.R k41 41 w' w.heap.size (fun k_ => some k_ ≠ (v618 : Value).ownBlock) v631 t630) ∧ Aside0 (w'.heap[gb605]? = some (.cells #[.int .u8 a2_0, .int .u8 a2_1] 60 (0, 0))) ∧ Aside0 (Below w.heap.size w w'))
       case atStart => exact ⟨(0), (by first | rfl | (simp; done) | (simp [*]; done)), H', ⟨Nat.le_refl _⟩, ⟨by (with_reducible repeat (first | apply Kd.R_alloc | apply Kd.R_drewN | apply Kd.R_drew)); exact HO_7.out⟩, ⟨by (with_reducible repeat (first | apply Kd.R_alloc | apply Kd.R_drewN | apply Kd.R_drew)); exact HO_9.out⟩, ⟨qgsleuthlaw45changepointshifts_1⟩, ⟨qgsleuthlaw45changepointshifts_0⟩⟩
       case round =>
        clear H'
        try clear c1
        try clear c2
        try clear p2
        try clear c3
        try clear p6
        try clear c7
        try clear c9
        try clear c10
        try clear c26
        try clear c26b0
        try clear c26b1
        try clear c27
        try clear c27b0
        try clear c27b1
        try clear c30
        try clear hcz18_0
        try clear hcz18_1
        try clear hcz22_0
        try clear hcz22_1
        try clear hfz18_0
        try clear hfz18_1
        try clear hfz22_0
        try clear hfz22_1
        try clear p2
        try clear p6
        obtain ⟨x11_3, rfl, HA, HK3, HO_7, HO_9, BK605, HB⟩ := hrel
        cases gk with
        | zero => exact absurd HA.out (by simp [sleuthlaw45_ChangepointShifts.l0])
        | succ k3 =>
         have H := HA.out
         clear HA
         simp only [sleuthlaw45_ChangepointShifts.l0] at H
         by_cases c31 : x11_3 < (t617.length : Int)
         ·rw [if_pos c31] at H
          have c31b0 : decide (x11_3 < (t617.length : Int)) = true := decide_eq_true c31
          clear c31
          by_cases c32 : 0 ≤ x11_3
          ·rw [if_pos c32] at H
           have c32b0 : decide (0 ≤ x11_3) = true := decide_eq_true c32
           clear c32
           by_cases c33 : x11_3 < (t630.length : Int)
           ·rw [if_pos c33] at H
            have c33b0 : decide (x11_3 < (t630.length : Int)) = true := decide_eq_true c33
            clear c33
            by_cases c34 : (wrap64 (((rd_T41 t630 x11_3).f0) - (wrap64 (a2_1)))) = (wrap64 (((rd_T41 t617 x11_3).f0) - (wrap64 (a2_0))))
            ·rw [if_pos c34] at H
             have c34b0 : ((wrap64 (((rd_T41 t630 x11_3).f0) - (wrap64 (a2_1)))) == (wrap64 (((rd_T41 t617 x11_3).f0) - (wrap64 (a2_0))))) = true := beq_iff_eq.mpr c34
             have c34b1 : ((wrap64 (((rd_T41 t630 x11_3).f0) - (wrap64 (a2_1)))) != (wrap64 (((rd_T41 t617 x11_3).f0) - (wrap64 (a2_0))))) = false := bne_eq_false_iff_eq.mpr c34
             clear c34
             by_cases c35 : ((rd_T41 t630 x11_3).f1) = ((rd_T41 t617 x11_3).f1)
             ·rw [if_pos c35] at H
              have c35b0 : (((rd_T41 t630 x11_3).f1) == ((rd_T41 t617 x11_3).f1)) = true := beq_iff_eq.mpr c35
              have c35b1 : (((rd_T41 t630 x11_3).f1) != ((rd_T41 t617 x11_3).f1)) = false := bne_eq_false_iff_eq.mpr c35
              clear c35
              by_cases c36 : ((rd_T41 t630 x11_3).f2) = ((rd_T41 t617 x11_3).f2)
              ·rw [if_pos c36] at H
               have c36b0 : (((rd_T41 t630 x11_3).f2) == ((rd_T41 t617 x11_3).f2)) = true := beq_iff_eq.mpr c36
               have c36b1 : (((rd_T41 t630 x11_3).f2) != ((rd_T41 t617 x11_3).f2)) = false := bne_eq_false_iff_eq.mpr c36
               clear c36
               have H' := Aside0.mk H
               clear H
               obtain ⟨Ao37, co37, eo37⟩ := Kd.R_slice HO_7.out
               subst eo37
               obtain ⟨Ao38, co38, eo38⟩ := Kd.R_slice HO_9.out
               subst eo38
               have p634 : 0 ≤ (x11_3 : Int) := of_decide_eq_true qgsleuthlaw45changepointshifts_4
               have q634 : x11_3 < (t630.length : Int) := of_decide_eq_true qgsleuthlaw45changepointshifts_4
               obtain ⟨ad634, e634, hx634_0, hx634_1, hx634_2⟩ := at_T41 (Kd.R_reads' HO_9.out).2.2 x11_3 p634 q634
               cases e634
               replace p634 := eq_true p634
               replace q634 := eq_true q634
               have hcz39_0 : wr.cell? ⟨gb605, 0, none⟩ = some (.int .u8 a2_0) := (blk_cell BK605.out 0).trans rfl
               have hcz39_1 : wr.cell? ⟨gb605, 1, none⟩ = some (.int .u8 a2_1) := (blk_cell BK605.out 1).trans rfl
               have hfz39_0 := blk_frozen BK605.out 0
               have hfz39_1 := blk_frozen BK605.out 1
               have p635 : 0 ≤ (x11_3 : Int) := of_decide_eq_true qgsleuthlaw45changepointshifts_4
               have q635 : x11_3 < (t617.length : Int) := of_decide_eq_true qgsleuthlaw45changepointshifts_4
               obtain ⟨ad635, e635, hx635_0, hx635_1, hx635_2⟩ := at_T41 (Kd.R_reads' HO_7.out).2.2 x11_3 p635 q635
               cases e635
               replace p635 := eq_true p635
               replace q635 := eq_true q635
               have p636 : 0 ≤ (x11_3 : Int) := of_decide_eq_true qgsleuthlaw45changepointshifts_4
               have q636 : x11_3 < (t630.length : Int) := of_decide_eq_true qgsleuthlaw45changepointshifts_4
               obtain ⟨ad636, e636, hx636_0, hx636_1, hx636_2⟩ := at_T41 (Kd.R_reads' HO_9.out).2.2 x11_3 p636 q636
               obtain rfl : ad634 = ad636 := (by injection e636)
               replace p636 := eq_true p636
               replace q636 := eq_true q636
               have p637 : 0 ≤ (x11_3 : Int) := of_decide_eq_true qgsleuthlaw45changepointshifts_4
               have q637 : x11_3 < (t617.length : Int) := of_decide_eq_true qgsleuthlaw45changepointshifts_4
               obtain ⟨ad637, e637, hx637_0, hx637_1, hx637_2⟩ := at_T41 (Kd.R_reads' HO_7.out).2.2 x11_3 p637 q637
               obtain rfl : ad635 = ad637 := (by injection e637)
               replace p637 := eq_true p637
               replace q637 := eq_true q637
               have p638 : 0 ≤ (x11_3 : Int) := of_decide_eq_true qgsleuthlaw45changepointshifts_4
               have q638 : x11_3 < (t630.length : Int) := of_decide_eq_true qgsleuthlaw45changepointshifts_4
               obtain ⟨ad638, e638, hx638_0, hx638_1, hx638_2⟩ := at_T41 (Kd.R_reads' HO_9.out).2.2 x11_3 p638 q638
               obtain rfl : ad634 = ad638 := (by injection e638)
               replace p638 := eq_true p638
               replace q638 := eq_true q638
               have p639 : 0 ≤ (x11_3 : Int) := of_decide_eq_true qgsleuthlaw45changepointshifts_4
               have q639 : x11_3 < (t617.length : Int) := of_decide_eq_true qgsleuthlaw45changepointshifts_4
               obtain ⟨ad639, e639, hx639_0, hx639_1, hx639_2⟩ := at_T41 (Kd.R_reads' HO_7.out).2.2 x11_3 p639 q639
               obtain rfl : ad635 = ad639 := (by injection e639)
               replace p639 := eq_true p639
               replace q639 := eq_true q639
               go_wp2
               repeat (go_quiet (fail); try go_wp2)
               go_roundg k3
               case measure => have := HJ3.out; have := HJ16.out; have := HK3.out; omega
               case rel => exact ⟨(wrap64 (x11_3 + 1)), (by first | rfl | (simp; done) | (simp [*]; done)), H', ⟨by have := HJ3.out; have := HJ16.out; have := HK3.out; omega⟩, ⟨by (with_reducible repeat (first | apply Kd.R_alloc | apply Kd.R_drewN | apply Kd.R_drew)); exact HO_7.out⟩, ⟨by (with_reducible repeat (first | apply Kd.R_alloc | apply Kd.R_drewN | apply Kd.R_drew)); exact HO_9.out⟩, ⟨qgsleuthlaw45changepointshifts_1⟩, ⟨qgsleuthlaw45changepointshifts_0⟩⟩
              ·rw [if_neg c36] at H
               have c36b0 : (((rd_T41 t630 x11_3).f2) == ((rd_T41 t617 x11_3).f2)) = false := beq_eq_false_iff_ne.mpr c36
               have c36b1 : (((rd_T41 t630 x11_3).f2) != ((rd_T41 t617 x11_3).f2)) = true := bne_iff_ne.mpr c36
               obtain rfl := Option.some.inj H
               obtain ⟨Ao40, co40, eo40⟩ := Kd.R_slice HO_7.out
               subst eo40
               obtain ⟨Ao41, co41, eo41⟩ := Kd.R_slice HO_9.out
               subst eo41
               have p634 : 0 ≤ (x11_3 : Int) := of_decide_eq_true qgsleuthlaw45changepointshifts_4
               have q634 : x11_3 < (t630.length : Int) := of_decide_eq_true qgsleuthlaw45changepointshifts_4
               obtain ⟨ad634, e634, hx634_0, hx634_1, hx634_2⟩ := at_T41 (Kd.R_reads' HO_9.out).2.2 x11_3 p634 q634
               cases e634
               replace p634 := eq_true p634
               replace q634 := eq_true q634
               have hcz42_0 : wr.cell? ⟨gb605, 0, none⟩ = some (.int .u8 a2_0) := (blk_cell BK605.out 0).trans rfl
               have hcz42_1 : wr.cell? ⟨gb605, 1, none⟩ = some (.int .u8 a2_1) := (blk_cell BK605.out 1).trans rfl
               have hfz42_0 := blk_frozen BK605.out 0
               have hfz42_1 := blk_frozen BK605.out 1
               have p635 : 0 ≤ (x11_3 : Int) := of_decide_eq_true qgsleuthlaw45changepointshifts_4
               have q635 : x11_3 < (t617.length : Int) := of_decide_eq_true qgsleuthlaw45changepointshifts_4
               obtain ⟨ad635, e635, hx635_0, hx635_1, hx635_2⟩ := at_T41 (Kd.R_reads' HO_7.out).2.2 x11_3 p635 q635
               cases e635
               replace p635 := eq_true p635
               replace q635 := eq_true q635
               have p636 : 0 ≤ (x11_3 : Int) := of_decide_eq_true qgsleuthlaw45changepointshifts_4
               have q636 : x11_3 < (t630.length : Int) := of_decide_eq_true qgsleuthlaw45changepointshifts_4
               obtain ⟨ad636, e636, hx636_0, hx636_1, hx636_2⟩ := at_T41 (Kd.R_reads' HO_9.out).2.2 x11_3 p636 q636
               obtain rfl : ad634 = ad636 := (by injection e636)
               replace p636 := eq_true p636
               replace q636 := eq_true q636
               have p637 : 0 ≤ (x11_3 : Int) := of_decide_eq_true qgsleuthlaw45changepointshifts_4
               have q637 : x11_3 < (t617.length : Int) := of_decide_eq_true qgsleuthlaw45changepointshifts_4
               obtain ⟨ad637, e637, hx637_0, hx637_1, hx637_2⟩ := at_T41 (Kd.R_reads' HO_7.out).2.2 x11_3 p637 q637
               obtain rfl : ad635 = ad637 := (by injection e637)
               replace p637 := eq_true p637
               replace q637 := eq_true q637
               have p638 : 0 ≤ (x11_3 : Int) := of_decide_eq_true qgsleuthlaw45changepointshifts_4
               have q638 : x11_3 < (t630.length : Int) := of_decide_eq_true qgsleuthlaw45changepointshifts_4
               obtain ⟨ad638, e638, hx638_0, hx638_1, hx638_2⟩ := at_T41 (Kd.R_reads' HO_9.out).2.2 x11_3 p638 q638
               obtain rfl : ad634 = ad638 := (by injection e638)
               replace p638 := eq_true p638
               replace q638 := eq_true q638
               have p639 : 0 ≤ (x11_3 : Int) := of_decide_eq_true qgsleuthlaw45changepointshifts_4
               have q639 : x11_3 < (t617.length : Int) := of_decide_eq_true qgsleuthlaw45changepointshifts_4
               obtain ⟨ad639, e639, hx639_0, hx639_1, hx639_2⟩ := at_T41 (Kd.R_reads' HO_7.out).2.2 x11_3 p639 q639
               obtain rfl : ad635 = ad639 := (by injection e639)
               replace p639 := eq_true p639
               replace q639 := eq_true q639
               go_wp2
               repeat (go_quiet (fail); try go_wp2)
               go_ret
               exact ⟨qgsleuthlaw45changepointshifts_7, qgsleuthlaw45changepointshifts_0⟩
             ·rw [if_neg c35] at H
              have c35b0 : (((rd_T41 t630 x11_3).f1) == ((rd_T41 t617 x11_3).f1)) = false := beq_eq_false_iff_ne.mpr c35
              have c35b1 : (((rd_T41 t630 x11_3).f1) != ((rd_T41 t617 x11_3).f1)) = true := bne_iff_ne.mpr c35
              obtain rfl := Option.some.inj H
              obtain ⟨Ao43, co43, eo43⟩ := Kd.R_slice HO_7.out
              subst eo43
              obtain ⟨Ao44, co44, eo44⟩ := Kd.R_slice HO_9.out
              subst eo44
              have p634 : 0 ≤ (x11_3 : Int) := of_decide_eq_true qgsleuthlaw45changepointshifts_4
              have q634 : x11_3 < (t630.length : Int) := of_decide_eq_true qgsleuthlaw45changepointshifts_4
              obtain ⟨ad634, e634, hx634_0, hx634_1, hx634_2⟩ := at_T41 (Kd.R_reads' HO_9.out).2.2 x11_3 p634 q634
              cases e634
              replace p634 := eq_true p634
              replace q634 := eq_true q634
              have hcz45_0 : wr.cell? ⟨gb605, 0, none⟩ = some (.int .u8 a2_0) := (blk_cell BK605.out 0).trans rfl
              have hcz45_1 : wr.cell? ⟨gb605, 1, none⟩ = some (.int .u8 a2_1) := (blk_cell BK605.out 1).trans rfl
              have hfz45_0 := blk_frozen BK605.out 0
              have hfz45_1 := blk_frozen BK605.out 1
              have p635 : 0 ≤ (x11_3 : Int) := of_decide_eq_true qgsleuthlaw45changepointshifts_4
              have q635 : x11_3 < (t617.length : Int) := of_decide_eq_true qgsleuthlaw45changepointshifts_4
              obtain ⟨ad635, e635, hx635_0, hx635_1, hx635_2⟩ := at_T41 (Kd.R_reads' HO_7.out).2.2 x11_3 p635 q635
              cases e635
              replace p635 := eq_true p635
              replace q635 := eq_true q635
              have p636 : 0 ≤ (x11_3 : Int) := of_decide_eq_true qgsleuthlaw45changepointshifts_4
              have q636 : x11_3 < (t630.length : Int) := of_decide_eq_true qgsleuthlaw45changepointshifts_4
              obtain ⟨ad636, e636, hx636_0, hx636_1, hx636_2⟩ := at_T41 (Kd.R_reads' HO_9.out).2.2 x11_3 p636 q636
              obtain rfl : ad634 = ad636 := (by injection e636)
              replace p636 := eq_true p636
              replace q636 := eq_true q636
              have p637 : 0 ≤ (x11_3 : Int) := of_decide_eq_true qgsleuthlaw45changepointshifts_4
              have q637 : x11_3 < (t617.length : Int) := of_decide_eq_true qgsleuthlaw45changepointshifts_4
              obtain ⟨ad637, e637, hx637_0, hx637_1, hx637_2⟩ := at_T41 (Kd.R_reads' HO_7.out).2.2 x11_3 p637 q637
              obtain rfl : ad635 = ad637 := (by injection e637)
              replace p637 := eq_true p637
              replace q637 := eq_true q637
              go_wp2
              repeat (go_quiet (fail); try go_wp2)
              go_ret
              exact ⟨qgsleuthlaw45changepointshifts_7, qgsleuthlaw45changepointshifts_0⟩
            ·rw [if_neg c34] at H
             have c34b0 : ((wrap64 (((rd_T41 t630 x11_3).f0) - (wrap64 (a2_1)))) == (wrap64 (((rd_T41 t617 x11_3).f0) - (wrap64 (a2_0))))) = false := beq_eq_false_iff_ne.mpr c34
             have c34b1 : ((wrap64 (((rd_T41 t630 x11_3).f0) - (wrap64 (a2_1)))) != (wrap64 (((rd_T41 t617 x11_3).f0) - (wrap64 (a2_0))))) = true := bne_iff_ne.mpr c34
             obtain rfl := Option.some.inj H
             obtain ⟨Ao46, co46, eo46⟩ := Kd.R_slice HO_7.out
             subst eo46
             obtain ⟨Ao47, co47, eo47⟩ := Kd.R_slice HO_9.out
             subst eo47
             have p634 : 0 ≤ (x11_3 : Int) := of_decide_eq_true qgsleuthlaw45changepointshifts_4
             have q634 : x11_3 < (t630.length : Int) := of_decide_eq_true qgsleuthlaw45changepointshifts_4
             obtain ⟨ad634, e634, hx634_0, hx634_1, hx634_2⟩ := at_T41 (Kd.R_reads' HO_9.out).2.2 x11_3 p634 q634
             cases e634
             replace p634 := eq_true p634
             replace q634 := eq_true q634
             have hcz48_0 : wr.cell? ⟨gb605, 0, none⟩ = some (.int .u8 a2_0) := (blk_cell BK605.out 0).trans rfl
             have hcz48_1 : wr.cell? ⟨gb605, 1, none⟩ = some (.int .u8 a2_1) := (blk_cell BK605.out 1).trans rfl
             have hfz48_0 := blk_frozen BK605.out 0
             have hfz48_1 := blk_frozen BK605.out 1
             have p635 : 0 ≤ (x11_3 : Int) := of_decide_eq_true qgsleuthlaw45changepointshifts_4
             have q635 : x11_3 < (t617.length : Int) := of_decide_eq_true qgsleuthlaw45changepointshifts_4
             obtain ⟨ad635, e635, hx635_0, hx635_1, hx635_2⟩ := at_T41 (Kd.R_reads' HO_7.out).2.2 x11_3 p635 q635
             cases e635
             replace p635 := eq_true p635
             replace q635 := eq_true q635
             go_wp2
             repeat (go_quiet (fail); try go_wp2)
             go_ret
             exact ⟨qgsleuthlaw45changepointshifts_7, qgsleuthlaw45changepointshifts_0⟩
           ·rw [if_neg c33] at H
            exact absurd H (by simp)
          ·rw [if_neg c32] at H
           exact absurd H (by simp)
         ·rw [if_neg c31] at H
          have c31b0 : decide (x11_3 < (t617.length : Int)) = false := decide_eq_false c31
          clear c31
          obtain rfl := Option.some.inj H
          obtain ⟨Ao49, co49, eo49⟩ := Kd.R_slice HO_7.out
          subst eo49
          go_wp2
          repeat (go_quiet (fail); try go_wp2)
          go_ret
          exact ⟨qgsleuthlaw45changepointshifts_7, qgsleuthlaw45changepointshifts_0⟩

end Go.Proofs.Ytcjgmofgfblmnaa.Q
