-- Laid by myprint.py (a program of this session's, over the kit's printer and with functions proved by hand)
import Derived.Test.YtcjgmofgfblmnaaTy
import Derived.Test.YtcjgmofgfblmnaaQgBase
import Derived.Test.YtcjgmofgfblmnaaQgBest
import Derived.Test.YtcjgmofgfblmnaaQgChangepointOf
import Derived.Test.YtcjgmofgfblmnaaQgKnown
namespace Go.Proofs.Ytcjgmofgfblmnaa.Q
open Go.RowKit Go.Proofs.YtcjgmofgfblmnaaW.PrintWords Go.Proofs.YtcjgmofgfblmnaaW.PrintLast Go.Proofs.YtcjgmofgfblmnaaW.PrintMore
attribute [local go_sem] max2_int min2_int max_two min_two max_three min_three max_four min_four   -- for this text's walks alone
set_option linter.unusedVariables false
set_option linter.unusedSimpArgs false

attribute [local go_sem high] eqA41
theorem qgsleuthlaw45changepointof_0 {p : Prop} (h : p := by (with_reducible repeat (first | refine blk_drewN ?_ _ | refine blk_drew ?_ | refine blk_alloc ?_ _)); refine blk_put (cs := #[.string t568, .string t569, .int .i64 t570, .int .i64 t571, .int .i64 t572, .int .i64 t573, .slice none 0 0]) ?_ 6 _ rfl; (with_reducible repeat (first | refine blk_drewN ?_ _ | refine blk_drew ?_ | refine blk_alloc ?_ _)); refine blk_put (cs := #[.string t568, .string t569, .int .i64 t570, .int .i64 t571, .int .i64 t572, .int .i64 0, .slice none 0 0]) ?_ 5 _ rfl; (with_reducible repeat (first | refine blk_drewN ?_ _ | refine blk_drew ?_ | refine blk_alloc ?_ _)); refine blk_put (cs := #[.string t568, .string t569, .int .i64 t570, .int .i64 t571, .int .i64 0, .int .i64 0, .slice none 0 0]) ?_ 4 _ rfl; (with_reducible repeat (first | refine blk_drewN ?_ _ | refine blk_drew ?_ | refine blk_alloc ?_ _)); refine blk_put (cs := #[.string t568, .string t569, .int .i64 t570, .int .i64 0, .int .i64 0, .int .i64 0, .slice none 0 0]) ?_ 3 _ rfl; (with_reducible repeat (first | refine blk_drewN ?_ _ | refine blk_drew ?_ | refine blk_alloc ?_ _)); refine blk_put (cs := #[.string t568, .string t569, .int .i64 0, .int .i64 0, .int .i64 0, .int .i64 0, .slice none 0 0]) ?_ 2 _ rfl; (with_reducible repeat (first | refine blk_drewN ?_ _ | refine blk_drew ?_ | refine blk_alloc ?_ _)); refine blk_put (cs := #[.string t568, .string (⟨#[]⟩ : ByteArray), .int .i64 0, .int .i64 0, .int .i64 0, .int .i64 0, .slice none 0 0]) ?_ 1 _ rfl; (with_reducible repeat (first | refine blk_drewN ?_ _ | refine blk_drew ?_ | refine blk_alloc ?_ _)); refine blk_put (cs := #[.string (⟨#[]⟩ : ByteArray), .string (⟨#[]⟩ : ByteArray), .int .i64 0, .int .i64 0, .int .i64 0, .int .i64 0, .slice none 0 0]) ?_ 0 _ rfl; (with_reducible repeat (first | refine blk_drewN ?_ _ | refine blk_drew ?_ | refine blk_alloc ?_ _)); exact BK577.out) : p := h
theorem qgsleuthlaw45changepointof_1 {p : Prop} (h : p := by (with_reducible repeat (first | apply Kd.R_alloc | apply Kd.R_drewN | apply Kd.R_drew)); exact (Kd.R_mono (Kd.R_far (p := ⟨gb577, 6, none⟩) (Kd.R_far (p := ⟨gb577, 5, none⟩) (Kd.R_far (p := ⟨gb577, 4, none⟩) (Kd.R_far (p := ⟨gb577, 3, none⟩) (Kd.R_far (p := ⟨gb577, 2, none⟩) (Kd.R_far (p := ⟨gb577, 1, none⟩) (Kd.R_far (p := ⟨gb577, 0, none⟩) (Kd.R_types HO576.out BK577.out (by decide)) (fun _ hk => hk.2) (.string t568)) (fun _ hk => hk.2) (.string t569)) (fun _ hk => hk.2) (.int .i64 t570)) (fun _ hk => hk.2) (.int .i64 t571)) (fun _ hk => hk.2) (.int .i64 t572)) (fun _ hk => hk.2) (.int .i64 t573)) (fun _ hk => hk.2) (.slice Ao15 t574.length co15)) (fun _ h_ => h_.1))) : p := h
theorem qgsleuthlaw45changepointof_2 {p : Prop} (h : p := by repeat (first | (with_reducible first | exact HB.out | apply below_alloc | apply pw_below_drewN | apply below_drew1 | refine below_set ?_ GE577.out) | exact HB.out)) : p := h
theorem qgsleuthlaw45changepointof_3 {p : Prop} (h : p := by (with_reducible repeat (first | apply Kd.R_alloc | apply Kd.R_drewN | apply Kd.R_drew)); exact (Kd.R_mono (Kd.R_far (p := ⟨gb587, 1, none⟩) (Kd.R_far (p := ⟨gb587, 0, none⟩) (Kd.R_types HO576.out BK587.out (by decide)) (fun _ hk => hk.2) (.slice Ao20 t582.length co20)) (fun _ hk => hk.2) (.int .i64 t585)) (fun _ h_ => h_.1))) : p := h
theorem qgsleuthlaw45changepointof_4 {p : Prop} (h : p := by (with_reducible repeat (first | apply Kd.R_alloc | apply Kd.R_drewN | apply Kd.R_drew)); exact (Kd.R_mono (Kd.R_far (p := ⟨gb587, 1, none⟩) (Kd.R_far (p := ⟨gb587, 0, none⟩) (Kd.R_types HO584.out BK587.out (by decide)) (fun _ hk => hk.2) (.slice Ao20 t582.length co20)) (fun _ hk => hk.2) (.int .i64 t585)) (fun _ h_ => h_.1))) : p := h
theorem qgsleuthlaw45changepointof_5 {p : Prop} (h : p := by repeat (first | (with_reducible first | exact HB.out | apply below_alloc | apply pw_below_drewN | apply below_drew1) | exact HB.out)) : p := h
theorem qgsleuthlaw45changepointof_6 {p : Prop} (h : p := by repeat (first | (with_reducible first | exact HB.out | apply below_alloc | apply pw_below_drewN | apply below_drew1 | refine below_set ?_ GE577.out | refine below_set ?_ GE587.out) | exact HB.out)) : p := h
theorem qgsleuthlaw45changepointof_7 {p : Prop} (h : p := by (with_reducible repeat (first | refine blk_drewN ?_ _ | refine blk_drew ?_ | refine blk_alloc ?_ _)); exact BK577.out) : p := h
theorem qgsleuthlaw45changepointof_8 {p : Prop} (h : p := by (with_reducible repeat (first | apply Kd.R_alloc | apply Kd.R_drewN | apply Kd.R_drew)); exact HO576.out) : p := h
theorem qgsleuthlaw45changepointof_9 {p : Prop} (h : p := by (with_reducible repeat (first | refine blk_drewN ?_ _ | refine blk_drew ?_ | refine blk_alloc ?_ _)); refine blk_put (cs := #[.slice Ao20 t582.length co20, .int .i64 0]) ?_ 1 _ rfl; (with_reducible repeat (first | refine blk_drewN ?_ _ | refine blk_drew ?_ | refine blk_alloc ?_ _)); refine blk_put (cs := #[.slice none 0 0, .int .i64 0]) ?_ 0 _ rfl; (with_reducible repeat (first | refine blk_drewN ?_ _ | refine blk_drew ?_ | refine blk_alloc ?_ _)); exact BK587.out) : p := h
theorem qgsleuthlaw45changepointof_10 {p : Prop} (h : p := by (with_reducible repeat (first | refine blk_drewN ?_ _ | refine blk_drew ?_ | refine blk_alloc ?_ _)); refine blk_far ?_ NB577_587.out _; (with_reducible repeat (first | refine blk_drewN ?_ _ | refine blk_drew ?_ | refine blk_alloc ?_ _)); refine blk_far ?_ NB577_587.out _; (with_reducible repeat (first | refine blk_drewN ?_ _ | refine blk_drew ?_ | refine blk_alloc ?_ _)); exact BK577.out) : p := h
theorem qgsleuthlaw45changepointof_11 {p : Prop} (h : p := by (with_reducible repeat (first | apply Kd.R_alloc | apply Kd.R_drewN | apply Kd.R_drew)); exact (Kd.R_mono (Kd.R_far (p := ⟨gb587, 1, none⟩) (Kd.R_far (p := ⟨gb587, 0, none⟩) (Kd.R_types HO580.out BK587.out (by decide)) (fun _ hk => hk.2) (.slice Ao20 t582.length co20)) (fun _ hk => hk.2) (.int .i64 t585)) (fun _ h_ => h_.1))) : p := h
theorem qgsleuthlaw45changepointof_12 {p : Prop} (h : p := by (with_reducible repeat (first | apply Kd.R_alloc | apply Kd.R_drewN | apply Kd.R_drew)); exact HO580.out) : p := h
theorem qgsleuthlaw45changepointof_13 {p : Prop} (h : p := by first | (with_reducible assumption) | assumption) : p := h
theorem qgsleuthlaw45changepointof_14 {p : Prop} (h : p := by refine (Kd.R_reads' (e := 3) (base := w.heap.size) (ok := fun k_ => (True ∧ some k_ ≠ (.slice Ao20 t582.length co20 : Value).ownBlock)) (n := t574.length) (c := co15) ?_).2.2; exact qgsleuthlaw45changepointof_3) : p := h
theorem qgsleuthlaw45changepointof_15 {p : Prop} (h : p := by refine (Kd.R_reads' (e := 3) (base := w.heap.size) (ok := fun k_ => (True ∧ some k_ ≠ (.slice Ao15 t574.length co15 : Value).ownBlock)) (n := t582.length) (c := co20) ?_).2.2; exact qgsleuthlaw45changepointof_4) : p := h
theorem qgsleuthlaw45changepointof_16 {p : Prop} (h : p := by (with_reducible repeat (first | refine blk_drewN ?_ _ | refine blk_drew ?_ | refine blk_alloc ?_ _)); exact BK587.out) : p := h
theorem qgsleuthlaw45changepointof_17 {p : Prop} (h : p := by repeat (first | exact (Kd.C_below HR1.out HB.out) | (with_reducible refine Kd.C_alloc ?_ _) | (with_reducible refine Kd.C_drewN ?_ _) | (with_reducible refine Kd.C_drew ?_))) : p := h
theorem qgsleuthlaw45changepointof_18 {p : Prop} (h : p := by repeat (first | exact (Kd.R_reads' HO576.out).2.2 | (with_reducible refine Kd.C_alloc ?_ _) | (with_reducible refine Kd.C_drewN ?_ _) | (with_reducible refine Kd.C_drew ?_))) : p := h
theorem qgsleuthlaw45changepointof_19 {p : Prop} (h : p := by refine (Kd.R_reads' (e := 3) (base := w.heap.size) (ok := fun k_ => True) (n := t574.length) (c := co15) ?_).2.2; exact qgsleuthlaw45changepointof_1) : p := h
theorem qgsleuthlaw45changepointof_20 {p : Prop} (h : p := by first | rfl | (simp [errW_none, errW_some] <;> rfl) | (simp [*, errW_none, errW_some] <;> rfl)) : p := h
/-! ### sleuthlaw45_ChangepointOf: function 3 -/
mutual
def sleuthlaw45_ChangepointOf.j0 : Nat → Int → List (S41) → List Int → Bool → List Int → Int → Option (Bool)
 | 0, _, _, _, _, _, _ => none
 | k + 1, x0, x8, x12, x51, x588000, x588001 => if x51 = true then (some false) else (sleuthlaw45_ChangepointOf.l0 k x0 x8 x12 0 x588000 x588001)
def sleuthlaw45_ChangepointOf.l0 : Nat → Int → List (S41) → List Int → Int → List Int → Int → Option (Bool)
 | 0, _, _, _, _, _, _ => none
 | k + 1, x0, x8, x12, x14, x588000, x588001 => if x14 < (x8.length : Int) then (if (wrap64 (x14 + 1)) ≥ (x12.length : Int) then (some false) else (if 0 ≤ x14 then (if x14 < (x588000.length : Int) then (if x14 < (x12.length : Int) then (if 0 ≤ (wrap64 (x14 + 1)) then (if (wrap64 (x14 + 1)) < (x12.length : Int) then (if (!(((rd_T41 x8 x14).f0) == (wrap64 ((wrap64 (x0)) + (rd x588000 x14)))) || (!(((rd_T41 x8 x14).f1) == (rd x12 x14)) || (!(((rd_T41 x8 x14).f2) == (rd x12 (wrap64 (x14 + 1))))))) = true then (some false) else (sleuthlaw45_ChangepointOf.l0 k x0 x8 x12 (wrap64 (x14 + 1)) x588000 x588001)) else (none)) else (none)) else (none)) else (none)) else (none))) else (some true)
end
def sleuthlaw45_ChangepointOf.f (k : Nat) (a0 : Int) (l1 : List Int) (a2 : Int) : Option (Bool) := (sleuthlaw45_known.f k).bind fun t567 => (if t567 = true then ((sleuthlaw45_points.f k a0 l1).bind fun bt568 => ((changepoint_Of.f k bt568.1 bt568.2.1 bt568.2.2.1 bt568.2.2.2.1 bt568.2.2.2.2.1 bt568.2.2.2.2.2.1 bt568.2.2.2.2.2.2 a2).bind fun bt578 => ((segmentation_Best.f k bt568.2.2.2.2.2.2 a2).bind fun bt582 => ((segmentation_Levels.f k bt568.2.2.2.2.2.2 bt582.1).bind fun bt588 => (if bt578.2 = bt582.2.2 then (sleuthlaw45_ChangepointOf.j0 k a0 bt578.1 bt588.1 ((bt578.1.length : Int) != (bt582.1.length : Int)) bt582.1 bt582.2.1) else (sleuthlaw45_ChangepointOf.j0 k a0 bt578.1 bt588.1 true bt582.1 bt582.2.1)))))) else (some false))
theorem sleuthlaw45_ChangepointOf.mono_l : ∀ k, (∀ y0 y1 y2 y3 y4 y5, LeO (sleuthlaw45_ChangepointOf.j0 k y0 y1 y2 y3 y4 y5) (sleuthlaw45_ChangepointOf.j0 (k + 1) y0 y1 y2 y3 y4 y5)) ∧ (∀ y0 y1 y2 y3 y4 y5, LeO (sleuthlaw45_ChangepointOf.l0 k y0 y1 y2 y3 y4 y5) (sleuthlaw45_ChangepointOf.l0 (k + 1) y0 y1 y2 y3 y4 y5))
 | 0 => ⟨fun _ _ _ _ _ _ r h => by simp [sleuthlaw45_ChangepointOf.j0] at h, fun _ _ _ _ _ _ r h => by simp [sleuthlaw45_ChangepointOf.l0] at h⟩
 | k + 1 => by
  obtain ⟨ih0, ih1⟩ := sleuthlaw45_ChangepointOf.mono_l k
  refine ⟨?_, ?_⟩
  ·intro y0 y1 y2 y3 y4 y5
   unfold sleuthlaw45_ChangepointOf.j0
   repeat' first
   | (with_reducible exact ih0 _ _ _ _ _ _)
   | (with_reducible exact ih1 _ _ _ _ _ _)
   | (with_reducible exact changepoint_Of.mono _ _ _ _ _ _ _ _ _)
   | (with_reducible exact segmentation_Best.mono _ _ _)
   | (with_reducible exact segmentation_Levels.mono _ _ _)
   | (with_reducible exact sleuthlaw45_known.mono _)
   | (with_reducible exact sleuthlaw45_points.mono _ _ _)
   | (with_reducible exact LeO.refl _)
   | (with_reducible exact LeO.none _)
   | (with_reducible refine LeO.ite ?_ ?_)
   | (with_reducible refine LeO.bind ?_ (fun _ => ?_))
   | exact ih0 _ _ _ _ _ _
   | exact ih1 _ _ _ _ _ _
   | exact changepoint_Of.mono _ _ _ _ _ _ _ _ _
   | exact segmentation_Best.mono _ _ _
   | exact segmentation_Levels.mono _ _ _
   | exact sleuthlaw45_known.mono _
   | exact sleuthlaw45_points.mono _ _ _
   | exact LeO.none _
   | refine LeO.ite ?_ ?_
   | refine LeO.bind ?_ (fun _ => ?_)
  ·intro y0 y1 y2 y3 y4 y5
   unfold sleuthlaw45_ChangepointOf.l0
   repeat' first
   | (with_reducible exact ih0 _ _ _ _ _ _)
   | (with_reducible exact ih1 _ _ _ _ _ _)
   | (with_reducible exact changepoint_Of.mono _ _ _ _ _ _ _ _ _)
   | (with_reducible exact segmentation_Best.mono _ _ _)
   | (with_reducible exact segmentation_Levels.mono _ _ _)
   | (with_reducible exact sleuthlaw45_known.mono _)
   | (with_reducible exact sleuthlaw45_points.mono _ _ _)
   | (with_reducible exact LeO.refl _)
   | (with_reducible exact LeO.none _)
   | (with_reducible refine LeO.ite ?_ ?_)
   | (with_reducible refine LeO.bind ?_ (fun _ => ?_))
   | exact ih0 _ _ _ _ _ _
   | exact ih1 _ _ _ _ _ _
   | exact changepoint_Of.mono _ _ _ _ _ _ _ _ _
   | exact segmentation_Best.mono _ _ _
   | exact segmentation_Levels.mono _ _ _
   | exact sleuthlaw45_known.mono _
   | exact sleuthlaw45_points.mono _ _ _
   | exact LeO.none _
   | refine LeO.ite ?_ ?_
   | refine LeO.bind ?_ (fun _ => ?_)
theorem sleuthlaw45_ChangepointOf.mono : ∀ a0 a1 a2 k, LeO (sleuthlaw45_ChangepointOf.f k a0 a1 a2) (sleuthlaw45_ChangepointOf.f (k + 1) a0 a1 a2) := by
 intro a0 a1 a2 k
 obtain ⟨ih0, ih1⟩ := sleuthlaw45_ChangepointOf.mono_l k
 unfold sleuthlaw45_ChangepointOf.f
 repeat' first
   | (with_reducible exact ih0 _ _ _ _ _ _)
   | (with_reducible exact ih1 _ _ _ _ _ _)
   | (with_reducible exact changepoint_Of.mono _ _ _ _ _ _ _ _ _)
   | (with_reducible exact segmentation_Best.mono _ _ _)
   | (with_reducible exact segmentation_Levels.mono _ _ _)
   | (with_reducible exact sleuthlaw45_known.mono _)
   | (with_reducible exact sleuthlaw45_points.mono _ _ _)
   | (with_reducible exact LeO.refl _)
   | (with_reducible exact LeO.none _)
   | (with_reducible refine LeO.ite ?_ ?_)
   | (with_reducible refine LeO.bind ?_ (fun _ => ?_))
   | exact ih0 _ _ _ _ _ _
   | exact ih1 _ _ _ _ _ _
   | exact changepoint_Of.mono _ _ _ _ _ _ _ _ _
   | exact segmentation_Best.mono _ _ _
   | exact segmentation_Levels.mono _ _ _
   | exact sleuthlaw45_known.mono _
   | exact sleuthlaw45_points.mono _ _ _
   | exact LeO.none _
   | refine LeO.ite ?_ ?_
   | refine LeO.bind ?_ (fun _ => ?_)
set_option maxHeartbeats 8000000 in
set_option maxRecDepth 100000 in
theorem sleuthlaw45_ChangepointOf.calls (k : Nat) (a0 : Int) (A1 : Option Addr) (c1 : Nat) (l1 : List Int) (a2 : Int) (r : Bool) (w : World) (hr1 : Kd.C (Kd.int .u8) w A1 l1.length l1) (hc1 : l1.length ≤ c1) (h : sleuthlaw45_ChangepointOf.f k a0 l1 a2 = some r) :
  Calls Try.prog 3 #[.int .u8 a0, .slice A1 l1.length c1, .int .i64 a2] w fun e w' => e = .returned (.bool r) ∧ Below w.heap.size w w' := by
 have hu28 := Try.underlying28
 have hu35 := Try.underlying35
 have hu41 := Try.underlying41
 have HR1 := Aside0.mk hr1
 have HC1 := Aside0.mk hc1
 clear hr1 hc1
 have HB := Aside0.mk (Below.refl w.heap.size w)
 have H : ((sleuthlaw45_known.f k).bind fun t567 => (if t567 = true then ((sleuthlaw45_points.f k a0 l1).bind fun bt568 => ((changepoint_Of.f k bt568.1 bt568.2.1 bt568.2.2.1 bt568.2.2.2.1 bt568.2.2.2.2.1 bt568.2.2.2.2.2.1 bt568.2.2.2.2.2.2 a2).bind fun bt578 => ((segmentation_Best.f k bt568.2.2.2.2.2.2 a2).bind fun bt582 => ((segmentation_Levels.f k bt568.2.2.2.2.2.2 bt582.1).bind fun bt588 => (if bt578.2 = bt582.2.2 then (sleuthlaw45_ChangepointOf.j0 k a0 bt578.1 bt588.1 ((bt578.1.length : Int) != (bt582.1.length : Int)) bt582.1 bt582.2.1) else (sleuthlaw45_ChangepointOf.j0 k a0 bt578.1 bt588.1 true bt582.1 bt582.2.1)))))) else (some false))) = some r := h
 clear h
 replace H := Option.bind_eq_some_iff.mp H
 obtain ⟨t567, A40, H⟩ := H
 replace H : (if t567 = true then ((sleuthlaw45_points.f k a0 l1).bind fun bt568 => ((changepoint_Of.f k bt568.1 bt568.2.1 bt568.2.2.1 bt568.2.2.2.1 bt568.2.2.2.2.1 bt568.2.2.2.2.2.1 bt568.2.2.2.2.2.2 a2).bind fun bt578 => ((segmentation_Best.f k bt568.2.2.2.2.2.2 a2).bind fun bt582 => ((segmentation_Levels.f k bt568.2.2.2.2.2.2 bt582.1).bind fun bt588 => (if bt578.2 = bt582.2.2 then (sleuthlaw45_ChangepointOf.j0 k a0 bt578.1 bt588.1 ((bt578.1.length : Int) != (bt582.1.length : Int)) bt582.1 bt582.2.1) else (sleuthlaw45_ChangepointOf.j0 k a0 bt578.1 bt588.1 true bt582.1 bt582.2.1)))))) else (some false)) = some r := H
 have A4 := Aside0.mk A40
 clear A40
 by_cases c5 : t567 = true
 ·subst c5
  have H1 : ((sleuthlaw45_points.f k a0 l1).bind fun bt568 => ((changepoint_Of.f k bt568.1 bt568.2.1 bt568.2.2.1 bt568.2.2.2.1 bt568.2.2.2.2.1 bt568.2.2.2.2.2.1 bt568.2.2.2.2.2.2 a2).bind fun bt578 => ((segmentation_Best.f k bt568.2.2.2.2.2.2 a2).bind fun bt582 => ((segmentation_Levels.f k bt568.2.2.2.2.2.2 bt582.1).bind fun bt588 => (if bt578.2 = bt582.2.2 then (sleuthlaw45_ChangepointOf.j0 k a0 bt578.1 bt588.1 ((bt578.1.length : Int) != (bt582.1.length : Int)) bt582.1 bt582.2.1) else (sleuthlaw45_ChangepointOf.j0 k a0 bt578.1 bt588.1 true bt582.1 bt582.2.1)))))) = some r := by rw [if_pos rfl] at H; exact H
  clear H
  have H := H1
  clear H1
  replace H := Option.bind_eq_some_iff.mp H
  obtain ⟨⟨t568, t569, t570, t571, t572, t573, t574⟩, A60, H⟩ := H
  replace H : ((changepoint_Of.f k t568 t569 t570 t571 t572 t573 t574 a2).bind fun bt578 => ((segmentation_Best.f k t574 a2).bind fun bt582 => ((segmentation_Levels.f k t574 bt582.1).bind fun bt588 => (if bt578.2 = bt582.2.2 then (sleuthlaw45_ChangepointOf.j0 k a0 bt578.1 bt588.1 ((bt578.1.length : Int) != (bt582.1.length : Int)) bt582.1 bt582.2.1) else (sleuthlaw45_ChangepointOf.j0 k a0 bt578.1 bt588.1 true bt582.1 bt582.2.1))))) = some r := H
  have A6 := Aside0.mk A60
  clear A60
  replace H := Option.bind_eq_some_iff.mp H
  obtain ⟨⟨t578, t581⟩, A70, H⟩ := H
  replace H : ((segmentation_Best.f k t574 a2).bind fun bt582 => ((segmentation_Levels.f k t574 bt582.1).bind fun bt588 => (if t581 = bt582.2.2 then (sleuthlaw45_ChangepointOf.j0 k a0 t578 bt588.1 ((t578.length : Int) != (bt582.1.length : Int)) bt582.1 bt582.2.1) else (sleuthlaw45_ChangepointOf.j0 k a0 t578 bt588.1 true bt582.1 bt582.2.1)))) = some r := H
  have A7 := Aside0.mk A70
  clear A70
  replace H := Option.bind_eq_some_iff.mp H
  obtain ⟨⟨t582, t585, t586⟩, A80, H⟩ := H
  replace H : ((segmentation_Levels.f k t574 t582).bind fun bt588 => (if t581 = t586 then (sleuthlaw45_ChangepointOf.j0 k a0 t578 bt588.1 ((t578.length : Int) != (t582.length : Int)) t582 t585) else (sleuthlaw45_ChangepointOf.j0 k a0 t578 bt588.1 true t582 t585))) = some r := H
  have A8 := Aside0.mk A80
  clear A80
  replace H := Option.bind_eq_some_iff.mp H
  obtain ⟨⟨t588, t589⟩, A90, H⟩ := H
  replace H : (if t581 = t586 then (sleuthlaw45_ChangepointOf.j0 k a0 t578 t588 ((t578.length : Int) != (t582.length : Int)) t582 t585) else (sleuthlaw45_ChangepointOf.j0 k a0 t578 t588 true t582 t585)) = some r := H
  have A9 := Aside0.mk A90
  clear A90
  have HC10 := Aside0.mk H
  clear H
  go_enter Try.func3, Try.ntmps3
  go_upto_region 7 with (first | (go_at_call 13; (with_reducible refine (sleuthlaw45_known.calls k  true _ A4.out).mono ?_); rintro e w11 ⟨rfl, hb⟩; have n0_ := Aside0.mk (below_step qgsleuthlaw45changepointof_5 hb); clear HB; have HB := n0_; clear n0_; (try clear hb); (try clear hb2); (try clear hk); (try clear hi)) | (go_at_call 14; (with_reducible refine (sleuthlaw45_points.calls k a0 _ _ l1 t568 t569 t570 t571 t572 t573 t574 _ ?side1 ?side2 A6.out).mono ?_); (case side1 => exact qgsleuthlaw45changepointof_17); (case side2 => exact HC1.out); rintro e w12 ⟨v575, rfl, ho0, hb⟩; have n0_ := Aside0.mk (Kd.R_lower ho0 (below_size qgsleuthlaw45changepointof_5)); have n1_ := Aside0.mk (below_step qgsleuthlaw45changepointof_5 hb); clear HB; have HO576 := n0_; have HB := n1_; clear n0_ n1_; (try clear hb); (try clear hb2); (try clear hk); (try clear hi); (try clear ho0)) | ((with_reducible refine gate_dst (N := 7) rfl ?_); (try (refine gate_guard (by rfl) ?_; dsimp only)); refine box_event ?hg (N := 7) ?hd (cs := #[.string (⟨#[]⟩ : ByteArray), .string (⟨#[]⟩ : ByteArray), .int .i64 0, .int .i64 0, .int .i64 0, .int .i64 0, .slice none 0 0]) (t := 28) ?hr ?_; (case hd => rfl); (case hg => rfl); (case hr => first | (go_simp; done) | (go_simp; rfl)); intro gb577 hg w13 hbox hb; have n0_ := Aside0.mk (Kd.R_below qgsleuthlaw45changepointof_8 hb); have n1_ := Aside0.mk (below_step qgsleuthlaw45changepointof_5 hb); have n2_ := Aside0.mk (hbox); have n3_ := Aside0.mk ((by rw [hg]; exact (below_size qgsleuthlaw45changepointof_5) : w.heap.size ≤ gb577)); have n4_ := Aside0.mk ((by rw [hg]; exact (below_size qgsleuthlaw45changepointof_5) : w.heap.size ≤ gb577)); clear HO576; clear HB; have HO576 := n0_; have HB := n1_; have BK577 := n2_; have GW577 := n3_; have GE577 := n4_; clear n0_ n1_ n2_ n3_ n4_; clear hb hbox hg; have hcz14_0 : w13.cell? ⟨gb577, 0, none⟩ = some (.string (⟨#[]⟩ : ByteArray)) := (blk_cell BK577.out 0).trans rfl; have hcz14_1 : w13.cell? ⟨gb577, 1, none⟩ = some (.string (⟨#[]⟩ : ByteArray)) := (blk_cell BK577.out 1).trans rfl; have hcz14_2 : w13.cell? ⟨gb577, 2, none⟩ = some (.int .i64 0) := (blk_cell BK577.out 2).trans rfl; have hcz14_3 : w13.cell? ⟨gb577, 3, none⟩ = some (.int .i64 0) := (blk_cell BK577.out 3).trans rfl; have hcz14_4 : w13.cell? ⟨gb577, 4, none⟩ = some (.int .i64 0) := (blk_cell BK577.out 4).trans rfl; have hcz14_5 : w13.cell? ⟨gb577, 5, none⟩ = some (.int .i64 0) := (blk_cell BK577.out 5).trans rfl; have hcz14_6 : w13.cell? ⟨gb577, 6, none⟩ = some (.slice none 0 0) := (blk_cell BK577.out 6).trans rfl; have hfz14_0 := blk_frozen BK577.out 0; have hfz14_1 := blk_frozen BK577.out 1; have hfz14_2 := blk_frozen BK577.out 2; have hfz14_3 := blk_frozen BK577.out 3; have hfz14_4 := blk_frozen BK577.out 4; have hfz14_5 := blk_frozen BK577.out 5; have hfz14_6 := blk_frozen BK577.out 6; obtain ⟨Ao15, co15, eo15⟩ := Kd.R_slice HO576.out; subst eo15) | (go_at_call 15; (with_reducible refine (changepoint_Of.calls k t568 t569 t570 t571 t572 t573 _ _ t574 a2 t578 t581 _ ?side1 ?side2 A7.out).mono ?_); (case side1 => exact qgsleuthlaw45changepointof_19); (case side2 => exact (Kd.R_reads' HO576.out).2.1); rintro e w16 ⟨v579, rfl, ho0, hb⟩; have n0_ := Aside0.mk (Kd.R_below qgsleuthlaw45changepointof_1 hb); have n1_ := Aside0.mk (Kd.R_lower ho0 (below_size qgsleuthlaw45changepointof_2)); have n2_ := Aside0.mk (blk_below (g := gb577) (o := .cells #[.string t568, .string t569, .int .i64 t570, .int .i64 t571, .int .i64 t572, .int .i64 t573, .slice Ao15 t574.length co15] 28 (0, 0)) qgsleuthlaw45changepointof_0 hb); have n3_ := Aside0.mk (below_step qgsleuthlaw45changepointof_2 hb); clear HO576; clear BK577; clear HB; have HO576 := n0_; have HO580 := n1_; have BK577 := n2_; have HB := n3_; clear n0_ n1_ n2_ n3_; (try clear hb); (try clear hb2); (try clear hk); (try clear hi); (try clear ho0); have hcz17_0 : w16.cell? ⟨gb577, 0, none⟩ = some (.string t568) := (blk_cell BK577.out 0).trans rfl; have hcz17_1 : w16.cell? ⟨gb577, 1, none⟩ = some (.string t569) := (blk_cell BK577.out 1).trans rfl; have hcz17_2 : w16.cell? ⟨gb577, 2, none⟩ = some (.int .i64 t570) := (blk_cell BK577.out 2).trans rfl; have hcz17_3 : w16.cell? ⟨gb577, 3, none⟩ = some (.int .i64 t571) := (blk_cell BK577.out 3).trans rfl; have hcz17_4 : w16.cell? ⟨gb577, 4, none⟩ = some (.int .i64 t572) := (blk_cell BK577.out 4).trans rfl; have hcz17_5 : w16.cell? ⟨gb577, 5, none⟩ = some (.int .i64 t573) := (blk_cell BK577.out 5).trans rfl; have hcz17_6 : w16.cell? ⟨gb577, 6, none⟩ = some (.slice Ao15 t574.length co15) := (blk_cell BK577.out 6).trans rfl; have hfz17_0 := blk_frozen BK577.out 0; have hfz17_1 := blk_frozen BK577.out 1; have hfz17_2 := blk_frozen BK577.out 2; have hfz17_3 := blk_frozen BK577.out 3; have hfz17_4 := blk_frozen BK577.out 4; have hfz17_5 := blk_frozen BK577.out 5; have hfz17_6 := blk_frozen BK577.out 6) | (go_at_call 16; (with_reducible refine (segmentation_Best.calls k _ _ t574 a2 t582 t585 t586 _ ?side1 ?side2 A8.out).mono ?_); (case side1 => exact qgsleuthlaw45changepointof_18); (case side2 => exact (Kd.R_reads' HO576.out).2.1); rintro e w18 ⟨v583, rfl, ho0, hb⟩; have n0_ := Aside0.mk (Kd.R_elder' qgsleuthlaw45changepointof_8 (Kd.R_base ho0) hb); have n1_ := Aside0.mk (Kd.R_below qgsleuthlaw45changepointof_12 hb); have n2_ := Aside0.mk (Kd.R_lower (Kd.R_new' ho0 (Kd.R_lt qgsleuthlaw45changepointof_8)) (below_size qgsleuthlaw45changepointof_2)); have n3_ := Aside0.mk (blk_below (g := gb577) (o := .cells #[.string t568, .string t569, .int .i64 t570, .int .i64 t571, .int .i64 t572, .int .i64 t573, .slice Ao15 t574.length co15] 28 (0, 0)) qgsleuthlaw45changepointof_7 hb); have n4_ := Aside0.mk (below_step qgsleuthlaw45changepointof_2 hb); clear HO576; clear HO580; clear BK577; clear HB; have HO576 := n0_; have HO580 := n1_; have HO584 := n2_; have BK577 := n3_; have HB := n4_; clear n0_ n1_ n2_ n3_ n4_; (try clear hb); (try clear hb2); (try clear hk); (try clear hi); (try clear ho0)) | ((with_reducible refine gate_dst (N := 10) rfl ?_); (try (refine gate_guard (by rfl) ?_; dsimp only)); refine box_event ?hg (N := 10) ?hd (cs := #[.slice none 0 0, .int .i64 0]) (t := 35) ?hr ?_; (case hd => rfl); (case hg => rfl); (case hr => first | (go_simp; done) | (go_simp; rfl)); intro gb587 hg w19 hbox hb; have n0_ := Aside0.mk (Kd.R_below qgsleuthlaw45changepointof_8 hb); have n1_ := Aside0.mk (Kd.R_below qgsleuthlaw45changepointof_12 hb); have n2_ := Aside0.mk (Kd.R_below (by (with_reducible repeat (first | apply Kd.R_alloc | apply Kd.R_drewN | apply Kd.R_drew)); exact HO584.out) hb); have n3_ := Aside0.mk (blk_below (g := gb577) (o := .cells #[.string t568, .string t569, .int .i64 t570, .int .i64 t571, .int .i64 t572, .int .i64 t573, .slice Ao15 t574.length co15] 28 (0, 0)) qgsleuthlaw45changepointof_7 hb); have n4_ := Aside0.mk (below_step qgsleuthlaw45changepointof_2 hb); have n5_ := Aside0.mk (hbox); have n6_ := Aside0.mk ((by rw [hg]; exact (below_size qgsleuthlaw45changepointof_2) : w.heap.size ≤ gb587)); have n7_ := Aside0.mk ((by rw [hg]; exact (below_size qgsleuthlaw45changepointof_2) : w.heap.size ≤ gb587)); have n8_ := Aside0.mk ((by rw [hg]; exact Nat.ne_of_lt (blk_lt (g := gb577) (o := .cells #[.string t568, .string t569, .int .i64 t570, .int .i64 t571, .int .i64 t572, .int .i64 t573, .slice Ao15 t574.length co15] 28 (0, 0)) qgsleuthlaw45changepointof_7) : gb577 ≠ gb587)); have n9_ := Aside0.mk ((by rw [hg]; exact Nat.ne_of_gt (blk_lt (g := gb577) (o := .cells #[.string t568, .string t569, .int .i64 t570, .int .i64 t571, .int .i64 t572, .int .i64 t573, .slice Ao15 t574.length co15] 28 (0, 0)) qgsleuthlaw45changepointof_7) : gb587 ≠ gb577)); clear HO576; clear HO580; clear HO584; clear BK577; clear HB; have HO576 := n0_; have HO580 := n1_; have HO584 := n2_; have BK577 := n3_; have HB := n4_; have BK587 := n5_; have GW587 := n6_; have GE587 := n7_; have NB577_587 := n8_; have NB587_577 := n9_; clear n0_ n1_ n2_ n3_ n4_ n5_ n6_ n7_ n8_ n9_; clear hb hbox hg; obtain ⟨Ao20, co20, eo20⟩ := Kd.R_slice HO584.out; subst eo20; have hnb21 := NB587_577.out; have hnc21 := NB577_587.out; have hcz22_0 : w19.cell? ⟨gb587, 0, none⟩ = some (.slice none 0 0) := (blk_cell BK587.out 0).trans rfl; have hcz22_1 : w19.cell? ⟨gb587, 1, none⟩ = some (.int .i64 0) := (blk_cell BK587.out 1).trans rfl; have hfz22_0 := blk_frozen BK587.out 0; have hfz22_1 := blk_frozen BK587.out 1; have hcz23_0 : w19.cell? ⟨gb577, 0, none⟩ = some (.string t568) := (blk_cell BK577.out 0).trans rfl; have hcz23_1 : w19.cell? ⟨gb577, 1, none⟩ = some (.string t569) := (blk_cell BK577.out 1).trans rfl; have hcz23_2 : w19.cell? ⟨gb577, 2, none⟩ = some (.int .i64 t570) := (blk_cell BK577.out 2).trans rfl; have hcz23_3 : w19.cell? ⟨gb577, 3, none⟩ = some (.int .i64 t571) := (blk_cell BK577.out 3).trans rfl; have hcz23_4 : w19.cell? ⟨gb577, 4, none⟩ = some (.int .i64 t572) := (blk_cell BK577.out 4).trans rfl; have hcz23_5 : w19.cell? ⟨gb577, 5, none⟩ = some (.int .i64 t573) := (blk_cell BK577.out 5).trans rfl; have hcz23_6 : w19.cell? ⟨gb577, 6, none⟩ = some (.slice Ao15 t574.length co15) := (blk_cell BK577.out 6).trans rfl; have hfz23_0 := blk_frozen BK577.out 0; have hfz23_1 := blk_frozen BK577.out 1; have hfz23_2 := blk_frozen BK577.out 2; have hfz23_3 := blk_frozen BK577.out 3; have hfz23_4 := blk_frozen BK577.out 4; have hfz23_5 := blk_frozen BK577.out 5; have hfz23_6 := blk_frozen BK577.out 6) | (go_at_call 17; (with_reducible refine (segmentation_Levels.calls k _ _ t574 _ _ t582 t588 t589 _ ?side1 ?side2 ?side3 ?side4 A9.out).mono ?_); (case side1 => exact qgsleuthlaw45changepointof_14); (case side2 => exact (Kd.R_reads' HO576.out).2.1); (case side3 => exact qgsleuthlaw45changepointof_15); (case side4 => exact (Kd.R_reads' HO584.out).2.1); rintro e w24 ⟨v590, rfl, ho0, hb⟩; have n0_ := Aside0.mk (Kd.R_elder' qgsleuthlaw45changepointof_3 (Kd.R_base ho0) hb); have n1_ := Aside0.mk (Kd.R_below qgsleuthlaw45changepointof_11 hb); have n2_ := Aside0.mk (Kd.R_elder' qgsleuthlaw45changepointof_4 (Kd.R_base ho0) hb); have n3_ := Aside0.mk (Kd.R_lower (Kd.R_new' (Kd.R_new' ho0 (Kd.R_lt qgsleuthlaw45changepointof_3)) (Kd.R_lt qgsleuthlaw45changepointof_4)) (below_size qgsleuthlaw45changepointof_6)); have n4_ := Aside0.mk (blk_below (g := gb577) (o := .cells #[.string t568, .string t569, .int .i64 t570, .int .i64 t571, .int .i64 t572, .int .i64 t573, .slice Ao15 t574.length co15] 28 (0, 0)) qgsleuthlaw45changepointof_10 hb); have n5_ := Aside0.mk (blk_below (g := gb587) (o := .cells #[.slice Ao20 t582.length co20, .int .i64 t585] 35 (0, 0)) qgsleuthlaw45changepointof_9 hb); have n6_ := Aside0.mk (below_step qgsleuthlaw45changepointof_6 hb); clear HO576; clear HO580; clear HO584; clear BK577; clear BK587; clear HB; have HO576 := n0_; have HO580 := n1_; have HO584 := n2_; have HO591 := n3_; have BK577 := n4_; have BK587 := n5_; have HB := n6_; clear n0_ n1_ n2_ n3_ n4_ n5_ n6_; (try clear hb); (try clear hb2); (try clear hk); (try clear hi); (try clear ho0)))
  repeat (go_quiet (first | (go_at_call 13; (with_reducible refine (sleuthlaw45_known.calls k  true _ A4.out).mono ?_); rintro e w11 ⟨rfl, hb⟩; have n0_ := Aside0.mk (below_step qgsleuthlaw45changepointof_5 hb); clear HB; have HB := n0_; clear n0_; (try clear hb); (try clear hb2); (try clear hk); (try clear hi)) | (go_at_call 14; (with_reducible refine (sleuthlaw45_points.calls k a0 _ _ l1 t568 t569 t570 t571 t572 t573 t574 _ ?side1 ?side2 A6.out).mono ?_); (case side1 => exact qgsleuthlaw45changepointof_17); (case side2 => exact HC1.out); rintro e w12 ⟨v575, rfl, ho0, hb⟩; have n0_ := Aside0.mk (Kd.R_lower ho0 (below_size qgsleuthlaw45changepointof_5)); have n1_ := Aside0.mk (below_step qgsleuthlaw45changepointof_5 hb); clear HB; have HO576 := n0_; have HB := n1_; clear n0_ n1_; (try clear hb); (try clear hb2); (try clear hk); (try clear hi); (try clear ho0)) | ((with_reducible refine gate_dst (N := 7) rfl ?_); (try (refine gate_guard (by rfl) ?_; dsimp only)); refine box_event ?hg (N := 7) ?hd (cs := #[.string (⟨#[]⟩ : ByteArray), .string (⟨#[]⟩ : ByteArray), .int .i64 0, .int .i64 0, .int .i64 0, .int .i64 0, .slice none 0 0]) (t := 28) ?hr ?_; (case hd => rfl); (case hg => rfl); (case hr => first | (go_simp; done) | (go_simp; rfl)); intro gb577 hg w13 hbox hb; have n0_ := Aside0.mk (Kd.R_below qgsleuthlaw45changepointof_8 hb); have n1_ := Aside0.mk (below_step qgsleuthlaw45changepointof_5 hb); have n2_ := Aside0.mk (hbox); have n3_ := Aside0.mk ((by rw [hg]; exact (below_size qgsleuthlaw45changepointof_5) : w.heap.size ≤ gb577)); have n4_ := Aside0.mk ((by rw [hg]; exact (below_size qgsleuthlaw45changepointof_5) : w.heap.size ≤ gb577)); clear HO576; clear HB; have HO576 := n0_; have HB := n1_; have BK577 := n2_; have GW577 := n3_; have GE577 := n4_; clear n0_ n1_ n2_ n3_ n4_; clear hb hbox hg; have hcz14_0 : w13.cell? ⟨gb577, 0, none⟩ = some (.string (⟨#[]⟩ : ByteArray)) := (blk_cell BK577.out 0).trans rfl; have hcz14_1 : w13.cell? ⟨gb577, 1, none⟩ = some (.string (⟨#[]⟩ : ByteArray)) := (blk_cell BK577.out 1).trans rfl; have hcz14_2 : w13.cell? ⟨gb577, 2, none⟩ = some (.int .i64 0) := (blk_cell BK577.out 2).trans rfl; have hcz14_3 : w13.cell? ⟨gb577, 3, none⟩ = some (.int .i64 0) := (blk_cell BK577.out 3).trans rfl; have hcz14_4 : w13.cell? ⟨gb577, 4, none⟩ = some (.int .i64 0) := (blk_cell BK577.out 4).trans rfl; have hcz14_5 : w13.cell? ⟨gb577, 5, none⟩ = some (.int .i64 0) := (blk_cell BK577.out 5).trans rfl; have hcz14_6 : w13.cell? ⟨gb577, 6, none⟩ = some (.slice none 0 0) := (blk_cell BK577.out 6).trans rfl; have hfz14_0 := blk_frozen BK577.out 0; have hfz14_1 := blk_frozen BK577.out 1; have hfz14_2 := blk_frozen BK577.out 2; have hfz14_3 := blk_frozen BK577.out 3; have hfz14_4 := blk_frozen BK577.out 4; have hfz14_5 := blk_frozen BK577.out 5; have hfz14_6 := blk_frozen BK577.out 6; obtain ⟨Ao15, co15, eo15⟩ := Kd.R_slice HO576.out; subst eo15) | (go_at_call 15; (with_reducible refine (changepoint_Of.calls k t568 t569 t570 t571 t572 t573 _ _ t574 a2 t578 t581 _ ?side1 ?side2 A7.out).mono ?_); (case side1 => exact qgsleuthlaw45changepointof_19); (case side2 => exact (Kd.R_reads' HO576.out).2.1); rintro e w16 ⟨v579, rfl, ho0, hb⟩; have n0_ := Aside0.mk (Kd.R_below qgsleuthlaw45changepointof_1 hb); have n1_ := Aside0.mk (Kd.R_lower ho0 (below_size qgsleuthlaw45changepointof_2)); have n2_ := Aside0.mk (blk_below (g := gb577) (o := .cells #[.string t568, .string t569, .int .i64 t570, .int .i64 t571, .int .i64 t572, .int .i64 t573, .slice Ao15 t574.length co15] 28 (0, 0)) qgsleuthlaw45changepointof_0 hb); have n3_ := Aside0.mk (below_step qgsleuthlaw45changepointof_2 hb); clear HO576; clear BK577; clear HB; have HO576 := n0_; have HO580 := n1_; have BK577 := n2_; have HB := n3_; clear n0_ n1_ n2_ n3_; (try clear hb); (try clear hb2); (try clear hk); (try clear hi); (try clear ho0); have hcz17_0 : w16.cell? ⟨gb577, 0, none⟩ = some (.string t568) := (blk_cell BK577.out 0).trans rfl; have hcz17_1 : w16.cell? ⟨gb577, 1, none⟩ = some (.string t569) := (blk_cell BK577.out 1).trans rfl; have hcz17_2 : w16.cell? ⟨gb577, 2, none⟩ = some (.int .i64 t570) := (blk_cell BK577.out 2).trans rfl; have hcz17_3 : w16.cell? ⟨gb577, 3, none⟩ = some (.int .i64 t571) := (blk_cell BK577.out 3).trans rfl; have hcz17_4 : w16.cell? ⟨gb577, 4, none⟩ = some (.int .i64 t572) := (blk_cell BK577.out 4).trans rfl; have hcz17_5 : w16.cell? ⟨gb577, 5, none⟩ = some (.int .i64 t573) := (blk_cell BK577.out 5).trans rfl; have hcz17_6 : w16.cell? ⟨gb577, 6, none⟩ = some (.slice Ao15 t574.length co15) := (blk_cell BK577.out 6).trans rfl; have hfz17_0 := blk_frozen BK577.out 0; have hfz17_1 := blk_frozen BK577.out 1; have hfz17_2 := blk_frozen BK577.out 2; have hfz17_3 := blk_frozen BK577.out 3; have hfz17_4 := blk_frozen BK577.out 4; have hfz17_5 := blk_frozen BK577.out 5; have hfz17_6 := blk_frozen BK577.out 6) | (go_at_call 16; (with_reducible refine (segmentation_Best.calls k _ _ t574 a2 t582 t585 t586 _ ?side1 ?side2 A8.out).mono ?_); (case side1 => exact qgsleuthlaw45changepointof_18); (case side2 => exact (Kd.R_reads' HO576.out).2.1); rintro e w18 ⟨v583, rfl, ho0, hb⟩; have n0_ := Aside0.mk (Kd.R_elder' qgsleuthlaw45changepointof_8 (Kd.R_base ho0) hb); have n1_ := Aside0.mk (Kd.R_below qgsleuthlaw45changepointof_12 hb); have n2_ := Aside0.mk (Kd.R_lower (Kd.R_new' ho0 (Kd.R_lt qgsleuthlaw45changepointof_8)) (below_size qgsleuthlaw45changepointof_2)); have n3_ := Aside0.mk (blk_below (g := gb577) (o := .cells #[.string t568, .string t569, .int .i64 t570, .int .i64 t571, .int .i64 t572, .int .i64 t573, .slice Ao15 t574.length co15] 28 (0, 0)) qgsleuthlaw45changepointof_7 hb); have n4_ := Aside0.mk (below_step qgsleuthlaw45changepointof_2 hb); clear HO576; clear HO580; clear BK577; clear HB; have HO576 := n0_; have HO580 := n1_; have HO584 := n2_; have BK577 := n3_; have HB := n4_; clear n0_ n1_ n2_ n3_ n4_; (try clear hb); (try clear hb2); (try clear hk); (try clear hi); (try clear ho0)) | ((with_reducible refine gate_dst (N := 10) rfl ?_); (try (refine gate_guard (by rfl) ?_; dsimp only)); refine box_event ?hg (N := 10) ?hd (cs := #[.slice none 0 0, .int .i64 0]) (t := 35) ?hr ?_; (case hd => rfl); (case hg => rfl); (case hr => first | (go_simp; done) | (go_simp; rfl)); intro gb587 hg w19 hbox hb; have n0_ := Aside0.mk (Kd.R_below qgsleuthlaw45changepointof_8 hb); have n1_ := Aside0.mk (Kd.R_below qgsleuthlaw45changepointof_12 hb); have n2_ := Aside0.mk (Kd.R_below (by (with_reducible repeat (first | apply Kd.R_alloc | apply Kd.R_drewN | apply Kd.R_drew)); exact HO584.out) hb); have n3_ := Aside0.mk (blk_below (g := gb577) (o := .cells #[.string t568, .string t569, .int .i64 t570, .int .i64 t571, .int .i64 t572, .int .i64 t573, .slice Ao15 t574.length co15] 28 (0, 0)) qgsleuthlaw45changepointof_7 hb); have n4_ := Aside0.mk (below_step qgsleuthlaw45changepointof_2 hb); have n5_ := Aside0.mk (hbox); have n6_ := Aside0.mk ((by rw [hg]; exact (below_size qgsleuthlaw45changepointof_2) : w.heap.size ≤ gb587)); have n7_ := Aside0.mk ((by rw [hg]; exact (below_size qgsleuthlaw45changepointof_2) : w.heap.size ≤ gb587)); have n8_ := Aside0.mk ((by rw [hg]; exact Nat.ne_of_lt (blk_lt (g := gb577) (o := .cells #[.string t568, .string t569, .int .i64 t570, .int .i64 t571, .int .i64 t572, .int .i64 t573, .slice Ao15 t574.length co15] 28 (0, 0)) qgsleuthlaw45changepointof_7) : gb577 ≠ gb587)); have n9_ := Aside0.mk ((by rw [hg]; exact Nat.ne_of_gt (blk_lt (g := gb577) (o := .cells #[.string t568, .string t569, .int .i64 t570, .int .i64 t571, .int .i64 t572, .int .i64 t573, .slice Ao15 t574.length co15] 28 (0, 0)) qgsleuthlaw45changepointof_7) : gb587 ≠ gb577)); clear HO576; clear HO580; clear HO584; clear BK577; clear HB; have HO576 := n0_; have HO580 := n1_; have HO584 := n2_; have BK577 := n3_; have HB := n4_; have BK587 := n5_; have GW587 := n6_; have GE587 := n7_; have NB577_587 := n8_; have NB587_577 := n9_; clear n0_ n1_ n2_ n3_ n4_ n5_ n6_ n7_ n8_ n9_; clear hb hbox hg; obtain ⟨Ao20, co20, eo20⟩ := Kd.R_slice HO584.out; subst eo20; have hnb21 := NB587_577.out; have hnc21 := NB577_587.out; have hcz22_0 : w19.cell? ⟨gb587, 0, none⟩ = some (.slice none 0 0) := (blk_cell BK587.out 0).trans rfl; have hcz22_1 : w19.cell? ⟨gb587, 1, none⟩ = some (.int .i64 0) := (blk_cell BK587.out 1).trans rfl; have hfz22_0 := blk_frozen BK587.out 0; have hfz22_1 := blk_frozen BK587.out 1; have hcz23_0 : w19.cell? ⟨gb577, 0, none⟩ = some (.string t568) := (blk_cell BK577.out 0).trans rfl; have hcz23_1 : w19.cell? ⟨gb577, 1, none⟩ = some (.string t569) := (blk_cell BK577.out 1).trans rfl; have hcz23_2 : w19.cell? ⟨gb577, 2, none⟩ = some (.int .i64 t570) := (blk_cell BK577.out 2).trans rfl; have hcz23_3 : w19.cell? ⟨gb577, 3, none⟩ = some (.int .i64 t571) := (blk_cell BK577.out 3).trans rfl; have hcz23_4 : w19.cell? ⟨gb577, 4, none⟩ = some (.int .i64 t572) := (blk_cell BK577.out 4).trans rfl; have hcz23_5 : w19.cell? ⟨gb577, 5, none⟩ = some (.int .i64 t573) := (blk_cell BK577.out 5).trans rfl; have hcz23_6 : w19.cell? ⟨gb577, 6, none⟩ = some (.slice Ao15 t574.length co15) := (blk_cell BK577.out 6).trans rfl; have hfz23_0 := blk_frozen BK577.out 0; have hfz23_1 := blk_frozen BK577.out 1; have hfz23_2 := blk_frozen BK577.out 2; have hfz23_3 := blk_frozen BK577.out 3; have hfz23_4 := blk_frozen BK577.out 4; have hfz23_5 := blk_frozen BK577.out 5; have hfz23_6 := blk_frozen BK577.out 6) | (go_at_call 17; (with_reducible refine (segmentation_Levels.calls k _ _ t574 _ _ t582 t588 t589 _ ?side1 ?side2 ?side3 ?side4 A9.out).mono ?_); (case side1 => exact qgsleuthlaw45changepointof_14); (case side2 => exact (Kd.R_reads' HO576.out).2.1); (case side3 => exact qgsleuthlaw45changepointof_15); (case side4 => exact (Kd.R_reads' HO584.out).2.1); rintro e w24 ⟨v590, rfl, ho0, hb⟩; have n0_ := Aside0.mk (Kd.R_elder' qgsleuthlaw45changepointof_3 (Kd.R_base ho0) hb); have n1_ := Aside0.mk (Kd.R_below qgsleuthlaw45changepointof_11 hb); have n2_ := Aside0.mk (Kd.R_elder' qgsleuthlaw45changepointof_4 (Kd.R_base ho0) hb); have n3_ := Aside0.mk (Kd.R_lower (Kd.R_new' (Kd.R_new' ho0 (Kd.R_lt qgsleuthlaw45changepointof_3)) (Kd.R_lt qgsleuthlaw45changepointof_4)) (below_size qgsleuthlaw45changepointof_6)); have n4_ := Aside0.mk (blk_below (g := gb577) (o := .cells #[.string t568, .string t569, .int .i64 t570, .int .i64 t571, .int .i64 t572, .int .i64 t573, .slice Ao15 t574.length co15] 28 (0, 0)) qgsleuthlaw45changepointof_10 hb); have n5_ := Aside0.mk (blk_below (g := gb587) (o := .cells #[.slice Ao20 t582.length co20, .int .i64 t585] 35 (0, 0)) qgsleuthlaw45changepointof_9 hb); have n6_ := Aside0.mk (below_step qgsleuthlaw45changepointof_6 hb); clear HO576; clear HO580; clear HO584; clear BK577; clear BK587; clear HB; have HO576 := n0_; have HO580 := n1_; have HO584 := n2_; have HO591 := n3_; have BK577 := n4_; have BK587 := n5_; have HB := n6_; clear n0_ n1_ n2_ n3_ n4_ n5_ n6_; (try clear hb); (try clear hb2); (try clear hk); (try clear hi); (try clear ho0))); go_upto_region 7 with (first | (go_at_call 13; (with_reducible refine (sleuthlaw45_known.calls k  true _ A4.out).mono ?_); rintro e w11 ⟨rfl, hb⟩; have n0_ := Aside0.mk (below_step qgsleuthlaw45changepointof_5 hb); clear HB; have HB := n0_; clear n0_; (try clear hb); (try clear hb2); (try clear hk); (try clear hi)) | (go_at_call 14; (with_reducible refine (sleuthlaw45_points.calls k a0 _ _ l1 t568 t569 t570 t571 t572 t573 t574 _ ?side1 ?side2 A6.out).mono ?_); (case side1 => exact qgsleuthlaw45changepointof_17); (case side2 => exact HC1.out); rintro e w12 ⟨v575, rfl, ho0, hb⟩; have n0_ := Aside0.mk (Kd.R_lower ho0 (below_size qgsleuthlaw45changepointof_5)); have n1_ := Aside0.mk (below_step qgsleuthlaw45changepointof_5 hb); clear HB; have HO576 := n0_; have HB := n1_; clear n0_ n1_; (try clear hb); (try clear hb2); (try clear hk); (try clear hi); (try clear ho0)) | ((with_reducible refine gate_dst (N := 7) rfl ?_); (try (refine gate_guard (by rfl) ?_; dsimp only)); refine box_event ?hg (N := 7) ?hd (cs := #[.string (⟨#[]⟩ : ByteArray), .string (⟨#[]⟩ : ByteArray), .int .i64 0, .int .i64 0, .int .i64 0, .int .i64 0, .slice none 0 0]) (t := 28) ?hr ?_; (case hd => rfl); (case hg => rfl); (case hr => first | (go_simp; done) | (go_simp; rfl)); intro gb577 hg w13 hbox hb; have n0_ := Aside0.mk (Kd.R_below qgsleuthlaw45changepointof_8 hb); have n1_ := Aside0.mk (below_step qgsleuthlaw45changepointof_5 hb); have n2_ := Aside0.mk (hbox); have n3_ := Aside0.mk ((by rw [hg]; exact (below_size qgsleuthlaw45changepointof_5) : w.heap.size ≤ gb577)); have n4_ := Aside0.mk ((by rw [hg]; exact (below_size qgsleuthlaw45changepointof_5) : w.heap.size ≤ gb577)); clear HO576; clear HB; have HO576 := n0_; have HB := n1_; have BK577 := n2_; have GW577 := n3_; have GE577 := n4_; clear n0_ n1_ n2_ n3_ n4_; clear hb hbox hg; have hcz14_0 : w13.cell? ⟨gb577, 0, none⟩ = some (.string (⟨#[]⟩ : ByteArray)) := (blk_cell BK577.out 0).trans rfl; have hcz14_1 : w13.cell? ⟨gb577, 1, none⟩ = some (.string (⟨#[]⟩ : ByteArray)) := (blk_cell BK577.out 1).trans rfl; have hcz14_2 : w13.cell? ⟨gb577, 2, none⟩ = some (.int .i64 0) := (blk_cell BK577.out 2).trans rfl; have hcz14_3 : w13.cell? ⟨gb577, 3, none⟩ = some (.int .i64 0) := (blk_cell BK577.out 3).trans rfl; have hcz14_4 : w13.cell? ⟨gb577, 4, none⟩ = some (.int .i64 0) := (blk_cell BK577.out 4).trans rfl; have hcz14_5 : w13.cell? ⟨gb577, 5, none⟩ = some (.int .i64 0) := (blk_cell BK577.out 5).trans rfl; have hcz14_6 : w13.cell? ⟨gb577, 6, none⟩ = some (.slice none 0 0) := (blk_cell BK577.out 6).trans rfl; have hfz14_0 := blk_frozen BK577.out 0; have hfz14_1 := blk_frozen BK577.out 1; have hfz14_2 := blk_frozen BK577.out 2; have hfz14_3 := blk_frozen BK577.out 3; have hfz14_4 := blk_frozen BK577.out 4; have hfz14_5 := blk_frozen BK577.out 5; have hfz14_6 := blk_frozen BK577.out 6; obtain ⟨Ao15, co15, eo15⟩ := Kd.R_slice HO576.out; subst eo15) | (go_at_call 15; (with_reducible refine (changepoint_Of.calls k t568 t569 t570 t571 t572 t573 _ _ t574 a2 t578 t581 _ ?side1 ?side2 A7.out).mono ?_); (case side1 => exact qgsleuthlaw45changepointof_19); (case side2 => exact (Kd.R_reads' HO576.out).2.1); rintro e w16 ⟨v579, rfl, ho0, hb⟩; have n0_ := Aside0.mk (Kd.R_below qgsleuthlaw45changepointof_1 hb); have n1_ := Aside0.mk (Kd.R_lower ho0 (below_size qgsleuthlaw45changepointof_2)); have n2_ := Aside0.mk (blk_below (g := gb577) (o := .cells #[.string t568, .string t569, .int .i64 t570, .int .i64 t571, .int .i64 t572, .int .i64 t573, .slice Ao15 t574.length co15] 28 (0, 0)) qgsleuthlaw45changepointof_0 hb); have n3_ := Aside0.mk (below_step qgsleuthlaw45changepointof_2 hb); clear HO576; clear BK577; clear HB; have HO576 := n0_; have HO580 := n1_; have BK577 := n2_; have HB := n3_; clear n0_ n1_ n2_ n3_; (try clear hb); (try clear hb2); (try clear hk); (try clear hi); (try clear ho0); have hcz17_0 : w16.cell? ⟨gb577, 0, none⟩ = some (.string t568) := (blk_cell BK577.out 0).trans rfl; have hcz17_1 : w16.cell? ⟨gb577, 1, none⟩ = some (.string t569) := (blk_cell BK577.out 1).trans rfl; have hcz17_2 : w16.cell? ⟨gb577, 2, none⟩ = some (.int .i64 t570) := (blk_cell BK577.out 2).trans rfl; have hcz17_3 : w16.cell? ⟨gb577, 3, none⟩ = some (.int .i64 t571) := (blk_cell BK577.out 3).trans rfl; have hcz17_4 : w16.cell? ⟨gb577, 4, none⟩ = some (.int .i64 t572) := (blk_cell BK577.out 4).trans rfl; have hcz17_5 : w16.cell? ⟨gb577, 5, none⟩ = some (.int .i64 t573) := (blk_cell BK577.out 5).trans rfl; have hcz17_6 : w16.cell? ⟨gb577, 6, none⟩ = some (.slice Ao15 t574.length co15) := (blk_cell BK577.out 6).trans rfl; have hfz17_0 := blk_frozen BK577.out 0; have hfz17_1 := blk_frozen BK577.out 1; have hfz17_2 := blk_frozen BK577.out 2; have hfz17_3 := blk_frozen BK577.out 3; have hfz17_4 := blk_frozen BK577.out 4; have hfz17_5 := blk_frozen BK577.out 5; have hfz17_6 := blk_frozen BK577.out 6) | (go_at_call 16; (with_reducible refine (segmentation_Best.calls k _ _ t574 a2 t582 t585 t586 _ ?side1 ?side2 A8.out).mono ?_); (case side1 => exact qgsleuthlaw45changepointof_18); (case side2 => exact (Kd.R_reads' HO576.out).2.1); rintro e w18 ⟨v583, rfl, ho0, hb⟩; have n0_ := Aside0.mk (Kd.R_elder' qgsleuthlaw45changepointof_8 (Kd.R_base ho0) hb); have n1_ := Aside0.mk (Kd.R_below qgsleuthlaw45changepointof_12 hb); have n2_ := Aside0.mk (Kd.R_lower (Kd.R_new' ho0 (Kd.R_lt qgsleuthlaw45changepointof_8)) (below_size qgsleuthlaw45changepointof_2)); have n3_ := Aside0.mk (blk_below (g := gb577) (o := .cells #[.string t568, .string t569, .int .i64 t570, .int .i64 t571, .int .i64 t572, .int .i64 t573, .slice Ao15 t574.length co15] 28 (0, 0)) qgsleuthlaw45changepointof_7 hb); have n4_ := Aside0.mk (below_step qgsleuthlaw45changepointof_2 hb); clear HO576; clear HO580; clear BK577; clear HB; have HO576 := n0_; have HO580 := n1_; have HO584 := n2_; have BK577 := n3_; have HB := n4_; clear n0_ n1_ n2_ n3_ n4_; (try clear hb); (try clear hb2); (try clear hk); (try clear hi); (try clear ho0)) | ((with_reducible refine gate_dst (N := 10) rfl ?_); (try (refine gate_guard (by rfl) ?_; dsimp only)); refine box_event ?hg (N := 10) ?hd (cs := #[.slice none 0 0, .int .i64 0]) (t := 35) ?hr ?_; (case hd => rfl); (case hg => rfl); (case hr => first | (go_simp; done) | (go_simp; rfl)); intro gb587 hg w19 hbox hb; have n0_ := Aside0.mk (Kd.R_below qgsleuthlaw45changepointof_8 hb); have n1_ := Aside0.mk (Kd.R_below qgsleuthlaw45changepointof_12 hb); have n2_ := Aside0.mk (Kd.R_below (by (with_reducible repeat (first | apply Kd.R_alloc | apply Kd.R_drewN | apply Kd.R_drew)); exact HO584.out) hb); have n3_ := Aside0.mk (blk_below (g := gb577) (o := .cells #[.string t568, .string t569, .int .i64 t570, .int .i64 t571, .int .i64 t572, .int .i64 t573, .slice Ao15 t574.length co15] 28 (0, 0)) qgsleuthlaw45changepointof_7 hb); have n4_ := Aside0.mk (below_step qgsleuthlaw45changepointof_2 hb); have n5_ := Aside0.mk (hbox); have n6_ := Aside0.mk ((by rw [hg]; exact (below_size qgsleuthlaw45changepointof_2) : w.heap.size ≤ gb587)); have n7_ := Aside0.mk ((by rw [hg]; exact (below_size qgsleuthlaw45changepointof_2) : w.heap.size ≤ gb587)); have n8_ := Aside0.mk ((by rw [hg]; exact Nat.ne_of_lt (blk_lt (g := gb577) (o := .cells #[.string t568, .string t569, .int .i64 t570, .int .i64 t571, .int .i64 t572, .int .i64 t573, .slice Ao15 t574.length co15] 28 (0, 0)) qgsleuthlaw45changepointof_7) : gb577 ≠ gb587)); have n9_ := Aside0.mk ((by rw [hg]; exact Nat.ne_of_gt (blk_lt (g := gb577) (o := .cells #[.string t568, .string t569, .int .i64 t570, .int .i64 t571, .int .i64 t572, .int .i64 t573, .slice Ao15 t574.length co15] 28 (0, 0)) qgsleuthlaw45changepointof_7) : gb587 ≠ gb577)); clear HO576; clear HO580; clear HO584; clear BK577; clear HB; have HO576 := n0_; have HO580 := n1_; have HO584 := n2_; have BK577 := n3_; have HB := n4_; have BK587 := n5_; have GW587 := n6_; have GE587 := n7_; have NB577_587 := n8_; have NB587_577 := n9_; clear n0_ n1_ n2_ n3_ n4_ n5_ n6_ n7_ n8_ n9_; clear hb hbox hg; obtain ⟨Ao20, co20, eo20⟩ := Kd.R_slice HO584.out; subst eo20; have hnb21 := NB587_577.out; have hnc21 := NB577_587.out; have hcz22_0 : w19.cell? ⟨gb587, 0, none⟩ = some (.slice none 0 0) := (blk_cell BK587.out 0).trans rfl; have hcz22_1 : w19.cell? ⟨gb587, 1, none⟩ = some (.int .i64 0) := (blk_cell BK587.out 1).trans rfl; have hfz22_0 := blk_frozen BK587.out 0; have hfz22_1 := blk_frozen BK587.out 1; have hcz23_0 : w19.cell? ⟨gb577, 0, none⟩ = some (.string t568) := (blk_cell BK577.out 0).trans rfl; have hcz23_1 : w19.cell? ⟨gb577, 1, none⟩ = some (.string t569) := (blk_cell BK577.out 1).trans rfl; have hcz23_2 : w19.cell? ⟨gb577, 2, none⟩ = some (.int .i64 t570) := (blk_cell BK577.out 2).trans rfl; have hcz23_3 : w19.cell? ⟨gb577, 3, none⟩ = some (.int .i64 t571) := (blk_cell BK577.out 3).trans rfl; have hcz23_4 : w19.cell? ⟨gb577, 4, none⟩ = some (.int .i64 t572) := (blk_cell BK577.out 4).trans rfl; have hcz23_5 : w19.cell? ⟨gb577, 5, none⟩ = some (.int .i64 t573) := (blk_cell BK577.out 5).trans rfl; have hcz23_6 : w19.cell? ⟨gb577, 6, none⟩ = some (.slice Ao15 t574.length co15) := (blk_cell BK577.out 6).trans rfl; have hfz23_0 := blk_frozen BK577.out 0; have hfz23_1 := blk_frozen BK577.out 1; have hfz23_2 := blk_frozen BK577.out 2; have hfz23_3 := blk_frozen BK577.out 3; have hfz23_4 := blk_frozen BK577.out 4; have hfz23_5 := blk_frozen BK577.out 5; have hfz23_6 := blk_frozen BK577.out 6) | (go_at_call 17; (with_reducible refine (segmentation_Levels.calls k _ _ t574 _ _ t582 t588 t589 _ ?side1 ?side2 ?side3 ?side4 A9.out).mono ?_); (case side1 => exact qgsleuthlaw45changepointof_14); (case side2 => exact (Kd.R_reads' HO576.out).2.1); (case side3 => exact qgsleuthlaw45changepointof_15); (case side4 => exact (Kd.R_reads' HO584.out).2.1); rintro e w24 ⟨v590, rfl, ho0, hb⟩; have n0_ := Aside0.mk (Kd.R_elder' qgsleuthlaw45changepointof_3 (Kd.R_base ho0) hb); have n1_ := Aside0.mk (Kd.R_below qgsleuthlaw45changepointof_11 hb); have n2_ := Aside0.mk (Kd.R_elder' qgsleuthlaw45changepointof_4 (Kd.R_base ho0) hb); have n3_ := Aside0.mk (Kd.R_lower (Kd.R_new' (Kd.R_new' ho0 (Kd.R_lt qgsleuthlaw45changepointof_3)) (Kd.R_lt qgsleuthlaw45changepointof_4)) (below_size qgsleuthlaw45changepointof_6)); have n4_ := Aside0.mk (blk_below (g := gb577) (o := .cells #[.string t568, .string t569, .int .i64 t570, .int .i64 t571, .int .i64 t572, .int .i64 t573, .slice Ao15 t574.length co15] 28 (0, 0)) qgsleuthlaw45changepointof_10 hb); have n5_ := Aside0.mk (blk_below (g := gb587) (o := .cells #[.slice Ao20 t582.length co20, .int .i64 t585] 35 (0, 0)) qgsleuthlaw45changepointof_9 hb); have n6_ := Aside0.mk (below_step qgsleuthlaw45changepointof_6 hb); clear HO576; clear HO580; clear HO584; clear BK577; clear BK587; clear HB; have HO576 := n0_; have HO580 := n1_; have HO584 := n2_; have HO591 := n3_; have BK577 := n4_; have BK587 := n5_; have HB := n6_; clear n0_ n1_ n2_ n3_ n4_ n5_ n6_; (try clear hb); (try clear hb2); (try clear hk); (try clear hi); (try clear ho0))))
  (try simp only [Act.put, List.setIfInBounds_toArray, List.set_cons_zero, List.set_cons_succ])
  go_cut [51] (fun v51 wc => ∃ (kq : Nat) (x51_9 : Bool), v51 = .bool x51_9 ∧ Aside0 (sleuthlaw45_ChangepointOf.j0 kq a0 t578 t588 x51_9 t582 t585 = some r) ∧ Aside0 (kq ≤ k) ∧ Aside0 (Kd.R k41 41 wc w.heap.size (fun _ => True) v579 t578) ∧ Aside0 (Kd.R (Kd.int .i64) 3 wc w.heap.size (fun k_ => some k_ ≠ ((.slice Ao15 t574.length co15) : Value).ownBlock ∧ some k_ ≠ ((.slice Ao20 t582.length co20) : Value).ownBlock) v590 t588) ∧ Aside0 (Kd.R (Kd.int .i64) 3 wc w.heap.size (fun k_ => some k_ ≠ (v590 : Value).ownBlock ∧ some k_ ≠ ((.slice Ao20 t582.length co20) : Value).ownBlock) (.slice Ao15 t574.length co15) t574) ∧ Aside0 (Kd.R (Kd.int .i64) 3 wc w.heap.size (fun k_ => some k_ ≠ (v590 : Value).ownBlock ∧ some k_ ≠ ((.slice Ao15 t574.length co15) : Value).ownBlock) (.slice Ao20 t582.length co20) t582) ∧ Aside0 (wc.heap[gb577]? = some (.cells #[.string t568, .string t569, .int .i64 t570, .int .i64 t571, .int .i64 t572, .int .i64 t573, (.slice Ao15 t574.length co15)] 28 (0, 0))) ∧ Aside0 (wc.heap[gb587]? = some (.cells #[(.slice Ao20 t582.length co20), .int .i64 t585] 35 (0, 0))) ∧ Aside0 (Below w.heap.size w wc))
  case first =>
   have H := HC10.out
   clear HC10
   by_cases c25 : t581 = t586
   ·rw [if_pos c25] at H
    have c25b0 : (t581 == t586) = true := beq_iff_eq.mpr c25
    have c25b1 : (t581 != t586) = false := bne_eq_false_iff_eq.mpr c25
    clear c25
    (first | rw [c25b0] | (simp only [i64_w, i32_w]; rw [c25b0]) | skip)
    have H' := Aside0.mk H
    clear H
    obtain ⟨Ao26, co26, eo26⟩ := Kd.R_slice HO580.out
    subst eo26
    have hnb27 := NB587_577.out
    have hnc27 := NB577_587.out
    have hcz28_0 : w24.cell? ⟨gb587, 0, none⟩ = some (.slice Ao20 t582.length co20) := (blk_cell BK587.out 0).trans rfl
    have hcz28_1 : w24.cell? ⟨gb587, 1, none⟩ = some (.int .i64 t585) := (blk_cell BK587.out 1).trans rfl
    have hfz28_0 := blk_frozen BK587.out 0
    have hfz28_1 := blk_frozen BK587.out 1
    go_wp2
    repeat (go_quiet (fail); try go_wp2)
    go_meet
    case rel => exact ⟨_, (((t578.length : Int) != (t582.length : Int))), (by first | rfl | (simp; done) | (simp [*]; done)), H', ⟨by first | omega | exact Nat.le_refl _⟩, ⟨qgsleuthlaw45changepointof_12⟩, ⟨by (with_reducible repeat (first | apply Kd.R_alloc | apply Kd.R_drewN | apply Kd.R_drew)); exact Kd.R_mono HO591.out (fun _ hk => ⟨hk.1.2, hk.2⟩)⟩, ⟨by (with_reducible repeat (first | apply Kd.R_alloc | apply Kd.R_drewN | apply Kd.R_drew)); exact Kd.R_mono HO576.out (fun _ hk => ⟨hk.2, hk.1.2⟩)⟩, ⟨by (with_reducible repeat (first | apply Kd.R_alloc | apply Kd.R_drewN | apply Kd.R_drew)); exact Kd.R_mono HO584.out (fun _ hk => ⟨hk.2, hk.1.2⟩)⟩, ⟨qgsleuthlaw45changepointof_7⟩, ⟨qgsleuthlaw45changepointof_16⟩, ⟨qgsleuthlaw45changepointof_6⟩⟩
   ·rw [if_neg c25] at H
    have c25b0 : (t581 == t586) = false := beq_eq_false_iff_ne.mpr c25
    have c25b1 : (t581 != t586) = true := bne_iff_ne.mpr c25
    (first | rw [c25b0] | (simp only [i64_w, i32_w]; rw [c25b0]) | skip)
    have H' := Aside0.mk H
    clear H
    go_wp2
    repeat (go_quiet (fail); try go_wp2)
    go_meet
    case rel => exact ⟨_, (true), (by first | rfl | (simp; done) | (simp [*]; done)), H', ⟨by first | omega | exact Nat.le_refl _⟩, ⟨qgsleuthlaw45changepointof_12⟩, ⟨by (with_reducible repeat (first | apply Kd.R_alloc | apply Kd.R_drewN | apply Kd.R_drew)); exact Kd.R_mono HO591.out (fun _ hk => ⟨hk.1.2, hk.2⟩)⟩, ⟨by (with_reducible repeat (first | apply Kd.R_alloc | apply Kd.R_drewN | apply Kd.R_drew)); exact Kd.R_mono HO576.out (fun _ hk => ⟨hk.2, hk.1.2⟩)⟩, ⟨by (with_reducible repeat (first | apply Kd.R_alloc | apply Kd.R_drewN | apply Kd.R_drew)); exact Kd.R_mono HO584.out (fun _ hk => ⟨hk.2, hk.1.2⟩)⟩, ⟨qgsleuthlaw45changepointof_7⟩, ⟨qgsleuthlaw45changepointof_16⟩, ⟨qgsleuthlaw45changepointof_6⟩⟩
  case rest =>
   clear HC10
   try clear c1
   try clear c2
   try clear p2
   try clear c3
   try clear c5
   try clear c21
   try clear c25
   try clear c25b0
   try clear c25b1
   try clear c27
   try clear hcz14_0
   try clear hcz14_1
   try clear hcz14_2
   try clear hcz14_3
   try clear hcz14_4
   try clear hcz14_5
   try clear hcz14_6
   try clear hcz17_0
   try clear hcz17_1
   try clear hcz17_2
   try clear hcz17_3
   try clear hcz17_4
   try clear hcz17_5
   try clear hcz17_6
   try clear hcz22_0
   try clear hcz22_1
   try clear hcz23_0
   try clear hcz23_1
   try clear hcz23_2
   try clear hcz23_3
   try clear hcz23_4
   try clear hcz23_5
   try clear hcz23_6
   try clear hcz28_0
   try clear hcz28_1
   try clear hfz14_0
   try clear hfz14_1
   try clear hfz14_2
   try clear hfz14_3
   try clear hfz14_4
   try clear hfz14_5
   try clear hfz14_6
   try clear hfz17_0
   try clear hfz17_1
   try clear hfz17_2
   try clear hfz17_3
   try clear hfz17_4
   try clear hfz17_5
   try clear hfz17_6
   try clear hfz22_0
   try clear hfz22_1
   try clear hfz23_0
   try clear hfz23_1
   try clear hfz23_2
   try clear hfz23_3
   try clear hfz23_4
   try clear hfz23_5
   try clear hfz23_6
   try clear hfz28_0
   try clear hfz28_1
   obtain ⟨kq, x51_9, rfl, HA, HJ9, HO_8, HO_12, HO_578006, HO_588000, BK577, BK587, HB⟩ := hcut
   cases kq with
   | zero => exact absurd HA.out (by simp [sleuthlaw45_ChangepointOf.j0])
   | succ kj9 =>
    have H := HA.out
    clear HA
    simp only [sleuthlaw45_ChangepointOf.j0] at H
    by_cases c29 : x51_9 = true
    ·subst c29
     have H1 : (some false) = some r := by rw [if_pos rfl] at H; exact H
     clear H
     have H := H1
     clear H1
     obtain rfl := Option.some.inj H
     go_wp2
     repeat (go_quiet (fail); try go_wp2)
     go_ret
     exact ⟨qgsleuthlaw45changepointof_20, qgsleuthlaw45changepointof_6⟩
    ·replace c29 := Bool.eq_false_iff.mpr c29
     subst c29
     have H1 : (sleuthlaw45_ChangepointOf.l0 kj9 a0 t578 t588 0 t582 t585) = some r := by rw [if_neg (show ¬ (false = true) by decide)] at H; exact H
     clear H
     have H := H1
     clear H1
     have H' := Aside0.mk H
     clear H
     go_wp2
     repeat (go_quiet (fail); try go_wp2)
     go_loopg [14] kj9 (fun kq v14 w' => ∃ (x14_2 : Int), v14 = .int .i64 x14_2 ∧ Aside0 (sleuthlaw45_ChangepointOf.l0 kq a0 t578 t588 x14_2 t582 t585 = some r) ∧ Aside0 (kq ≤ kj9) ∧ Aside0 (Kd.R k41 41 w' w.heap.size (fun _ => True) v579 t578) ∧ Aside0 (Kd.R (Kd.int .i64) 3 w' w.heap.size (fun k_ => some k_ ≠ ((.slice Ao15 t574.length co15) : Value).ownBlock ∧ some k_ ≠ ((.slice Ao20 t582.length co20) : Value).ownBlock) v590 t588) ∧ Aside0 (Kd.R (Kd.int .i64) 3 w' w.heap.size (fun k_ => some k_ ≠ (v590 : Value).ownBlock ∧ some k_ ≠ ((.slice Ao20 t582.length co20) : Value).ownBlock) (.slice Ao15 t574.length co15) t574) ∧ Aside0 (Kd.R (Kd.int .i64) 3 w' w.heap.size (fun k_ => some k_ ≠ (v590 : Value).ownBlock ∧ some k_ ≠ ((.slice Ao15 t574.length co15) : Value).ownBlock) (.slice Ao20 t582.length co20) t582) ∧ Aside0 (w'.heap[gb577]? = some (.cells #[.string t568, .string t569, .int .i64 t570, .int .i64 t571, .int .i64 t572, .int .i64 t573, (.slice Ao15 t574.length co15)] 28 (0, 0))) ∧ Aside0 (w'.heap[gb587]? = some (.cells #[(.slice Ao20 t582.length co20), .int .i64 t585] 35 (0, 0))) ∧ Aside0 (Below w.heap.size w w'))
     case atStart => exact ⟨(0), (by first | rfl | (simp; done) | (simp [*]; done)), H', ⟨Nat.le_refl _⟩, ⟨by (with_reducible repeat (first | apply Kd.R_alloc | apply Kd.R_drewN | apply Kd.R_drew)); exact HO_8.out⟩, ⟨by (with_reducible repeat (first | apply Kd.R_alloc | apply Kd.R_drewN | apply Kd.R_drew)); exact HO_12.out⟩, ⟨by (with_reducible repeat (first | apply Kd.R_alloc | apply Kd.R_drewN | apply Kd.R_drew)); exact HO_578006.out⟩, ⟨by (with_reducible repeat (first | apply Kd.R_alloc | apply Kd.R_drewN | apply Kd.R_drew)); exact HO_588000.out⟩, ⟨qgsleuthlaw45changepointof_7⟩, ⟨qgsleuthlaw45changepointof_16⟩, ⟨qgsleuthlaw45changepointof_6⟩⟩
     case round =>
      clear H'
      try clear c1
      try clear c2
      try clear p2
      try clear c3
      try clear c5
      try clear c21
      try clear c25
      try clear c25b0
      try clear c25b1
      try clear c27
      try clear c29
      try clear hcz14_0
      try clear hcz14_1
      try clear hcz14_2
      try clear hcz14_3
      try clear hcz14_4
      try clear hcz14_5
      try clear hcz14_6
      try clear hcz17_0
      try clear hcz17_1
      try clear hcz17_2
      try clear hcz17_3
      try clear hcz17_4
      try clear hcz17_5
      try clear hcz17_6
      try clear hcz22_0
      try clear hcz22_1
      try clear hcz23_0
      try clear hcz23_1
      try clear hcz23_2
      try clear hcz23_3
      try clear hcz23_4
      try clear hcz23_5
      try clear hcz23_6
      try clear hcz28_0
      try clear hcz28_1
      try clear hfz14_0
      try clear hfz14_1
      try clear hfz14_2
      try clear hfz14_3
      try clear hfz14_4
      try clear hfz14_5
      try clear hfz14_6
      try clear hfz17_0
      try clear hfz17_1
      try clear hfz17_2
      try clear hfz17_3
      try clear hfz17_4
      try clear hfz17_5
      try clear hfz17_6
      try clear hfz22_0
      try clear hfz22_1
      try clear hfz23_0
      try clear hfz23_1
      try clear hfz23_2
      try clear hfz23_3
      try clear hfz23_4
      try clear hfz23_5
      try clear hfz23_6
      try clear hfz28_0
      try clear hfz28_1
      try clear p2
      obtain ⟨x14_2, rfl, HA, HK2, HO_8, HO_12, HO_578006, HO_588000, BK577, BK587, HB⟩ := hrel
      cases gk with
      | zero => exact absurd HA.out (by simp [sleuthlaw45_ChangepointOf.l0])
      | succ k2 =>
       have H := HA.out
       clear HA
       simp only [sleuthlaw45_ChangepointOf.l0] at H
       by_cases c30 : x14_2 < (t578.length : Int)
       ·rw [if_pos c30] at H
        have c30b0 : decide (x14_2 < (t578.length : Int)) = true := decide_eq_true c30
        clear c30
        by_cases c31 : (wrap64 (x14_2 + 1)) ≥ (t588.length : Int)
        ·rw [if_pos c31] at H
         have c31b0 : decide ((t588.length : Int) ≤ (wrap64 (x14_2 + 1))) = true := decide_eq_true c31
         clear c31
         obtain rfl := Option.some.inj H
         obtain ⟨Ao32, co32, eo32⟩ := Kd.R_slice HO_8.out
         subst eo32
         obtain ⟨Ao33, co33, eo33⟩ := Kd.R_slice HO_12.out
         subst eo33
         go_wp2
         repeat (go_quiet (fail); try go_wp2)
         go_ret
         exact ⟨qgsleuthlaw45changepointof_20, qgsleuthlaw45changepointof_6⟩
        ·rw [if_neg c31] at H
         have c31b0 : decide ((t588.length : Int) ≤ (wrap64 (x14_2 + 1))) = false := decide_eq_false c31
         clear c31
         by_cases c34 : 0 ≤ x14_2
         ·rw [if_pos c34] at H
          have c34b0 : decide (0 ≤ x14_2) = true := decide_eq_true c34
          clear c34
          by_cases c35 : x14_2 < (t582.length : Int)
          ·rw [if_pos c35] at H
           have c35b0 : decide (x14_2 < (t582.length : Int)) = true := decide_eq_true c35
           clear c35
           by_cases c36 : x14_2 < (t588.length : Int)
           ·rw [if_pos c36] at H
            have c36b0 : decide (x14_2 < (t588.length : Int)) = true := decide_eq_true c36
            clear c36
            obtain ⟨ji37, hji37⟩ : ∃ j_ : Int, (wrap64 (x14_2 + 1)) = j_ := ⟨_, rfl⟩
            replace H : (if 0 ≤ (ji37) then (if (ji37) < (t588.length : Int) then (if (!(((rd_T41 t578 x14_2).f0) == (wrap64 ((wrap64 (a0)) + (rd t582 x14_2)))) || (!(((rd_T41 t578 x14_2).f1) == (rd t588 x14_2)) || (!(((rd_T41 t578 x14_2).f2) == (rd t588 (ji37)))))) = true then (some false) else (sleuthlaw45_ChangepointOf.l0 k2 a0 t578 t588 ji37 t582 t585)) else (none)) else (none)) = some r := by first | (rw [hji37] at H; exact H) | (simp only [hji37] at H ⊢; exact H)
            (try rw [hji37] at c31b0)
            have hji37w : (IntKind.i64.wrap (x14_2 + 1)) = ji37 := (i64_w _).trans hji37
            by_cases c38 : 0 ≤ (ji37)
            ·rw [if_pos c38] at H
             have c38b0 : decide (0 ≤ (ji37)) = true := decide_eq_true c38
             clear c38
             by_cases c39 : (ji37) < (t588.length : Int)
             ·rw [if_pos c39] at H
              have c39b0 : decide ((ji37) < (t588.length : Int)) = true := decide_eq_true c39
              clear c39
              by_cases c40 : (!(((rd_T41 t578 x14_2).f0) == (wrap64 ((wrap64 (a0)) + (rd t582 x14_2)))) || (!(((rd_T41 t578 x14_2).f1) == (rd t588 x14_2)) || (!(((rd_T41 t578 x14_2).f2) == (rd t588 (ji37)))))) = true
              ·rw [if_pos c40] at H
               have c40b0 : (!(((rd_T41 t578 x14_2).f0) == (wrap64 ((wrap64 (a0)) + (rd t582 x14_2)))) || (!(((rd_T41 t578 x14_2).f1) == (rd t588 x14_2)) || (!(((rd_T41 t578 x14_2).f2) == (rd t588 (ji37)))))) = true := c40
               clear c40
               obtain rfl := Option.some.inj H
               obtain ⟨Ao41, co41, eo41⟩ := Kd.R_slice HO_8.out
               subst eo41
               obtain ⟨Ao42, co42, eo42⟩ := Kd.R_slice HO_12.out
               subst eo42
               have p592 : 0 ≤ (x14_2 : Int) := of_decide_eq_true qgsleuthlaw45changepointof_13
               have q592 : x14_2 < (t578.length : Int) := of_decide_eq_true qgsleuthlaw45changepointof_13
               obtain ⟨ad592, e592, hx592_0, hx592_1, hx592_2⟩ := at_T41 (Kd.R_reads' HO_8.out).2.2 x14_2 p592 q592
               cases e592
               replace p592 := eq_true p592
               replace q592 := eq_true q592
               have hnb43 := NB587_577.out
               have hnc43 := NB577_587.out
               have hcz44_0 : wr.cell? ⟨gb587, 0, none⟩ = some (.slice Ao20 t582.length co20) := (blk_cell BK587.out 0).trans rfl
               have hcz44_1 : wr.cell? ⟨gb587, 1, none⟩ = some (.int .i64 t585) := (blk_cell BK587.out 1).trans rfl
               have hfz44_0 := blk_frozen BK587.out 0
               have hfz44_1 := blk_frozen BK587.out 1
               have p593 : 0 ≤ (x14_2 : Int) := of_decide_eq_true qgsleuthlaw45changepointof_13
               have q593 : x14_2 < (t582.length : Int) := of_decide_eq_true qgsleuthlaw45changepointof_13
               obtain ⟨ad593, e593, hx593_0⟩ := Kd.at_int (Kd.R_reads' HO_588000.out).2.2 x14_2 p593 q593
               cases e593
               replace p593 := eq_true p593
               replace q593 := eq_true q593
               have p594 : 0 ≤ (x14_2 : Int) := of_decide_eq_true qgsleuthlaw45changepointof_13
               have q594 : x14_2 < (t588.length : Int) := of_decide_eq_true qgsleuthlaw45changepointof_13
               obtain ⟨ad594, e594, hx594_0⟩ := Kd.at_int (Kd.R_reads' HO_12.out).2.2 x14_2 p594 q594
               cases e594
               replace p594 := eq_true p594
               replace q594 := eq_true q594
               have p595 : 0 ≤ ((ji37) : Int) := of_decide_eq_true qgsleuthlaw45changepointof_13
               have q595 : (ji37) < (t588.length : Int) := of_decide_eq_true qgsleuthlaw45changepointof_13
               obtain ⟨ad595, e595, hx595_0⟩ := Kd.at_int (Kd.R_reads' HO_12.out).2.2 (ji37) p595 q595
               obtain rfl : ad594 = ad595 := (by injection e595)
               replace p595 := eq_true p595
               replace q595 := eq_true q595
               go_wp2
               repeat (go_quiet (fail); try go_wp2)
               go_ret
               exact ⟨by first | rfl | (simp [errW_none, errW_some] <;> rfl) | (simp only [← hji37]; first | rfl | (simp [errW_none, errW_some] <;> rfl)) | (simp [*, errW_none, errW_some] <;> rfl), qgsleuthlaw45changepointof_6⟩
              ·rw [if_neg c40] at H
               have c40b0 : (!(((rd_T41 t578 x14_2).f0) == (wrap64 ((wrap64 (a0)) + (rd t582 x14_2)))) || (!(((rd_T41 t578 x14_2).f1) == (rd t588 x14_2)) || (!(((rd_T41 t578 x14_2).f2) == (rd t588 (ji37)))))) = false := by simpa using c40
               clear c40
               have H' := Aside0.mk H
               clear H
               obtain ⟨Ao45, co45, eo45⟩ := Kd.R_slice HO_8.out
               subst eo45
               obtain ⟨Ao46, co46, eo46⟩ := Kd.R_slice HO_12.out
               subst eo46
               have p592 : 0 ≤ (x14_2 : Int) := of_decide_eq_true qgsleuthlaw45changepointof_13
               have q592 : x14_2 < (t578.length : Int) := of_decide_eq_true qgsleuthlaw45changepointof_13
               obtain ⟨ad592, e592, hx592_0, hx592_1, hx592_2⟩ := at_T41 (Kd.R_reads' HO_8.out).2.2 x14_2 p592 q592
               cases e592
               replace p592 := eq_true p592
               replace q592 := eq_true q592
               have hnb47 := NB587_577.out
               have hnc47 := NB577_587.out
               have hcz48_0 : wr.cell? ⟨gb587, 0, none⟩ = some (.slice Ao20 t582.length co20) := (blk_cell BK587.out 0).trans rfl
               have hcz48_1 : wr.cell? ⟨gb587, 1, none⟩ = some (.int .i64 t585) := (blk_cell BK587.out 1).trans rfl
               have hfz48_0 := blk_frozen BK587.out 0
               have hfz48_1 := blk_frozen BK587.out 1
               have p593 : 0 ≤ (x14_2 : Int) := of_decide_eq_true qgsleuthlaw45changepointof_13
               have q593 : x14_2 < (t582.length : Int) := of_decide_eq_true qgsleuthlaw45changepointof_13
               obtain ⟨ad593, e593, hx593_0⟩ := Kd.at_int (Kd.R_reads' HO_588000.out).2.2 x14_2 p593 q593
               cases e593
               replace p593 := eq_true p593
               replace q593 := eq_true q593
               have p594 : 0 ≤ (x14_2 : Int) := of_decide_eq_true qgsleuthlaw45changepointof_13
               have q594 : x14_2 < (t588.length : Int) := of_decide_eq_true qgsleuthlaw45changepointof_13
               obtain ⟨ad594, e594, hx594_0⟩ := Kd.at_int (Kd.R_reads' HO_12.out).2.2 x14_2 p594 q594
               cases e594
               replace p594 := eq_true p594
               replace q594 := eq_true q594
               have p595 : 0 ≤ ((ji37) : Int) := of_decide_eq_true qgsleuthlaw45changepointof_13
               have q595 : (ji37) < (t588.length : Int) := of_decide_eq_true qgsleuthlaw45changepointof_13
               obtain ⟨ad595, e595, hx595_0⟩ := Kd.at_int (Kd.R_reads' HO_12.out).2.2 (ji37) p595 q595
               obtain rfl : ad594 = ad595 := (by injection e595)
               replace p595 := eq_true p595
               replace q595 := eq_true q595
               go_wp2
               repeat (go_quiet (fail); try go_wp2)
               go_roundg k2
               case measure => have := HJ9.out; have := HK2.out; omega
               case rel => exact ⟨(ji37), (by first | rfl | (simp; done) | (simp only [← hji37] <;> (first | rfl | simp)) | (simp [*]; done)), H', ⟨by have := HJ9.out; have := HK2.out; omega⟩, ⟨by (with_reducible repeat (first | apply Kd.R_alloc | apply Kd.R_drewN | apply Kd.R_drew)); exact HO_8.out⟩, ⟨by (with_reducible repeat (first | apply Kd.R_alloc | apply Kd.R_drewN | apply Kd.R_drew)); exact HO_12.out⟩, ⟨by (with_reducible repeat (first | apply Kd.R_alloc | apply Kd.R_drewN | apply Kd.R_drew)); exact HO_578006.out⟩, ⟨by (with_reducible repeat (first | apply Kd.R_alloc | apply Kd.R_drewN | apply Kd.R_drew)); exact HO_588000.out⟩, ⟨qgsleuthlaw45changepointof_7⟩, ⟨qgsleuthlaw45changepointof_16⟩, ⟨qgsleuthlaw45changepointof_6⟩⟩
             ·rw [if_neg c39] at H
              exact absurd H (by simp)
            ·rw [if_neg c38] at H
             exact absurd H (by simp)
           ·rw [if_neg c36] at H
            exact absurd H (by simp)
          ·rw [if_neg c35] at H
           exact absurd H (by simp)
         ·rw [if_neg c34] at H
          exact absurd H (by simp)
       ·rw [if_neg c30] at H
        have c30b0 : decide (x14_2 < (t578.length : Int)) = false := decide_eq_false c30
        clear c30
        obtain rfl := Option.some.inj H
        obtain ⟨Ao49, co49, eo49⟩ := Kd.R_slice HO_8.out
        subst eo49
        go_wp2
        repeat (go_quiet (fail); try go_wp2)
        go_ret
        exact ⟨qgsleuthlaw45changepointof_20, qgsleuthlaw45changepointof_6⟩
 ·replace c5 := Bool.eq_false_iff.mpr c5
  subst c5
  have H1 : (some false) = some r := by rw [if_neg (show ¬ (false = true) by decide)] at H; exact H
  clear H
  have H := H1
  clear H1
  obtain rfl := Option.some.inj H
  go_enter Try.func3, Try.ntmps3
  go_wp2_with (first | (go_at_call 13; (with_reducible refine (sleuthlaw45_known.calls k  false _ A4.out).mono ?_); rintro e w50 ⟨rfl, hb⟩; have n0_ := Aside0.mk (below_step qgsleuthlaw45changepointof_5 hb); clear HB; have HB := n0_; clear n0_; (try clear hb); (try clear hb2); (try clear hk); (try clear hi)))
  repeat (go_quiet (first | (go_at_call 13; (with_reducible refine (sleuthlaw45_known.calls k  false _ A4.out).mono ?_); rintro e w50 ⟨rfl, hb⟩; have n0_ := Aside0.mk (below_step qgsleuthlaw45changepointof_5 hb); clear HB; have HB := n0_; clear n0_; (try clear hb); (try clear hb2); (try clear hk); (try clear hi))); try go_wp2_with (first | (go_at_call 13; (with_reducible refine (sleuthlaw45_known.calls k  false _ A4.out).mono ?_); rintro e w50 ⟨rfl, hb⟩; have n0_ := Aside0.mk (below_step qgsleuthlaw45changepointof_5 hb); clear HB; have HB := n0_; clear n0_; (try clear hb); (try clear hb2); (try clear hk); (try clear hi))))
  go_ret
  exact ⟨qgsleuthlaw45changepointof_20, qgsleuthlaw45changepointof_5⟩

/-- THE ONE PURE STATEMENT of sleuthlaw45_ChangepointOf: yours. -/
def sleuthlaw45_ChangepointOf.Pure : Prop := ∀ (a0 : Int) (l1 : List Int) (a2 : Int), (Lit.int .u8 a0).wf = true → l1.length ≤ maxLen → l1.length * 1 ≤ 140737488351232 → (∀ x ∈ l1, (Lit.int .u8 x).wf = true) → (Lit.int .i64 a2).wf = true → ∃ k, sleuthlaw45_ChangepointOf.f k a0 l1 a2 = some true
theorem sleuthlaw45_ChangepointOf.walk (P : sleuthlaw45_ChangepointOf.Pure) (a0 : Int) (a1 : Option Addr) (len1 cap1 : Nat) (z1 : List Int) (a2 : Int) (w : World) (w0 : (Lit.int .u8 a0).wf = true) (w1 : (a1 = none ∧ len1 = 0 ∧ cap1 = 0 ∧ z1 = []) ∨ ∃ x, a1 = some x ∧ len1 ≤ cap1 ∧ cap1 ≤ maxLen ∧ z1.length = cap1 ∧ (∀ i, i < z1.length → w.cell? (x.add i) = some (.int .u8 (z1.getD i 0))) ∧ ∀ n ∈ z1, (Lit.int .u8 n).wf = true) (y1 : len1 * 1 ≤ 140737488351232) (w2 : (Lit.int .i64 a2).wf = true) :
  Calls Try.prog 3 #[.int .u8 a0, .slice a1 len1 cap1, .int .i64 a2] w fun e w' => e = .returned (.bool true) ∧ Below w.heap.size w w' := by
 obtain ⟨l1, rfl, hr1, hm1, hw1, hc1⟩ := ReadsInt.ofRowC w1
 obtain ⟨k, h⟩ := P a0 l1 a2 w0 hm1 y1 hw1 w2
 refine (sleuthlaw45_ChangepointOf.calls k a0 _ _ l1 a2 true w (Kd.C_of_reads (d := (0 : Int)) (h1 := fun _ => rfl) hr1) hc1 h).mono ?_
 rintro e w' ⟨rfl, hd⟩
 exact ⟨rfl, hd⟩

end Go.Proofs.Ytcjgmofgfblmnaa.Q
