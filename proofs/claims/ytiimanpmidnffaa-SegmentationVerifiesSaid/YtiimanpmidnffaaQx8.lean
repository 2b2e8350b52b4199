-- Laid by myprint.py (a program of this session's, over the kit's printer and with functions proved by hand)
import Derived.Test.YtiimanpmidnffaaQx0
import Derived.Test.YtiimanpmidnffaaQx5
import Derived.Test.YtiimanpmidnffaaQx7
namespace Go.Proofs.Ytiimanpmidnffaa.Q
open Go.RowKit Go.Proofs.YtiimanpmidnffaaW.PrintWords Go.Proofs.YtiimanpmidnffaaW.PrintLast Go.Proofs.YtiimanpmidnffaaW.PrintMore
attribute [local go_sem] max2_int min2_int max_two min_two max_three min_three max_four min_four   -- for this text's walks alone
set_option linter.unusedVariables false
set_option linter.unusedSimpArgs false

theorem qx8_0 {p : Prop} (h : p := by repeat (first | (with_reducible first | exact HB.out | apply below_alloc | apply pw_below_drewN | apply below_drew1) | exact HB.out)) : p := h
theorem qx8_1 {p : Prop} (h : p := by repeat (first | (with_reducible first | exact HB.out | apply below_alloc | apply pw_below_drewN | apply below_drew1 | refine below_set ?_ GE282.out) | exact HB.out)) : p := h
theorem qx8_2 {p : Prop} (h : p := by (with_reducible repeat (first | apply Kd.R_alloc | apply Kd.R_drewN | apply Kd.R_drew)); exact HO276.out) : p := h
theorem qx8_3 {p : Prop} (h : p := by (with_reducible repeat (first | apply Kd.R_alloc | apply Kd.R_drewN | apply Kd.R_drew)); exact HO279.out) : p := h
theorem qx8_4 {p : Prop} (h : p := by exact (Reps.one (show Kd.M (Kd.int .i64) _ _ _ 1 [.int .i64 1] from rfl) (Reps.one (show Kd.M (Kd.int .i64) _ _ _ 1 [.int .i64 1] from rfl) (Reps.one (show Kd.M (Kd.int .i64) _ _ _ 5 [.int .i64 5] from rfl) (Reps.one (show Kd.M (Kd.int .i64) _ _ _ 5 [.int .i64 5] from rfl) (Reps.one (show Kd.M (Kd.int .i64) _ _ _ 5 [.int .i64 5] from rfl) (Reps.none _ _))))))) : p := h
theorem qx8_5 {p : Prop} (h : p := by (try simp only [List.map_toArray, List.map_cons, List.map_nil]); first | done | rfl | (simp only [List.length_drop, List.length_take]; rfl)) : p := h
theorem qx8_6 {p : Prop} (h : p := by (with_reducible repeat (first | apply Kd.R_alloc | apply Kd.R_drewN | apply Kd.R_drew)); exact HO286.out) : p := h
theorem qx8_7 {p : Prop} (h : p := by first | rfl | (simp [errW_none, errW_some] <;> rfl) | (simp [*, errW_none, errW_some] <;> rfl)) : p := h
theorem qx8_8 {p : Prop} (h : p := by repeat (first | exact (Kd.R_reads' HO276.out).2.2 | (with_reducible refine Kd.C_alloc ?_ _) | (with_reducible refine Kd.C_drewN ?_ _) | (with_reducible refine Kd.C_drew ?_))) : p := h
theorem qx8_9 {p : Prop} (h : p := by first | (with_reducible assumption) | assumption) : p := h
theorem qx8_10 {p : Prop} (h : p := by (with_reducible repeat (first | refine blk_drewN ?_ _ | refine blk_drew ?_ | refine blk_alloc ?_ _)); exact BK282.out) : p := h
theorem qx8_11 {p : Prop} (h : p := by repeat (first | exact (Kd.R_reads' HO279.out).2.2 | (with_reducible refine Kd.C_alloc ?_ _) | (with_reducible refine Kd.C_drewN ?_ _) | (with_reducible refine Kd.C_drew ?_))) : p := h
theorem qx8_12 {p : Prop} (h : p := by (with_reducible repeat (first | apply Kd.R_alloc | apply Kd.R_drewN | apply Kd.R_drew)); exact (Kd.R_mono (Kd.R_far (p := ⟨gb282, 1, none⟩) (Kd.R_far (p := ⟨gb282, 0, none⟩) (Kd.R_types HO276.out BK282.out (by decide)) (fun _ hk => hk.2) (.slice Ao16 t277.length co16)) (fun _ hk => hk.2) (.int .i64 t280)) (fun _ h_ => h_.1))) : p := h
theorem qx8_13 {p : Prop} (h : p := by (with_reducible repeat (first | apply Kd.R_alloc | apply Kd.R_drewN | apply Kd.R_drew)); exact (Kd.R_mono (Kd.R_far (p := ⟨gb282, 1, none⟩) (Kd.R_far (p := ⟨gb282, 0, none⟩) (Kd.R_types HO276.out BK282.out (by decide)) (fun _ hk => hk.2) (.slice Ao35 t277.length co35)) (fun _ hk => hk.2) (.int .i64 t280)) (fun _ h_ => h_.1))) : p := h
theorem qx8_14 {p : Prop} (h : p := by (with_reducible repeat (first | apply Kd.R_alloc | apply Kd.R_drewN | apply Kd.R_drew)); exact (Kd.R_mono (Kd.R_far (p := ⟨gb282, 1, none⟩) (Kd.R_far (p := ⟨gb282, 0, none⟩) (Kd.R_types HO276.out BK282.out (by decide)) (fun _ hk => hk.2) (.slice Ao52 t277.length co52)) (fun _ hk => hk.2) (.int .i64 t280)) (fun _ h_ => h_.1))) : p := h
theorem qx8_15 {p : Prop} (h : p := by (with_reducible repeat (first | apply Kd.R_alloc | apply Kd.R_drewN | apply Kd.R_drew)); exact (Kd.R_mono (Kd.R_far (p := ⟨gb282, 1, none⟩) (Kd.R_far (p := ⟨gb282, 0, none⟩) (Kd.R_types HO276.out BK282.out (by decide)) (fun _ hk => hk.2) (.slice Ao65 t277.length co65)) (fun _ hk => hk.2) (.int .i64 t280)) (fun _ h_ => h_.1))) : p := h
theorem qx8_16 {p : Prop} (h : p := by (with_reducible repeat (first | apply Kd.R_alloc | apply Kd.R_drewN | apply Kd.R_drew)); exact (Kd.R_mono (Kd.R_far (p := ⟨gb282, 1, none⟩) (Kd.R_far (p := ⟨gb282, 0, none⟩) (Kd.R_types HO276.out BK282.out (by decide)) (fun _ hk => hk.2) (.slice Ao78 t277.length co78)) (fun _ hk => hk.2) (.int .i64 t280)) (fun _ h_ => h_.1))) : p := h
theorem qx8_17 {p : Prop} (h : p := by (with_reducible repeat (first | apply Kd.R_alloc | apply Kd.R_drewN | apply Kd.R_drew)); exact (Kd.R_mono (Kd.R_far (p := ⟨gb282, 1, none⟩) (Kd.R_far (p := ⟨gb282, 0, none⟩) (Kd.R_types HO276.out BK282.out (by decide)) (fun _ hk => hk.2) (.slice Ao90 t277.length co90)) (fun _ hk => hk.2) (.int .i64 t280)) (fun _ h_ => h_.1))) : p := h
theorem qx8_18 {p : Prop} (h : p := by repeat (first | exact (Kd.R_reads' HO289.out).2.2 | (with_reducible refine Kd.C_alloc ?_ _) | (with_reducible refine Kd.C_drewN ?_ _) | (with_reducible refine Kd.C_drew ?_))) : p := h
theorem qx8_19 {p : Prop} (h : p := by first | (go_simp; done) | (go_simp; rfl)) : p := h
theorem qx8_20 {p : Prop} (h : p := by exact (Reps.one (show Kd.M (Kd.int .i64) _ _ _ (-2) [.int .i64 (-2)] from rfl) (Reps.one (show Kd.M (Kd.int .i64) _ _ _ 0 [.int .i64 0] from rfl) (Reps.one (show Kd.M (Kd.int .i64) _ _ _ 0 [.int .i64 0] from rfl) (Reps.one (show Kd.M (Kd.int .i64) _ _ _ 2 [.int .i64 2] from rfl) (Reps.one (show Kd.M (Kd.int .i64) _ _ _ 2 [.int .i64 2] from rfl) (Reps.one (show Kd.M (Kd.int .i64) _ _ _ 2 [.int .i64 2] from rfl) (Reps.none _ _)))))))) : p := h
theorem qx8_21 {p : Prop} (h : p := by (with_reducible repeat (first | apply Kd.R_alloc | apply Kd.R_drewN | apply Kd.R_drew)); exact HO289.out) : p := h
theorem qx8_22 {p : Prop} (h : p := by (with_reducible repeat (first | apply Kd.R_alloc | apply Kd.R_drewN | apply Kd.R_drew)); exact HO_3.out) : p := h
theorem qx8_23 {p : Prop} (h : p := by (with_reducible repeat (first | apply Kd.V_alloc | apply Kd.V_drewN | apply Kd.V_drew)); exact HO_0.out) : p := h
theorem qx8_24 {p : Prop} (h : p := by (with_reducible repeat (first | apply Kd.R_alloc | apply Kd.R_drewN | apply Kd.R_drew)); exact (Kd.R_mono (Kd.R_far (p := ⟨gb282, 1, none⟩) (Kd.R_far (p := ⟨gb282, 0, none⟩) (Kd.R_types HO279.out BK282.out (by decide)) (fun _ hk => hk.2) (.slice Ao16 t277.length co16)) (fun _ hk => hk.2) (.int .i64 t280)) (fun _ h_ => h_.1))) : p := h
theorem qx8_25 {p : Prop} (h : p := by (with_reducible repeat (first | apply Kd.R_alloc | apply Kd.R_drewN | apply Kd.R_drew)); exact (Kd.R_mono (Kd.R_far (p := ⟨gb282, 1, none⟩) (Kd.R_far (p := ⟨gb282, 0, none⟩) (Kd.R_types HO279.out BK282.out (by decide)) (fun _ hk => hk.2) (.slice Ao35 t277.length co35)) (fun _ hk => hk.2) (.int .i64 t280)) (fun _ h_ => h_.1))) : p := h
theorem qx8_26 {p : Prop} (h : p := by (with_reducible repeat (first | apply Kd.R_alloc | apply Kd.R_drewN | apply Kd.R_drew)); exact (Kd.R_mono (Kd.R_far (p := ⟨gb282, 1, none⟩) (Kd.R_far (p := ⟨gb282, 0, none⟩) (Kd.R_types HO279.out BK282.out (by decide)) (fun _ hk => hk.2) (.slice Ao52 t277.length co52)) (fun _ hk => hk.2) (.int .i64 t280)) (fun _ h_ => h_.1))) : p := h
theorem qx8_27 {p : Prop} (h : p := by (with_reducible repeat (first | apply Kd.R_alloc | apply Kd.R_drewN | apply Kd.R_drew)); exact (Kd.R_mono (Kd.R_far (p := ⟨gb282, 1, none⟩) (Kd.R_far (p := ⟨gb282, 0, none⟩) (Kd.R_types HO279.out BK282.out (by decide)) (fun _ hk => hk.2) (.slice Ao65 t277.length co65)) (fun _ hk => hk.2) (.int .i64 t280)) (fun _ h_ => h_.1))) : p := h
theorem qx8_28 {p : Prop} (h : p := by (with_reducible repeat (first | apply Kd.R_alloc | apply Kd.R_drewN | apply Kd.R_drew)); exact (Kd.R_mono (Kd.R_far (p := ⟨gb282, 1, none⟩) (Kd.R_far (p := ⟨gb282, 0, none⟩) (Kd.R_types HO279.out BK282.out (by decide)) (fun _ hk => hk.2) (.slice Ao78 t277.length co78)) (fun _ hk => hk.2) (.int .i64 t280)) (fun _ h_ => h_.1))) : p := h
theorem qx8_29 {p : Prop} (h : p := by (with_reducible repeat (first | apply Kd.R_alloc | apply Kd.R_drewN | apply Kd.R_drew)); exact (Kd.R_mono (Kd.R_far (p := ⟨gb282, 1, none⟩) (Kd.R_far (p := ⟨gb282, 0, none⟩) (Kd.R_types HO279.out BK282.out (by decide)) (fun _ hk => hk.2) (.slice Ao90 t277.length co90)) (fun _ hk => hk.2) (.int .i64 t280)) (fun _ h_ => h_.1))) : p := h
theorem qx8_30 {p : Prop} (h : p := by repeat (first | exact (Kd.R_reads' HO286.out).2.2 | (with_reducible refine Kd.C_alloc ?_ _) | (with_reducible refine Kd.C_drewN ?_ _) | (with_reducible refine Kd.C_drew ?_))) : p := h
theorem qx8_31 {p : Prop} (h : p := by first | rfl | (simp; done) | (simp [*]; done)) : p := h
theorem qx8_32 {p : Prop} (h : p := by (with_reducible repeat (first | apply Kd.N_alloc | apply Kd.N_drewN | apply Kd.N_drew)); exact HO_6.out) : p := h
theorem qx8_33 {p : Prop} (h : p := by exact (Reps.one (show Kd.M (Kd.int .i64) _ _ _ 2 [.int .i64 2] from rfl) (Reps.none _ _))) : p := h
theorem qx8_34 {p : Prop} (h : p := by first | exact Kd.S_nil _ _ _ _ _ | exact Kd.N_nil _ _ _ _ _ | exact Kd.V_nil _ _ _ _ _ | exact Kd.Q_nil _ _ _ _ _ | exact Kd.R_nil _ _ _ _ _) : p := h
theorem qx8_35 {p : Prop} (h : p := by exact (Kd.R_reads' HO276.out).2.1) : p := h
theorem qx8_36 {p : Prop} (h : p := by repeat (first | exact (Kd.R_reads' HO293.out).2.2 | (with_reducible refine Kd.C_alloc ?_ _) | (with_reducible refine Kd.C_drewN ?_ _) | (with_reducible refine Kd.C_drew ?_))) : p := h
/-! ### sleuthlaw44_known: function 13 -/
def sleuthlaw44_known.f (k : Nat)  : Option (Bool) := (some (([1, 1, 5, 5, 5] : List Int) : List Int)).bind fun y274 => ((segmentation_Best.f k y274 2).bind fun bt277 => ((segmentation_Potentials.f k y274 2).bind fun bt283 => (if bt277.2.2 = 0 then ((sleuthlaw44_same.f k bt277.1 (([2] : List Int))).bind fun t290 => (if t290 = true then (if bt277.2.1 = 2 then (if bt283.2 = 0 then ((sleuthlaw44_same.f k bt283.1 (([(-2), 0, 0, 2, 2, 2] : List Int))).bind fun t294 => (if t294 = true then ((segmentation_Verify.f k y274 2 bt283.1 bt277.1 bt277.2.1).bind fun t295 => (some (t295 == 0))) else (some false))) else (some false)) else (some false)) else (some false))) else (some false))))
theorem sleuthlaw44_known.mono : ∀ k, LeO (sleuthlaw44_known.f k ) (sleuthlaw44_known.f (k + 1) ) := by
 intro  k
 unfold sleuthlaw44_known.f
 repeat' first
   | (with_reducible exact segmentation_Best.mono _ _ _)
   | (with_reducible exact segmentation_Potentials.mono _ _ _)
   | (with_reducible exact segmentation_Verify.mono _ _ _ _ _ _)
   | (with_reducible exact sleuthlaw44_same.mono _ _ _)
   | (with_reducible exact LeO.refl _)
   | (with_reducible exact LeO.none _)
   | (with_reducible refine LeO.ite ?_ ?_)
   | (with_reducible refine LeO.bind ?_ (fun _ => ?_))
   | exact segmentation_Best.mono _ _ _
   | exact segmentation_Potentials.mono _ _ _
   | exact segmentation_Verify.mono _ _ _ _ _ _
   | exact sleuthlaw44_same.mono _ _ _
   | exact LeO.none _
   | refine LeO.ite ?_ ?_
   | refine LeO.bind ?_ (fun _ => ?_)
set_option maxHeartbeats 8000000 in
set_option maxRecDepth 100000 in
theorem sleuthlaw44_known.calls (k : Nat)  (r : Bool) (w : World) (h : sleuthlaw44_known.f k  = some r) :
  Calls Try.prog 13 #[] w fun e w' => e = .returned (.bool r) ∧ Below w.heap.size w w' := by
 have hu27 := Try.underlying27
 have HB := Aside0.mk (Below.refl w.heap.size w)
 have H : ((some (([1, 1, 5, 5, 5] : List Int) : List Int)).bind fun y274 => ((segmentation_Best.f k y274 2).bind fun bt277 => ((segmentation_Potentials.f k y274 2).bind fun bt283 => (if bt277.2.2 = 0 then ((sleuthlaw44_same.f k bt277.1 (([2] : List Int))).bind fun t290 => (if t290 = true then (if bt277.2.1 = 2 then (if bt283.2 = 0 then ((sleuthlaw44_same.f k bt283.1 (([(-2), 0, 0, 2, 2, 2] : List Int))).bind fun t294 => (if t294 = true then ((segmentation_Verify.f k y274 2 bt283.1 bt277.1 bt277.2.1).bind fun t295 => (some (t295 == 0))) else (some false))) else (some false)) else (some false)) else (some false))) else (some false))))) = some r := h
 clear h
 obtain ⟨y274, hy274⟩ : ∃ y_ : List Int, y_ = (([1, 1, 5, 5, 5] : List Int)) := ⟨_, rfl⟩
 replace H : ((segmentation_Best.f k y274 2).bind fun bt277 => ((segmentation_Potentials.f k y274 2).bind fun bt283 => (if bt277.2.2 = 0 then ((sleuthlaw44_same.f k bt277.1 (([2] : List Int))).bind fun t290 => (if t290 = true then (if bt277.2.1 = 2 then (if bt283.2 = 0 then ((sleuthlaw44_same.f k bt283.1 (([(-2), 0, 0, 2, 2, 2] : List Int))).bind fun t294 => (if t294 = true then ((segmentation_Verify.f k y274 2 bt283.1 bt277.1 bt277.2.1).bind fun t295 => (some (t295 == 0))) else (some false))) else (some false)) else (some false)) else (some false))) else (some false)))) = some r := by first | (rw [hy274]; with_reducible exact H) | (have H2_ := (Option.bind_some _ _).symm.trans H; rw [hy274]; with_reducible exact H2_) | (have H2_ := (Option.bind_some _ _).symm.trans H; with_reducible exact H2_) | with_reducible exact H | (rw [hy274]; exact H) | exact H
 have Ny274 := Aside0.mk hy274
 clear hy274
 replace H := Option.bind_eq_some_iff.mp H
 obtain ⟨⟨t277, t280, t281⟩, A10, H⟩ := H
 replace H : ((segmentation_Potentials.f k y274 2).bind fun bt283 => (if t281 = 0 then ((sleuthlaw44_same.f k t277 (([2] : List Int))).bind fun t290 => (if t290 = true then (if t280 = 2 then (if bt283.2 = 0 then ((sleuthlaw44_same.f k bt283.1 (([(-2), 0, 0, 2, 2, 2] : List Int))).bind fun t294 => (if t294 = true then ((segmentation_Verify.f k y274 2 bt283.1 t277 t280).bind fun t295 => (some (t295 == 0))) else (some false))) else (some false)) else (some false)) else (some false))) else (some false))) = some r := H
 have A1 := Aside0.mk A10
 clear A10
 replace H := Option.bind_eq_some_iff.mp H
 obtain ⟨⟨t283, t284⟩, A20, H⟩ := H
 replace H : (if t281 = 0 then ((sleuthlaw44_same.f k t277 (([2] : List Int))).bind fun t290 => (if t290 = true then (if t280 = 2 then (if t284 = 0 then ((sleuthlaw44_same.f k t283 (([(-2), 0, 0, 2, 2, 2] : List Int))).bind fun t294 => (if t294 = true then ((segmentation_Verify.f k y274 2 t283 t277 t280).bind fun t295 => (some (t295 == 0))) else (some false))) else (some false)) else (some false)) else (some false))) else (some false)) = some r := H
 have A2 := Aside0.mk A20
 clear A20
 by_cases c3 : t281 = 0
 ·rw [if_pos c3] at H
  have c3b0 : (t281 == 0) = true := beq_iff_eq.mpr c3
  have c3b1 : (t281 != 0) = false := bne_eq_false_iff_eq.mpr c3
  clear c3
  obtain ⟨y287, hy287⟩ : ∃ y_ : List Int, y_ = (([2] : List Int)) := ⟨_, rfl⟩
  replace H : ((sleuthlaw44_same.f k t277 y287).bind fun t290 => (if t290 = true then (if t280 = 2 then (if t284 = 0 then ((sleuthlaw44_same.f k t283 (([(-2), 0, 0, 2, 2, 2] : List Int))).bind fun t294 => (if t294 = true then ((segmentation_Verify.f k y274 2 t283 t277 t280).bind fun t295 => (some (t295 == 0))) else (some false))) else (some false)) else (some false)) else (some false))) = some r := by first | (rw [hy287]; with_reducible exact H) | (have H2_ := (Option.bind_some _ _).symm.trans H; rw [hy287]; with_reducible exact H2_) | (have H2_ := (Option.bind_some _ _).symm.trans H; with_reducible exact H2_) | with_reducible exact H | (rw [hy287]; exact H) | exact H
  have Ny287 := Aside0.mk hy287
  clear hy287
  replace H := Option.bind_eq_some_iff.mp H
  obtain ⟨t290, A40, H⟩ := H
  replace H : (if t290 = true then (if t280 = 2 then (if t284 = 0 then ((sleuthlaw44_same.f k t283 (([(-2), 0, 0, 2, 2, 2] : List Int))).bind fun t294 => (if t294 = true then ((segmentation_Verify.f k y274 2 t283 t277 t280).bind fun t295 => (some (t295 == 0))) else (some false))) else (some false)) else (some false)) else (some false)) = some r := H
  have A4 := Aside0.mk A40
  clear A40
  by_cases c5 : t290 = true
  ·subst c5
   have H1 : (if t280 = 2 then (if t284 = 0 then ((sleuthlaw44_same.f k t283 (([(-2), 0, 0, 2, 2, 2] : List Int))).bind fun t294 => (if t294 = true then ((segmentation_Verify.f k y274 2 t283 t277 t280).bind fun t295 => (some (t295 == 0))) else (some false))) else (some false)) else (some false)) = some r := by rw [if_pos rfl] at H; exact H
   clear H
   have H := H1
   clear H1
   by_cases c6 : t280 = 2
   ·rw [if_pos c6] at H
    have c6b0 : (t280 == 2) = true := beq_iff_eq.mpr c6
    have c6b1 : (t280 != 2) = false := bne_eq_false_iff_eq.mpr c6
    clear c6
    by_cases c7 : t284 = 0
    ·rw [if_pos c7] at H
     have c7b0 : (t284 == 0) = true := beq_iff_eq.mpr c7
     have c7b1 : (t284 != 0) = false := bne_eq_false_iff_eq.mpr c7
     clear c7
     obtain ⟨y291, hy291⟩ : ∃ y_ : List Int, y_ = (([(-2), 0, 0, 2, 2, 2] : List Int)) := ⟨_, rfl⟩
     replace H : ((sleuthlaw44_same.f k t283 y291).bind fun t294 => (if t294 = true then ((segmentation_Verify.f k y274 2 t283 t277 t280).bind fun t295 => (some (t295 == 0))) else (some false))) = some r := by first | (rw [hy291]; with_reducible exact H) | (have H2_ := (Option.bind_some _ _).symm.trans H; rw [hy291]; with_reducible exact H2_) | (have H2_ := (Option.bind_some _ _).symm.trans H; with_reducible exact H2_) | with_reducible exact H | (rw [hy291]; exact H) | exact H
     have Ny291 := Aside0.mk hy291
     clear hy291
     replace H := Option.bind_eq_some_iff.mp H
     obtain ⟨t294, A80, H⟩ := H
     replace H : (if t294 = true then ((segmentation_Verify.f k y274 2 t283 t277 t280).bind fun t295 => (some (t295 == 0))) else (some false)) = some r := H
     have A8 := Aside0.mk A80
     clear A80
     by_cases c9 : t294 = true
     ·subst c9
      have H1 : ((segmentation_Verify.f k y274 2 t283 t277 t280).bind fun t295 => (some (t295 == 0))) = some r := by rw [if_pos rfl] at H; exact H
      clear H
      have H := H1
      clear H1
      replace H := Option.bind_eq_some_iff.mp H
      obtain ⟨t295, A100, H⟩ := H
      replace H : (some (t295 == 0)) = some r := H
      have A10 := Aside0.mk A100
      clear A100
      obtain rfl := Option.some.inj H
      go_enter Try.func13, Try.ntmps13
      go_wp2_with (first | ((with_reducible refine gate_dst (N := 6) rfl ?_); (try (refine gate_guard (by rfl) ?_; dsimp only)); refine Kd.R_lit (Kd.int .i64) _ 3 ?hg (N := 6) ?hd (xs := ([1, 1, 5, 5, 5] : List Int)) (inner := [.int .i64 1, .int .i64 1, .int .i64 5, .int .i64 5, .int .i64 5]) (ok := fun _ => True) (okp := fun _ => True) ?hr ?hp (fun _ hk => hk) trivial (Below.refl _ _) (Nat.le_refl _) (by simp) ?_; (case hd => rfl); (case hg => rfl); (case hr => exact qx8_19); (case hp => exact qx8_4); intro v275 w11 ho12 hb hg_ hnew_; clear hg_ hnew_; (first | rw [← Ny274.out] at ho12 | (simp only [Int.reduceToNat] at ho12; rw [← Ny274.out] at ho12)); have n0_ := Aside0.mk (Kd.R_lower ho12 (below_size qx8_0)); have n1_ := Aside0.mk (below_step qx8_0 hb); clear HB; have HO276 := n0_; have HB := n1_; clear n0_ n1_; clear hb ho12; obtain ⟨Ao13, co13, eo13⟩ := Kd.R_slice HO276.out; subst eo13) | ((with_reducible refine gate_callee (f := 15) rfl ?_); refine goesL_ (some 9) rfl rfl Try.func15 (by kernel_rfl) rfl #[.slice Ao13 y274.length co13, .int .i64 2] rfl qx8_5 ?_; (with_reducible refine (segmentation_Best.calls k _ _ y274 2 t277 t280 t281 _ ?side1 ?side2 A1.out).mono ?_); (case side1 => exact qx8_8); (case side2 => exact qx8_35); rintro e w14 ⟨v278, rfl, ho0, hb⟩; refine ⟨_, rfl, ?_⟩; have n0_ := Aside0.mk (Kd.R_elder' qx8_2 (Kd.R_base ho0) hb); have n1_ := Aside0.mk (Kd.R_lower (Kd.R_new' ho0 (Kd.R_lt qx8_2)) (below_size qx8_0)); have n2_ := Aside0.mk (below_step qx8_0 hb); clear HO276; clear HB; have HO276 := n0_; have HO279 := n1_; have HB := n2_; clear n0_ n1_ n2_; (try clear hb); (try clear hb2); (try clear hk); (try clear hi); (try clear ho0)) | ((with_reducible refine gate_dst (N := 2) rfl ?_); (try (refine gate_guard (by rfl) ?_; dsimp only)); refine box_event ?hg (N := 2) ?hd (cs := #[.slice none 0 0, .int .i64 0]) (t := 27) ?hr ?_; (case hd => rfl); (case hg => rfl); (case hr => exact qx8_19); intro gb282 hg w15 hbox hb; have n0_ := Aside0.mk (Kd.R_below qx8_2 hb); have n1_ := Aside0.mk (Kd.R_below qx8_3 hb); have n2_ := Aside0.mk (below_step qx8_0 hb); have n3_ := Aside0.mk (hbox); have n4_ := Aside0.mk ((by rw [hg]; exact (below_size qx8_0) : w.heap.size ≤ gb282)); have n5_ := Aside0.mk ((by rw [hg]; exact (below_size qx8_0) : w.heap.size ≤ gb282)); clear HO276; clear HO279; clear HB; have HO276 := n0_; have HO279 := n1_; have HB := n2_; have BK282 := n3_; have GW282 := n4_; have GE282 := n5_; clear n0_ n1_ n2_ n3_ n4_ n5_; clear hb hbox hg; obtain ⟨Ao16, co16, eo16⟩ := Kd.R_slice HO279.out; subst eo16; have hcz17_0 : w15.cell? ⟨gb282, 0, none⟩ = some (.slice none 0 0) := (blk_cell BK282.out 0).trans rfl; have hcz17_1 : w15.cell? ⟨gb282, 1, none⟩ = some (.int .i64 0) := (blk_cell BK282.out 1).trans rfl; have hfz17_0 := blk_frozen BK282.out 0; have hfz17_1 := blk_frozen BK282.out 1) | ((with_reducible refine gate_callee (f := 18) rfl ?_); refine goesL_ (some 14) rfl rfl Try.func18 (by kernel_rfl) rfl #[.slice Ao13 y274.length co13, .int .i64 2] rfl qx8_5 ?_; (with_reducible refine (segmentation_Potentials.calls k _ _ y274 2 t283 t284 _ ?side1 ?side2 A2.out).mono ?_); (case side1 => refine (Kd.R_reads' (e := 3) (base := w.heap.size) (ok := fun k_ => (True ∧ some k_ ≠ (.slice Ao16 t277.length co16 : Value).ownBlock)) (n := y274.length) (c := co13) ?_).2.2; exact qx8_12); (case side2 => exact qx8_35); rintro e w18 ⟨v285, rfl, ho0, hb⟩; refine ⟨_, rfl, ?_⟩; have n0_ := Aside0.mk (Kd.R_elder' qx8_12 (Kd.R_base ho0) hb); have n1_ := Aside0.mk (Kd.R_elder' qx8_24 (Kd.R_base ho0) hb); have n2_ := Aside0.mk (Kd.R_lower (Kd.R_new' (Kd.R_new' ho0 (Kd.R_lt qx8_12)) (Kd.R_lt qx8_24)) (below_size qx8_1)); have n3_ := Aside0.mk (blk_below (g := gb282) (o := .cells #[.slice Ao16 t277.length co16, .int .i64 t280] 27 (0, 0)) (by (with_reducible repeat (first | refine blk_drewN ?_ _ | refine blk_drew ?_ | refine blk_alloc ?_ _)); refine blk_put (cs := #[.slice Ao16 t277.length co16, .int .i64 0]) ?_ 1 _ rfl; (with_reducible repeat (first | refine blk_drewN ?_ _ | refine blk_drew ?_ | refine blk_alloc ?_ _)); refine blk_put (cs := #[.slice none 0 0, .int .i64 0]) ?_ 0 _ rfl; (with_reducible repeat (first | refine blk_drewN ?_ _ | refine blk_drew ?_ | refine blk_alloc ?_ _)); exact BK282.out) hb); have n4_ := Aside0.mk (below_step qx8_1 hb); clear HO276; clear HO279; clear BK282; clear HB; have HO276 := n0_; have HO279 := n1_; have HO286 := n2_; have BK282 := n3_; have HB := n4_; clear n0_ n1_ n2_ n3_ n4_; (try clear hb); (try clear hb2); (try clear hk); (try clear hi); (try clear ho0); have hcz19_0 : w18.cell? ⟨gb282, 0, none⟩ = some (.slice Ao16 t277.length co16) := (blk_cell BK282.out 0).trans rfl; have hcz19_1 : w18.cell? ⟨gb282, 1, none⟩ = some (.int .i64 t280) := (blk_cell BK282.out 1).trans rfl; have hfz19_0 := blk_frozen BK282.out 0; have hfz19_1 := blk_frozen BK282.out 1) | ((with_reducible refine gate_dst (N := 22) rfl ?_); (try (refine gate_guard (by rfl) ?_; dsimp only)); refine Kd.R_lit (Kd.int .i64) _ 3 ?hg (N := 22) ?hd (xs := ([2] : List Int)) (inner := [.int .i64 2]) (ok := fun _ => True) (okp := fun _ => True) ?hr ?hp (fun _ hk => hk) trivial (Below.refl _ _) (Nat.le_refl _) (by simp) ?_; (case hd => rfl); (case hg => rfl); (case hr => exact qx8_19); (case hp => exact qx8_33); intro v288 w20 ho21 hb hg_ hnew_; clear hg_ hnew_; (first | rw [← Ny287.out] at ho21 | (simp only [Int.reduceToNat] at ho21; rw [← Ny287.out] at ho21)); have n0_ := Aside0.mk (Kd.R_elder' qx8_2 (Kd.R_base ho21) hb); have n1_ := Aside0.mk (Kd.R_elder' qx8_3 (Kd.R_base ho21) hb); have n2_ := Aside0.mk (Kd.R_elder' qx8_6 (Kd.R_base ho21) hb); have n3_ := Aside0.mk (Kd.R_lower (Kd.R_new' (Kd.R_new' (Kd.R_new' ho21 (Kd.R_lt qx8_2)) (Kd.R_lt qx8_3)) (Kd.R_lt qx8_6)) (below_size qx8_1)); have n4_ := Aside0.mk (blk_below (g := gb282) (o := .cells #[.slice Ao16 t277.length co16, .int .i64 t280] 27 (0, 0)) qx8_10 hb); have n5_ := Aside0.mk (below_step qx8_1 hb); clear HO276; clear HO279; clear HO286; clear BK282; clear HB; have HO276 := n0_; have HO279 := n1_; have HO286 := n2_; have HO289 := n3_; have BK282 := n4_; have HB := n5_; clear n0_ n1_ n2_ n3_ n4_ n5_; clear hb ho21; obtain ⟨Ao22, co22, eo22⟩ := Kd.R_slice HO289.out; subst eo22) | (go_at_call 17; (with_reducible refine (sleuthlaw44_same.calls k _ _ t277 _ _ y287 true _ ?side1 ?side2 ?side3 ?side4 A4.out).mono ?_); (case side1 => exact qx8_11); (case side2 => exact (Kd.R_reads' HO279.out).2.1); (case side3 => exact qx8_18); (case side4 => exact (Kd.R_reads' HO289.out).2.1); rintro e w' ⟨rfl, ⟨nd, rfl⟩⟩; have hcz23_0 : w20.cell? ⟨gb282, 0, none⟩ = some (.slice Ao16 t277.length co16) := (blk_cell BK282.out 0).trans rfl; have hcz23_1 : w20.cell? ⟨gb282, 1, none⟩ = some (.int .i64 t280) := (blk_cell BK282.out 1).trans rfl; have hfz23_0 := blk_frozen BK282.out 0; have hfz23_1 := blk_frozen BK282.out 1) | ((with_reducible refine gate_dst (N := 36) rfl ?_); (try (refine gate_guard (by rfl) ?_; dsimp only)); refine Kd.R_lit (Kd.int .i64) _ 3 ?hg (N := 36) ?hd (xs := ([(-2), 0, 0, 2, 2, 2] : List Int)) (inner := [.int .i64 (-2), .int .i64 0, .int .i64 0, .int .i64 2, .int .i64 2, .int .i64 2]) (ok := fun _ => True) (okp := fun _ => True) ?hr ?hp (fun _ hk => hk) trivial (Below.refl _ _) (Nat.le_refl _) (by simp) ?_; (case hd => rfl); (case hg => rfl); (case hr => exact qx8_19); (case hp => exact qx8_20); intro v292 w24 ho25 hb hg_ hnew_; clear hg_ hnew_; (first | rw [← Ny291.out] at ho25 | (simp only [Int.reduceToNat] at ho25; rw [← Ny291.out] at ho25)); have n0_ := Aside0.mk (Kd.R_elder' qx8_2 (Kd.R_base ho25) hb); have n1_ := Aside0.mk (Kd.R_elder' qx8_3 (Kd.R_base ho25) hb); have n2_ := Aside0.mk (Kd.R_elder' qx8_6 (Kd.R_base ho25) hb); have n3_ := Aside0.mk (Kd.R_elder' qx8_21 (Kd.R_base ho25) hb); have n4_ := Aside0.mk (Kd.R_lower (Kd.R_new' (Kd.R_new' (Kd.R_new' (Kd.R_new' ho25 (Kd.R_lt qx8_2)) (Kd.R_lt qx8_3)) (Kd.R_lt qx8_6)) (Kd.R_lt qx8_21)) (below_size qx8_1)); have n5_ := Aside0.mk (blk_below (g := gb282) (o := .cells #[.slice Ao16 t277.length co16, .int .i64 t280] 27 (0, 0)) qx8_10 hb); have n6_ := Aside0.mk (below_step qx8_1 hb); clear HO276; clear HO279; clear HO286; clear HO289; clear BK282; clear HB; have HO276 := n0_; have HO279 := n1_; have HO286 := n2_; have HO289 := n3_; have HO293 := n4_; have BK282 := n5_; have HB := n6_; clear n0_ n1_ n2_ n3_ n4_ n5_ n6_; clear hb ho25; obtain ⟨Ao26, co26, eo26⟩ := Kd.R_slice HO286.out; subst eo26; obtain ⟨Ao27, co27, eo27⟩ := Kd.R_slice HO293.out; subst eo27) | (go_at_call 17; (with_reducible refine (sleuthlaw44_same.calls k _ _ t283 _ _ y291 true _ ?side1 ?side2 ?side3 ?side4 A8.out).mono ?_); (case side1 => exact qx8_30); (case side2 => exact (Kd.R_reads' HO286.out).2.1); (case side3 => exact qx8_36); (case side4 => exact (Kd.R_reads' HO293.out).2.1); rintro e w' ⟨rfl, ⟨nd, rfl⟩⟩; have hcz28_0 : w24.cell? ⟨gb282, 0, none⟩ = some (.slice Ao16 t277.length co16) := (blk_cell BK282.out 0).trans rfl; have hcz28_1 : w24.cell? ⟨gb282, 1, none⟩ = some (.int .i64 t280) := (blk_cell BK282.out 1).trans rfl; have hfz28_0 := blk_frozen BK282.out 0; have hfz28_1 := blk_frozen BK282.out 1) | (go_at_call 20; (with_reducible refine (segmentation_Verify.calls k _ _ y274 2 _ _ t283 _ _ t277 t280 t295 _ ?side1 ?side2 ?side3 ?side4 ?side5 ?side6 A10.out).mono ?_); (case side1 => exact qx8_8); (case side2 => exact qx8_35); (case side3 => exact qx8_30); (case side4 => exact (Kd.R_reads' HO286.out).2.1); (case side5 => exact qx8_11); (case side6 => exact (Kd.R_reads' HO279.out).2.1); rintro e w29 ⟨rfl, hb⟩; have n0_ := Aside0.mk (Kd.R_below qx8_2 hb); have n1_ := Aside0.mk (Kd.R_below qx8_3 hb); have n2_ := Aside0.mk (Kd.R_below qx8_6 hb); have n3_ := Aside0.mk (Kd.R_below qx8_21 hb); have n4_ := Aside0.mk (Kd.R_below (by (with_reducible repeat (first | apply Kd.R_alloc | apply Kd.R_drewN | apply Kd.R_drew)); exact HO293.out) hb); have n5_ := Aside0.mk (blk_below (g := gb282) (o := .cells #[.slice Ao16 t277.length co16, .int .i64 t280] 27 (0, 0)) qx8_10 hb); have n6_ := Aside0.mk (below_step qx8_1 hb); clear HO276; clear HO279; clear HO286; clear HO289; clear HO293; clear BK282; clear HB; have HO276 := n0_; have HO279 := n1_; have HO286 := n2_; have HO289 := n3_; have HO293 := n4_; have BK282 := n5_; have HB := n6_; clear n0_ n1_ n2_ n3_ n4_ n5_ n6_; (try clear hb); (try clear hb2); (try clear hk); (try clear hi)))
      go_ret
      exact ⟨qx8_7, qx8_1⟩
     ·replace c9 := Bool.eq_false_iff.mpr c9
      subst c9
      have H1 : (some false) = some r := by rw [if_neg (show ¬ (false = true) by decide)] at H; exact H
      clear H
      have H := H1
      clear H1
      obtain rfl := Option.some.inj H
      go_enter Try.func13, Try.ntmps13
      go_wp2_with (first | ((with_reducible refine gate_dst (N := 6) rfl ?_); (try (refine gate_guard (by rfl) ?_; dsimp only)); refine Kd.R_lit (Kd.int .i64) _ 3 ?hg (N := 6) ?hd (xs := ([1, 1, 5, 5, 5] : List Int)) (inner := [.int .i64 1, .int .i64 1, .int .i64 5, .int .i64 5, .int .i64 5]) (ok := fun _ => True) (okp := fun _ => True) ?hr ?hp (fun _ hk => hk) trivial (Below.refl _ _) (Nat.le_refl _) (by simp) ?_; (case hd => rfl); (case hg => rfl); (case hr => exact qx8_19); (case hp => exact qx8_4); intro v275 w30 ho31 hb hg_ hnew_; clear hg_ hnew_; (first | rw [← Ny274.out] at ho31 | (simp only [Int.reduceToNat] at ho31; rw [← Ny274.out] at ho31)); have n0_ := Aside0.mk (Kd.R_lower ho31 (below_size qx8_0)); have n1_ := Aside0.mk (below_step qx8_0 hb); clear HB; have HO276 := n0_; have HB := n1_; clear n0_ n1_; clear hb ho31; obtain ⟨Ao32, co32, eo32⟩ := Kd.R_slice HO276.out; subst eo32) | ((with_reducible refine gate_callee (f := 15) rfl ?_); refine goesL_ (some 9) rfl rfl Try.func15 (by kernel_rfl) rfl #[.slice Ao32 y274.length co32, .int .i64 2] rfl qx8_5 ?_; (with_reducible refine (segmentation_Best.calls k _ _ y274 2 t277 t280 t281 _ ?side1 ?side2 A1.out).mono ?_); (case side1 => exact qx8_8); (case side2 => exact qx8_35); rintro e w33 ⟨v278, rfl, ho0, hb⟩; refine ⟨_, rfl, ?_⟩; have n0_ := Aside0.mk (Kd.R_elder' qx8_2 (Kd.R_base ho0) hb); have n1_ := Aside0.mk (Kd.R_lower (Kd.R_new' ho0 (Kd.R_lt qx8_2)) (below_size qx8_0)); have n2_ := Aside0.mk (below_step qx8_0 hb); clear HO276; clear HB; have HO276 := n0_; have HO279 := n1_; have HB := n2_; clear n0_ n1_ n2_; (try clear hb); (try clear hb2); (try clear hk); (try clear hi); (try clear ho0)) | ((with_reducible refine gate_dst (N := 2) rfl ?_); (try (refine gate_guard (by rfl) ?_; dsimp only)); refine box_event ?hg (N := 2) ?hd (cs := #[.slice none 0 0, .int .i64 0]) (t := 27) ?hr ?_; (case hd => rfl); (case hg => rfl); (case hr => exact qx8_19); intro gb282 hg w34 hbox hb; have n0_ := Aside0.mk (Kd.R_below qx8_2 hb); have n1_ := Aside0.mk (Kd.R_below qx8_3 hb); have n2_ := Aside0.mk (below_step qx8_0 hb); have n3_ := Aside0.mk (hbox); have n4_ := Aside0.mk ((by rw [hg]; exact (below_size qx8_0) : w.heap.size ≤ gb282)); have n5_ := Aside0.mk ((by rw [hg]; exact (below_size qx8_0) : w.heap.size ≤ gb282)); clear HO276; clear HO279; clear HB; have HO276 := n0_; have HO279 := n1_; have HB := n2_; have BK282 := n3_; have GW282 := n4_; have GE282 := n5_; clear n0_ n1_ n2_ n3_ n4_ n5_; clear hb hbox hg; obtain ⟨Ao35, co35, eo35⟩ := Kd.R_slice HO279.out; subst eo35; have hcz36_0 : w34.cell? ⟨gb282, 0, none⟩ = some (.slice none 0 0) := (blk_cell BK282.out 0).trans rfl; have hcz36_1 : w34.cell? ⟨gb282, 1, none⟩ = some (.int .i64 0) := (blk_cell BK282.out 1).trans rfl; have hfz36_0 := blk_frozen BK282.out 0; have hfz36_1 := blk_frozen BK282.out 1) | ((with_reducible refine gate_callee (f := 18) rfl ?_); refine goesL_ (some 14) rfl rfl Try.func18 (by kernel_rfl) rfl #[.slice Ao32 y274.length co32, .int .i64 2] rfl qx8_5 ?_; (with_reducible refine (segmentation_Potentials.calls k _ _ y274 2 t283 t284 _ ?side1 ?side2 A2.out).mono ?_); (case side1 => refine (Kd.R_reads' (e := 3) (base := w.heap.size) (ok := fun k_ => (True ∧ some k_ ≠ (.slice Ao35 t277.length co35 : Value).ownBlock)) (n := y274.length) (c := co32) ?_).2.2; exact qx8_13); (case side2 => exact qx8_35); rintro e w37 ⟨v285, rfl, ho0, hb⟩; refine ⟨_, rfl, ?_⟩; have n0_ := Aside0.mk (Kd.R_elder' qx8_13 (Kd.R_base ho0) hb); have n1_ := Aside0.mk (Kd.R_elder' qx8_25 (Kd.R_base ho0) hb); have n2_ := Aside0.mk (Kd.R_lower (Kd.R_new' (Kd.R_new' ho0 (Kd.R_lt qx8_13)) (Kd.R_lt qx8_25)) (below_size qx8_1)); have n3_ := Aside0.mk (blk_below (g := gb282) (o := .cells #[.slice Ao35 t277.length co35, .int .i64 t280] 27 (0, 0)) (by (with_reducible repeat (first | refine blk_drewN ?_ _ | refine blk_drew ?_ | refine blk_alloc ?_ _)); refine blk_put (cs := #[.slice Ao35 t277.length co35, .int .i64 0]) ?_ 1 _ rfl; (with_reducible repeat (first | refine blk_drewN ?_ _ | refine blk_drew ?_ | refine blk_alloc ?_ _)); refine blk_put (cs := #[.slice none 0 0, .int .i64 0]) ?_ 0 _ rfl; (with_reducible repeat (first | refine blk_drewN ?_ _ | refine blk_drew ?_ | refine blk_alloc ?_ _)); exact BK282.out) hb); have n4_ := Aside0.mk (below_step qx8_1 hb); clear HO276; clear HO279; clear BK282; clear HB; have HO276 := n0_; have HO279 := n1_; have HO286 := n2_; have BK282 := n3_; have HB := n4_; clear n0_ n1_ n2_ n3_ n4_; (try clear hb); (try clear hb2); (try clear hk); (try clear hi); (try clear ho0); have hcz38_0 : w37.cell? ⟨gb282, 0, none⟩ = some (.slice Ao35 t277.length co35) := (blk_cell BK282.out 0).trans rfl; have hcz38_1 : w37.cell? ⟨gb282, 1, none⟩ = some (.int .i64 t280) := (blk_cell BK282.out 1).trans rfl; have hfz38_0 := blk_frozen BK282.out 0; have hfz38_1 := blk_frozen BK282.out 1) | ((with_reducible refine gate_dst (N := 22) rfl ?_); (try (refine gate_guard (by rfl) ?_; dsimp only)); refine Kd.R_lit (Kd.int .i64) _ 3 ?hg (N := 22) ?hd (xs := ([2] : List Int)) (inner := [.int .i64 2]) (ok := fun _ => True) (okp := fun _ => True) ?hr ?hp (fun _ hk => hk) trivial (Below.refl _ _) (Nat.le_refl _) (by simp) ?_; (case hd => rfl); (case hg => rfl); (case hr => exact qx8_19); (case hp => exact qx8_33); intro v288 w39 ho40 hb hg_ hnew_; clear hg_ hnew_; (first | rw [← Ny287.out] at ho40 | (simp only [Int.reduceToNat] at ho40; rw [← Ny287.out] at ho40)); have n0_ := Aside0.mk (Kd.R_elder' qx8_2 (Kd.R_base ho40) hb); have n1_ := Aside0.mk (Kd.R_elder' qx8_3 (Kd.R_base ho40) hb); have n2_ := Aside0.mk (Kd.R_elder' qx8_6 (Kd.R_base ho40) hb); have n3_ := Aside0.mk (Kd.R_lower (Kd.R_new' (Kd.R_new' (Kd.R_new' ho40 (Kd.R_lt qx8_2)) (Kd.R_lt qx8_3)) (Kd.R_lt qx8_6)) (below_size qx8_1)); have n4_ := Aside0.mk (blk_below (g := gb282) (o := .cells #[.slice Ao35 t277.length co35, .int .i64 t280] 27 (0, 0)) qx8_10 hb); have n5_ := Aside0.mk (below_step qx8_1 hb); clear HO276; clear HO279; clear HO286; clear BK282; clear HB; have HO276 := n0_; have HO279 := n1_; have HO286 := n2_; have HO289 := n3_; have BK282 := n4_; have HB := n5_; clear n0_ n1_ n2_ n3_ n4_ n5_; clear hb ho40; obtain ⟨Ao41, co41, eo41⟩ := Kd.R_slice HO289.out; subst eo41) | (go_at_call 17; (with_reducible refine (sleuthlaw44_same.calls k _ _ t277 _ _ y287 true _ ?side1 ?side2 ?side3 ?side4 A4.out).mono ?_); (case side1 => exact qx8_11); (case side2 => exact (Kd.R_reads' HO279.out).2.1); (case side3 => exact qx8_18); (case side4 => exact (Kd.R_reads' HO289.out).2.1); rintro e w' ⟨rfl, ⟨nd, rfl⟩⟩; have hcz42_0 : w39.cell? ⟨gb282, 0, none⟩ = some (.slice Ao35 t277.length co35) := (blk_cell BK282.out 0).trans rfl; have hcz42_1 : w39.cell? ⟨gb282, 1, none⟩ = some (.int .i64 t280) := (blk_cell BK282.out 1).trans rfl; have hfz42_0 := blk_frozen BK282.out 0; have hfz42_1 := blk_frozen BK282.out 1) | ((with_reducible refine gate_dst (N := 36) rfl ?_); (try (refine gate_guard (by rfl) ?_; dsimp only)); refine Kd.R_lit (Kd.int .i64) _ 3 ?hg (N := 36) ?hd (xs := ([(-2), 0, 0, 2, 2, 2] : List Int)) (inner := [.int .i64 (-2), .int .i64 0, .int .i64 0, .int .i64 2, .int .i64 2, .int .i64 2]) (ok := fun _ => True) (okp := fun _ => True) ?hr ?hp (fun _ hk => hk) trivial (Below.refl _ _) (Nat.le_refl _) (by simp) ?_; (case hd => rfl); (case hg => rfl); (case hr => exact qx8_19); (case hp => exact qx8_20); intro v292 w43 ho44 hb hg_ hnew_; clear hg_ hnew_; (first | rw [← Ny291.out] at ho44 | (simp only [Int.reduceToNat] at ho44; rw [← Ny291.out] at ho44)); have n0_ := Aside0.mk (Kd.R_elder' qx8_2 (Kd.R_base ho44) hb); have n1_ := Aside0.mk (Kd.R_elder' qx8_3 (Kd.R_base ho44) hb); have n2_ := Aside0.mk (Kd.R_elder' qx8_6 (Kd.R_base ho44) hb); have n3_ := Aside0.mk (Kd.R_elder' qx8_21 (Kd.R_base ho44) hb); have n4_ := Aside0.mk (Kd.R_lower (Kd.R_new' (Kd.R_new' (Kd.R_new' (Kd.R_new' ho44 (Kd.R_lt qx8_2)) (Kd.R_lt qx8_3)) (Kd.R_lt qx8_6)) (Kd.R_lt qx8_21)) (below_size qx8_1)); have n5_ := Aside0.mk (blk_below (g := gb282) (o := .cells #[.slice Ao35 t277.length co35, .int .i64 t280] 27 (0, 0)) qx8_10 hb); have n6_ := Aside0.mk (below_step qx8_1 hb); clear HO276; clear HO279; clear HO286; clear HO289; clear BK282; clear HB; have HO276 := n0_; have HO279 := n1_; have HO286 := n2_; have HO289 := n3_; have HO293 := n4_; have BK282 := n5_; have HB := n6_; clear n0_ n1_ n2_ n3_ n4_ n5_ n6_; clear hb ho44; obtain ⟨Ao45, co45, eo45⟩ := Kd.R_slice HO286.out; subst eo45; obtain ⟨Ao46, co46, eo46⟩ := Kd.R_slice HO293.out; subst eo46) | (go_at_call 17; (with_reducible refine (sleuthlaw44_same.calls k _ _ t283 _ _ y291 false _ ?side1 ?side2 ?side3 ?side4 A8.out).mono ?_); (case side1 => exact qx8_30); (case side2 => exact (Kd.R_reads' HO286.out).2.1); (case side3 => exact qx8_36); (case side4 => exact (Kd.R_reads' HO293.out).2.1); rintro e w' ⟨rfl, ⟨nd, rfl⟩⟩))
      go_ret
      exact ⟨qx8_7, qx8_1⟩
    ·rw [if_neg c7] at H
     have c7b0 : (t284 == 0) = false := beq_eq_false_iff_ne.mpr c7
     have c7b1 : (t284 != 0) = true := bne_iff_ne.mpr c7
     obtain rfl := Option.some.inj H
     go_enter Try.func13, Try.ntmps13
     go_wp2_with (first | ((with_reducible refine gate_dst (N := 6) rfl ?_); (try (refine gate_guard (by rfl) ?_; dsimp only)); refine Kd.R_lit (Kd.int .i64) _ 3 ?hg (N := 6) ?hd (xs := ([1, 1, 5, 5, 5] : List Int)) (inner := [.int .i64 1, .int .i64 1, .int .i64 5, .int .i64 5, .int .i64 5]) (ok := fun _ => True) (okp := fun _ => True) ?hr ?hp (fun _ hk => hk) trivial (Below.refl _ _) (Nat.le_refl _) (by simp) ?_; (case hd => rfl); (case hg => rfl); (case hr => exact qx8_19); (case hp => exact qx8_4); intro v275 w47 ho48 hb hg_ hnew_; clear hg_ hnew_; (first | rw [← Ny274.out] at ho48 | (simp only [Int.reduceToNat] at ho48; rw [← Ny274.out] at ho48)); have n0_ := Aside0.mk (Kd.R_lower ho48 (below_size qx8_0)); have n1_ := Aside0.mk (below_step qx8_0 hb); clear HB; have HO276 := n0_; have HB := n1_; clear n0_ n1_; clear hb ho48; obtain ⟨Ao49, co49, eo49⟩ := Kd.R_slice HO276.out; subst eo49) | ((with_reducible refine gate_callee (f := 15) rfl ?_); refine goesL_ (some 9) rfl rfl Try.func15 (by kernel_rfl) rfl #[.slice Ao49 y274.length co49, .int .i64 2] rfl qx8_5 ?_; (with_reducible refine (segmentation_Best.calls k _ _ y274 2 t277 t280 t281 _ ?side1 ?side2 A1.out).mono ?_); (case side1 => exact qx8_8); (case side2 => exact qx8_35); rintro e w50 ⟨v278, rfl, ho0, hb⟩; refine ⟨_, rfl, ?_⟩; have n0_ := Aside0.mk (Kd.R_elder' qx8_2 (Kd.R_base ho0) hb); have n1_ := Aside0.mk (Kd.R_lower (Kd.R_new' ho0 (Kd.R_lt qx8_2)) (below_size qx8_0)); have n2_ := Aside0.mk (below_step qx8_0 hb); clear HO276; clear HB; have HO276 := n0_; have HO279 := n1_; have HB := n2_; clear n0_ n1_ n2_; (try clear hb); (try clear hb2); (try clear hk); (try clear hi); (try clear ho0)) | ((with_reducible refine gate_dst (N := 2) rfl ?_); (try (refine gate_guard (by rfl) ?_; dsimp only)); refine box_event ?hg (N := 2) ?hd (cs := #[.slice none 0 0, .int .i64 0]) (t := 27) ?hr ?_; (case hd => rfl); (case hg => rfl); (case hr => exact qx8_19); intro gb282 hg w51 hbox hb; have n0_ := Aside0.mk (Kd.R_below qx8_2 hb); have n1_ := Aside0.mk (Kd.R_below qx8_3 hb); have n2_ := Aside0.mk (below_step qx8_0 hb); have n3_ := Aside0.mk (hbox); have n4_ := Aside0.mk ((by rw [hg]; exact (below_size qx8_0) : w.heap.size ≤ gb282)); have n5_ := Aside0.mk ((by rw [hg]; exact (below_size qx8_0) : w.heap.size ≤ gb282)); clear HO276; clear HO279; clear HB; have HO276 := n0_; have HO279 := n1_; have HB := n2_; have BK282 := n3_; have GW282 := n4_; have GE282 := n5_; clear n0_ n1_ n2_ n3_ n4_ n5_; clear hb hbox hg; obtain ⟨Ao52, co52, eo52⟩ := Kd.R_slice HO279.out; subst eo52; have hcz53_0 : w51.cell? ⟨gb282, 0, none⟩ = some (.slice none 0 0) := (blk_cell BK282.out 0).trans rfl; have hcz53_1 : w51.cell? ⟨gb282, 1, none⟩ = some (.int .i64 0) := (blk_cell BK282.out 1).trans rfl; have hfz53_0 := blk_frozen BK282.out 0; have hfz53_1 := blk_frozen BK282.out 1) | ((with_reducible refine gate_callee (f := 18) rfl ?_); refine goesL_ (some 14) rfl rfl Try.func18 (by kernel_rfl) rfl #[.slice Ao49 y274.length co49, .int .i64 2] rfl qx8_5 ?_; (with_reducible refine (segmentation_Potentials.calls k _ _ y274 2 t283 t284 _ ?side1 ?side2 A2.out).mono ?_); (case side1 => refine (Kd.R_reads' (e := 3) (base := w.heap.size) (ok := fun k_ => (True ∧ some k_ ≠ (.slice Ao52 t277.length co52 : Value).ownBlock)) (n := y274.length) (c := co49) ?_).2.2; exact qx8_14); (case side2 => exact qx8_35); rintro e w54 ⟨v285, rfl, ho0, hb⟩; refine ⟨_, rfl, ?_⟩; have n0_ := Aside0.mk (Kd.R_elder' qx8_14 (Kd.R_base ho0) hb); have n1_ := Aside0.mk (Kd.R_elder' qx8_26 (Kd.R_base ho0) hb); have n2_ := Aside0.mk (Kd.R_lower (Kd.R_new' (Kd.R_new' ho0 (Kd.R_lt qx8_14)) (Kd.R_lt qx8_26)) (below_size qx8_1)); have n3_ := Aside0.mk (blk_below (g := gb282) (o := .cells #[.slice Ao52 t277.length co52, .int .i64 t280] 27 (0, 0)) (by (with_reducible repeat (first | refine blk_drewN ?_ _ | refine blk_drew ?_ | refine blk_alloc ?_ _)); refine blk_put (cs := #[.slice Ao52 t277.length co52, .int .i64 0]) ?_ 1 _ rfl; (with_reducible repeat (first | refine blk_drewN ?_ _ | refine blk_drew ?_ | refine blk_alloc ?_ _)); refine blk_put (cs := #[.slice none 0 0, .int .i64 0]) ?_ 0 _ rfl; (with_reducible repeat (first | refine blk_drewN ?_ _ | refine blk_drew ?_ | refine blk_alloc ?_ _)); exact BK282.out) hb); have n4_ := Aside0.mk (below_step qx8_1 hb); clear HO276; clear HO279; clear BK282; clear HB; have HO276 := n0_; have HO279 := n1_; have HO286 := n2_; have BK282 := n3_; have HB := n4_; clear n0_ n1_ n2_ n3_ n4_; (try clear hb); (try clear hb2); (try clear hk); (try clear hi); (try clear ho0); have hcz55_0 : w54.cell? ⟨gb282, 0, none⟩ = some (.slice Ao52 t277.length co52) := (blk_cell BK282.out 0).trans rfl; have hcz55_1 : w54.cell? ⟨gb282, 1, none⟩ = some (.int .i64 t280) := (blk_cell BK282.out 1).trans rfl; have hfz55_0 := blk_frozen BK282.out 0; have hfz55_1 := blk_frozen BK282.out 1) | ((with_reducible refine gate_dst (N := 22) rfl ?_); (try (refine gate_guard (by rfl) ?_; dsimp only)); refine Kd.R_lit (Kd.int .i64) _ 3 ?hg (N := 22) ?hd (xs := ([2] : List Int)) (inner := [.int .i64 2]) (ok := fun _ => True) (okp := fun _ => True) ?hr ?hp (fun _ hk => hk) trivial (Below.refl _ _) (Nat.le_refl _) (by simp) ?_; (case hd => rfl); (case hg => rfl); (case hr => exact qx8_19); (case hp => exact qx8_33); intro v288 w56 ho57 hb hg_ hnew_; clear hg_ hnew_; (first | rw [← Ny287.out] at ho57 | (simp only [Int.reduceToNat] at ho57; rw [← Ny287.out] at ho57)); have n0_ := Aside0.mk (Kd.R_elder' qx8_2 (Kd.R_base ho57) hb); have n1_ := Aside0.mk (Kd.R_elder' qx8_3 (Kd.R_base ho57) hb); have n2_ := Aside0.mk (Kd.R_elder' qx8_6 (Kd.R_base ho57) hb); have n3_ := Aside0.mk (Kd.R_lower (Kd.R_new' (Kd.R_new' (Kd.R_new' ho57 (Kd.R_lt qx8_2)) (Kd.R_lt qx8_3)) (Kd.R_lt qx8_6)) (below_size qx8_1)); have n4_ := Aside0.mk (blk_below (g := gb282) (o := .cells #[.slice Ao52 t277.length co52, .int .i64 t280] 27 (0, 0)) qx8_10 hb); have n5_ := Aside0.mk (below_step qx8_1 hb); clear HO276; clear HO279; clear HO286; clear BK282; clear HB; have HO276 := n0_; have HO279 := n1_; have HO286 := n2_; have HO289 := n3_; have BK282 := n4_; have HB := n5_; clear n0_ n1_ n2_ n3_ n4_ n5_; clear hb ho57; obtain ⟨Ao58, co58, eo58⟩ := Kd.R_slice HO289.out; subst eo58) | (go_at_call 17; (with_reducible refine (sleuthlaw44_same.calls k _ _ t277 _ _ y287 true _ ?side1 ?side2 ?side3 ?side4 A4.out).mono ?_); (case side1 => exact qx8_11); (case side2 => exact (Kd.R_reads' HO279.out).2.1); (case side3 => exact qx8_18); (case side4 => exact (Kd.R_reads' HO289.out).2.1); rintro e w' ⟨rfl, ⟨nd, rfl⟩⟩; have hcz59_0 : w56.cell? ⟨gb282, 0, none⟩ = some (.slice Ao52 t277.length co52) := (blk_cell BK282.out 0).trans rfl; have hcz59_1 : w56.cell? ⟨gb282, 1, none⟩ = some (.int .i64 t280) := (blk_cell BK282.out 1).trans rfl; have hfz59_0 := blk_frozen BK282.out 0; have hfz59_1 := blk_frozen BK282.out 1))
     go_ret
     exact ⟨qx8_7, qx8_1⟩
   ·rw [if_neg c6] at H
    have c6b0 : (t280 == 2) = false := beq_eq_false_iff_ne.mpr c6
    have c6b1 : (t280 != 2) = true := bne_iff_ne.mpr c6
    obtain rfl := Option.some.inj H
    go_enter Try.func13, Try.ntmps13
    go_wp2_with (first | ((with_reducible refine gate_dst (N := 6) rfl ?_); (try (refine gate_guard (by rfl) ?_; dsimp only)); refine Kd.R_lit (Kd.int .i64) _ 3 ?hg (N := 6) ?hd (xs := ([1, 1, 5, 5, 5] : List Int)) (inner := [.int .i64 1, .int .i64 1, .int .i64 5, .int .i64 5, .int .i64 5]) (ok := fun _ => True) (okp := fun _ => True) ?hr ?hp (fun _ hk => hk) trivial (Below.refl _ _) (Nat.le_refl _) (by simp) ?_; (case hd => rfl); (case hg => rfl); (case hr => exact qx8_19); (case hp => exact qx8_4); intro v275 w60 ho61 hb hg_ hnew_; clear hg_ hnew_; (first | rw [← Ny274.out] at ho61 | (simp only [Int.reduceToNat] at ho61; rw [← Ny274.out] at ho61)); have n0_ := Aside0.mk (Kd.R_lower ho61 (below_size qx8_0)); have n1_ := Aside0.mk (below_step qx8_0 hb); clear HB; have HO276 := n0_; have HB := n1_; clear n0_ n1_; clear hb ho61; obtain ⟨Ao62, co62, eo62⟩ := Kd.R_slice HO276.out; subst eo62) | ((with_reducible refine gate_callee (f := 15) rfl ?_); refine goesL_ (some 9) rfl rfl Try.func15 (by kernel_rfl) rfl #[.slice Ao62 y274.length co62, .int .i64 2] rfl qx8_5 ?_; (with_reducible refine (segmentation_Best.calls k _ _ y274 2 t277 t280 t281 _ ?side1 ?side2 A1.out).mono ?_); (case side1 => exact qx8_8); (case side2 => exact qx8_35); rintro e w63 ⟨v278, rfl, ho0, hb⟩; refine ⟨_, rfl, ?_⟩; have n0_ := Aside0.mk (Kd.R_elder' qx8_2 (Kd.R_base ho0) hb); have n1_ := Aside0.mk (Kd.R_lower (Kd.R_new' ho0 (Kd.R_lt qx8_2)) (below_size qx8_0)); have n2_ := Aside0.mk (below_step qx8_0 hb); clear HO276; clear HB; have HO276 := n0_; have HO279 := n1_; have HB := n2_; clear n0_ n1_ n2_; (try clear hb); (try clear hb2); (try clear hk); (try clear hi); (try clear ho0)) | ((with_reducible refine gate_dst (N := 2) rfl ?_); (try (refine gate_guard (by rfl) ?_; dsimp only)); refine box_event ?hg (N := 2) ?hd (cs := #[.slice none 0 0, .int .i64 0]) (t := 27) ?hr ?_; (case hd => rfl); (case hg => rfl); (case hr => exact qx8_19); intro gb282 hg w64 hbox hb; have n0_ := Aside0.mk (Kd.R_below qx8_2 hb); have n1_ := Aside0.mk (Kd.R_below qx8_3 hb); have n2_ := Aside0.mk (below_step qx8_0 hb); have n3_ := Aside0.mk (hbox); have n4_ := Aside0.mk ((by rw [hg]; exact (below_size qx8_0) : w.heap.size ≤ gb282)); have n5_ := Aside0.mk ((by rw [hg]; exact (below_size qx8_0) : w.heap.size ≤ gb282)); clear HO276; clear HO279; clear HB; have HO276 := n0_; have HO279 := n1_; have HB := n2_; have BK282 := n3_; have GW282 := n4_; have GE282 := n5_; clear n0_ n1_ n2_ n3_ n4_ n5_; clear hb hbox hg; obtain ⟨Ao65, co65, eo65⟩ := Kd.R_slice HO279.out; subst eo65; have hcz66_0 : w64.cell? ⟨gb282, 0, none⟩ = some (.slice none 0 0) := (blk_cell BK282.out 0).trans rfl; have hcz66_1 : w64.cell? ⟨gb282, 1, none⟩ = some (.int .i64 0) := (blk_cell BK282.out 1).trans rfl; have hfz66_0 := blk_frozen BK282.out 0; have hfz66_1 := blk_frozen BK282.out 1) | ((with_reducible refine gate_callee (f := 18) rfl ?_); refine goesL_ (some 14) rfl rfl Try.func18 (by kernel_rfl) rfl #[.slice Ao62 y274.length co62, .int .i64 2] rfl qx8_5 ?_; (with_reducible refine (segmentation_Potentials.calls k _ _ y274 2 t283 t284 _ ?side1 ?side2 A2.out).mono ?_); (case side1 => refine (Kd.R_reads' (e := 3) (base := w.heap.size) (ok := fun k_ => (True ∧ some k_ ≠ (.slice Ao65 t277.length co65 : Value).ownBlock)) (n := y274.length) (c := co62) ?_).2.2; exact qx8_15); (case side2 => exact qx8_35); rintro e w67 ⟨v285, rfl, ho0, hb⟩; refine ⟨_, rfl, ?_⟩; have n0_ := Aside0.mk (Kd.R_elder' qx8_15 (Kd.R_base ho0) hb); have n1_ := Aside0.mk (Kd.R_elder' qx8_27 (Kd.R_base ho0) hb); have n2_ := Aside0.mk (Kd.R_lower (Kd.R_new' (Kd.R_new' ho0 (Kd.R_lt qx8_15)) (Kd.R_lt qx8_27)) (below_size qx8_1)); have n3_ := Aside0.mk (blk_below (g := gb282) (o := .cells #[.slice Ao65 t277.length co65, .int .i64 t280] 27 (0, 0)) (by (with_reducible repeat (first | refine blk_drewN ?_ _ | refine blk_drew ?_ | refine blk_alloc ?_ _)); refine blk_put (cs := #[.slice Ao65 t277.length co65, .int .i64 0]) ?_ 1 _ rfl; (with_reducible repeat (first | refine blk_drewN ?_ _ | refine blk_drew ?_ | refine blk_alloc ?_ _)); refine blk_put (cs := #[.slice none 0 0, .int .i64 0]) ?_ 0 _ rfl; (with_reducible repeat (first | refine blk_drewN ?_ _ | refine blk_drew ?_ | refine blk_alloc ?_ _)); exact BK282.out) hb); have n4_ := Aside0.mk (below_step qx8_1 hb); clear HO276; clear HO279; clear BK282; clear HB; have HO276 := n0_; have HO279 := n1_; have HO286 := n2_; have BK282 := n3_; have HB := n4_; clear n0_ n1_ n2_ n3_ n4_; (try clear hb); (try clear hb2); (try clear hk); (try clear hi); (try clear ho0); have hcz68_0 : w67.cell? ⟨gb282, 0, none⟩ = some (.slice Ao65 t277.length co65) := (blk_cell BK282.out 0).trans rfl; have hcz68_1 : w67.cell? ⟨gb282, 1, none⟩ = some (.int .i64 t280) := (blk_cell BK282.out 1).trans rfl; have hfz68_0 := blk_frozen BK282.out 0; have hfz68_1 := blk_frozen BK282.out 1) | ((with_reducible refine gate_dst (N := 22) rfl ?_); (try (refine gate_guard (by rfl) ?_; dsimp only)); refine Kd.R_lit (Kd.int .i64) _ 3 ?hg (N := 22) ?hd (xs := ([2] : List Int)) (inner := [.int .i64 2]) (ok := fun _ => True) (okp := fun _ => True) ?hr ?hp (fun _ hk => hk) trivial (Below.refl _ _) (Nat.le_refl _) (by simp) ?_; (case hd => rfl); (case hg => rfl); (case hr => exact qx8_19); (case hp => exact qx8_33); intro v288 w69 ho70 hb hg_ hnew_; clear hg_ hnew_; (first | rw [← Ny287.out] at ho70 | (simp only [Int.reduceToNat] at ho70; rw [← Ny287.out] at ho70)); have n0_ := Aside0.mk (Kd.R_elder' qx8_2 (Kd.R_base ho70) hb); have n1_ := Aside0.mk (Kd.R_elder' qx8_3 (Kd.R_base ho70) hb); have n2_ := Aside0.mk (Kd.R_elder' qx8_6 (Kd.R_base ho70) hb); have n3_ := Aside0.mk (Kd.R_lower (Kd.R_new' (Kd.R_new' (Kd.R_new' ho70 (Kd.R_lt qx8_2)) (Kd.R_lt qx8_3)) (Kd.R_lt qx8_6)) (below_size qx8_1)); have n4_ := Aside0.mk (blk_below (g := gb282) (o := .cells #[.slice Ao65 t277.length co65, .int .i64 t280] 27 (0, 0)) qx8_10 hb); have n5_ := Aside0.mk (below_step qx8_1 hb); clear HO276; clear HO279; clear HO286; clear BK282; clear HB; have HO276 := n0_; have HO279 := n1_; have HO286 := n2_; have HO289 := n3_; have BK282 := n4_; have HB := n5_; clear n0_ n1_ n2_ n3_ n4_ n5_; clear hb ho70; obtain ⟨Ao71, co71, eo71⟩ := Kd.R_slice HO289.out; subst eo71) | (go_at_call 17; (with_reducible refine (sleuthlaw44_same.calls k _ _ t277 _ _ y287 true _ ?side1 ?side2 ?side3 ?side4 A4.out).mono ?_); (case side1 => exact qx8_11); (case side2 => exact (Kd.R_reads' HO279.out).2.1); (case side3 => exact qx8_18); (case side4 => exact (Kd.R_reads' HO289.out).2.1); rintro e w' ⟨rfl, ⟨nd, rfl⟩⟩; have hcz72_0 : w69.cell? ⟨gb282, 0, none⟩ = some (.slice Ao65 t277.length co65) := (blk_cell BK282.out 0).trans rfl; have hcz72_1 : w69.cell? ⟨gb282, 1, none⟩ = some (.int .i64 t280) := (blk_cell BK282.out 1).trans rfl; have hfz72_0 := blk_frozen BK282.out 0; have hfz72_1 := blk_frozen BK282.out 1))
    go_ret
    exact ⟨qx8_7, qx8_1⟩
  ·replace c5 := Bool.eq_false_iff.mpr c5
   subst c5
   have H1 : (some false) = some r := by rw [if_neg (show ¬ (false = true) by decide)] at H; exact H
   clear H
   have H := H1
   clear H1
   obtain rfl := Option.some.inj H
   go_enter Try.func13, Try.ntmps13
   go_wp2_with (first | ((with_reducible refine gate_dst (N := 6) rfl ?_); (try (refine gate_guard (by rfl) ?_; dsimp only)); refine Kd.R_lit (Kd.int .i64) _ 3 ?hg (N := 6) ?hd (xs := ([1, 1, 5, 5, 5] : List Int)) (inner := [.int .i64 1, .int .i64 1, .int .i64 5, .int .i64 5, .int .i64 5]) (ok := fun _ => True) (okp := fun _ => True) ?hr ?hp (fun _ hk => hk) trivial (Below.refl _ _) (Nat.le_refl _) (by simp) ?_; (case hd => rfl); (case hg => rfl); (case hr => exact qx8_19); (case hp => exact qx8_4); intro v275 w73 ho74 hb hg_ hnew_; clear hg_ hnew_; (first | rw [← Ny274.out] at ho74 | (simp only [Int.reduceToNat] at ho74; rw [← Ny274.out] at ho74)); have n0_ := Aside0.mk (Kd.R_lower ho74 (below_size qx8_0)); have n1_ := Aside0.mk (below_step qx8_0 hb); clear HB; have HO276 := n0_; have HB := n1_; clear n0_ n1_; clear hb ho74; obtain ⟨Ao75, co75, eo75⟩ := Kd.R_slice HO276.out; subst eo75) | ((with_reducible refine gate_callee (f := 15) rfl ?_); refine goesL_ (some 9) rfl rfl Try.func15 (by kernel_rfl) rfl #[.slice Ao75 y274.length co75, .int .i64 2] rfl qx8_5 ?_; (with_reducible refine (segmentation_Best.calls k _ _ y274 2 t277 t280 t281 _ ?side1 ?side2 A1.out).mono ?_); (case side1 => exact qx8_8); (case side2 => exact qx8_35); rintro e w76 ⟨v278, rfl, ho0, hb⟩; refine ⟨_, rfl, ?_⟩; have n0_ := Aside0.mk (Kd.R_elder' qx8_2 (Kd.R_base ho0) hb); have n1_ := Aside0.mk (Kd.R_lower (Kd.R_new' ho0 (Kd.R_lt qx8_2)) (below_size qx8_0)); have n2_ := Aside0.mk (below_step qx8_0 hb); clear HO276; clear HB; have HO276 := n0_; have HO279 := n1_; have HB := n2_; clear n0_ n1_ n2_; (try clear hb); (try clear hb2); (try clear hk); (try clear hi); (try clear ho0)) | ((with_reducible refine gate_dst (N := 2) rfl ?_); (try (refine gate_guard (by rfl) ?_; dsimp only)); refine box_event ?hg (N := 2) ?hd (cs := #[.slice none 0 0, .int .i64 0]) (t := 27) ?hr ?_; (case hd => rfl); (case hg => rfl); (case hr => exact qx8_19); intro gb282 hg w77 hbox hb; have n0_ := Aside0.mk (Kd.R_below qx8_2 hb); have n1_ := Aside0.mk (Kd.R_below qx8_3 hb); have n2_ := Aside0.mk (below_step qx8_0 hb); have n3_ := Aside0.mk (hbox); have n4_ := Aside0.mk ((by rw [hg]; exact (below_size qx8_0) : w.heap.size ≤ gb282)); have n5_ := Aside0.mk ((by rw [hg]; exact (below_size qx8_0) : w.heap.size ≤ gb282)); clear HO276; clear HO279; clear HB; have HO276 := n0_; have HO279 := n1_; have HB := n2_; have BK282 := n3_; have GW282 := n4_; have GE282 := n5_; clear n0_ n1_ n2_ n3_ n4_ n5_; clear hb hbox hg; obtain ⟨Ao78, co78, eo78⟩ := Kd.R_slice HO279.out; subst eo78; have hcz79_0 : w77.cell? ⟨gb282, 0, none⟩ = some (.slice none 0 0) := (blk_cell BK282.out 0).trans rfl; have hcz79_1 : w77.cell? ⟨gb282, 1, none⟩ = some (.int .i64 0) := (blk_cell BK282.out 1).trans rfl; have hfz79_0 := blk_frozen BK282.out 0; have hfz79_1 := blk_frozen BK282.out 1) | ((with_reducible refine gate_callee (f := 18) rfl ?_); refine goesL_ (some 14) rfl rfl Try.func18 (by kernel_rfl) rfl #[.slice Ao75 y274.length co75, .int .i64 2] rfl qx8_5 ?_; (with_reducible refine (segmentation_Potentials.calls k _ _ y274 2 t283 t284 _ ?side1 ?side2 A2.out).mono ?_); (case side1 => refine (Kd.R_reads' (e := 3) (base := w.heap.size) (ok := fun k_ => (True ∧ some k_ ≠ (.slice Ao78 t277.length co78 : Value).ownBlock)) (n := y274.length) (c := co75) ?_).2.2; exact qx8_16); (case side2 => exact qx8_35); rintro e w80 ⟨v285, rfl, ho0, hb⟩; refine ⟨_, rfl, ?_⟩; have n0_ := Aside0.mk (Kd.R_elder' qx8_16 (Kd.R_base ho0) hb); have n1_ := Aside0.mk (Kd.R_elder' qx8_28 (Kd.R_base ho0) hb); have n2_ := Aside0.mk (Kd.R_lower (Kd.R_new' (Kd.R_new' ho0 (Kd.R_lt qx8_16)) (Kd.R_lt qx8_28)) (below_size qx8_1)); have n3_ := Aside0.mk (blk_below (g := gb282) (o := .cells #[.slice Ao78 t277.length co78, .int .i64 t280] 27 (0, 0)) (by (with_reducible repeat (first | refine blk_drewN ?_ _ | refine blk_drew ?_ | refine blk_alloc ?_ _)); refine blk_put (cs := #[.slice Ao78 t277.length co78, .int .i64 0]) ?_ 1 _ rfl; (with_reducible repeat (first | refine blk_drewN ?_ _ | refine blk_drew ?_ | refine blk_alloc ?_ _)); refine blk_put (cs := #[.slice none 0 0, .int .i64 0]) ?_ 0 _ rfl; (with_reducible repeat (first | refine blk_drewN ?_ _ | refine blk_drew ?_ | refine blk_alloc ?_ _)); exact BK282.out) hb); have n4_ := Aside0.mk (below_step qx8_1 hb); clear HO276; clear HO279; clear BK282; clear HB; have HO276 := n0_; have HO279 := n1_; have HO286 := n2_; have BK282 := n3_; have HB := n4_; clear n0_ n1_ n2_ n3_ n4_; (try clear hb); (try clear hb2); (try clear hk); (try clear hi); (try clear ho0); have hcz81_0 : w80.cell? ⟨gb282, 0, none⟩ = some (.slice Ao78 t277.length co78) := (blk_cell BK282.out 0).trans rfl; have hcz81_1 : w80.cell? ⟨gb282, 1, none⟩ = some (.int .i64 t280) := (blk_cell BK282.out 1).trans rfl; have hfz81_0 := blk_frozen BK282.out 0; have hfz81_1 := blk_frozen BK282.out 1) | ((with_reducible refine gate_dst (N := 22) rfl ?_); (try (refine gate_guard (by rfl) ?_; dsimp only)); refine Kd.R_lit (Kd.int .i64) _ 3 ?hg (N := 22) ?hd (xs := ([2] : List Int)) (inner := [.int .i64 2]) (ok := fun _ => True) (okp := fun _ => True) ?hr ?hp (fun _ hk => hk) trivial (Below.refl _ _) (Nat.le_refl _) (by simp) ?_; (case hd => rfl); (case hg => rfl); (case hr => exact qx8_19); (case hp => exact qx8_33); intro v288 w82 ho83 hb hg_ hnew_; clear hg_ hnew_; (first | rw [← Ny287.out] at ho83 | (simp only [Int.reduceToNat] at ho83; rw [← Ny287.out] at ho83)); have n0_ := Aside0.mk (Kd.R_elder' qx8_2 (Kd.R_base ho83) hb); have n1_ := Aside0.mk (Kd.R_elder' qx8_3 (Kd.R_base ho83) hb); have n2_ := Aside0.mk (Kd.R_elder' qx8_6 (Kd.R_base ho83) hb); have n3_ := Aside0.mk (Kd.R_lower (Kd.R_new' (Kd.R_new' (Kd.R_new' ho83 (Kd.R_lt qx8_2)) (Kd.R_lt qx8_3)) (Kd.R_lt qx8_6)) (below_size qx8_1)); have n4_ := Aside0.mk (blk_below (g := gb282) (o := .cells #[.slice Ao78 t277.length co78, .int .i64 t280] 27 (0, 0)) qx8_10 hb); have n5_ := Aside0.mk (below_step qx8_1 hb); clear HO276; clear HO279; clear HO286; clear BK282; clear HB; have HO276 := n0_; have HO279 := n1_; have HO286 := n2_; have HO289 := n3_; have BK282 := n4_; have HB := n5_; clear n0_ n1_ n2_ n3_ n4_ n5_; clear hb ho83; obtain ⟨Ao84, co84, eo84⟩ := Kd.R_slice HO289.out; subst eo84) | (go_at_call 17; (with_reducible refine (sleuthlaw44_same.calls k _ _ t277 _ _ y287 false _ ?side1 ?side2 ?side3 ?side4 A4.out).mono ?_); (case side1 => exact qx8_11); (case side2 => exact (Kd.R_reads' HO279.out).2.1); (case side3 => exact qx8_18); (case side4 => exact (Kd.R_reads' HO289.out).2.1); rintro e w' ⟨rfl, ⟨nd, rfl⟩⟩))
   go_ret
   exact ⟨qx8_7, qx8_1⟩
 ·rw [if_neg c3] at H
  have c3b0 : (t281 == 0) = false := beq_eq_false_iff_ne.mpr c3
  have c3b1 : (t281 != 0) = true := bne_iff_ne.mpr c3
  obtain rfl := Option.some.inj H
  go_enter Try.func13, Try.ntmps13
  go_wp2_with (first | ((with_reducible refine gate_dst (N := 6) rfl ?_); (try (refine gate_guard (by rfl) ?_; dsimp only)); refine Kd.R_lit (Kd.int .i64) _ 3 ?hg (N := 6) ?hd (xs := ([1, 1, 5, 5, 5] : List Int)) (inner := [.int .i64 1, .int .i64 1, .int .i64 5, .int .i64 5, .int .i64 5]) (ok := fun _ => True) (okp := fun _ => True) ?hr ?hp (fun _ hk => hk) trivial (Below.refl _ _) (Nat.le_refl _) (by simp) ?_; (case hd => rfl); (case hg => rfl); (case hr => exact qx8_19); (case hp => exact qx8_4); intro v275 w85 ho86 hb hg_ hnew_; clear hg_ hnew_; (first | rw [← Ny274.out] at ho86 | (simp only [Int.reduceToNat] at ho86; rw [← Ny274.out] at ho86)); have n0_ := Aside0.mk (Kd.R_lower ho86 (below_size qx8_0)); have n1_ := Aside0.mk (below_step qx8_0 hb); clear HB; have HO276 := n0_; have HB := n1_; clear n0_ n1_; clear hb ho86; obtain ⟨Ao87, co87, eo87⟩ := Kd.R_slice HO276.out; subst eo87) | ((with_reducible refine gate_callee (f := 15) rfl ?_); refine goesL_ (some 9) rfl rfl Try.func15 (by kernel_rfl) rfl #[.slice Ao87 y274.length co87, .int .i64 2] rfl qx8_5 ?_; (with_reducible refine (segmentation_Best.calls k _ _ y274 2 t277 t280 t281 _ ?side1 ?side2 A1.out).mono ?_); (case side1 => exact qx8_8); (case side2 => exact qx8_35); rintro e w88 ⟨v278, rfl, ho0, hb⟩; refine ⟨_, rfl, ?_⟩; have n0_ := Aside0.mk (Kd.R_elder' qx8_2 (Kd.R_base ho0) hb); have n1_ := Aside0.mk (Kd.R_lower (Kd.R_new' ho0 (Kd.R_lt qx8_2)) (below_size qx8_0)); have n2_ := Aside0.mk (below_step qx8_0 hb); clear HO276; clear HB; have HO276 := n0_; have HO279 := n1_; have HB := n2_; clear n0_ n1_ n2_; (try clear hb); (try clear hb2); (try clear hk); (try clear hi); (try clear ho0)) | ((with_reducible refine gate_dst (N := 2) rfl ?_); (try (refine gate_guard (by rfl) ?_; dsimp only)); refine box_event ?hg (N := 2) ?hd (cs := #[.slice none 0 0, .int .i64 0]) (t := 27) ?hr ?_; (case hd => rfl); (case hg => rfl); (case hr => exact qx8_19); intro gb282 hg w89 hbox hb; have n0_ := Aside0.mk (Kd.R_below qx8_2 hb); have n1_ := Aside0.mk (Kd.R_below qx8_3 hb); have n2_ := Aside0.mk (below_step qx8_0 hb); have n3_ := Aside0.mk (hbox); have n4_ := Aside0.mk ((by rw [hg]; exact (below_size qx8_0) : w.heap.size ≤ gb282)); have n5_ := Aside0.mk ((by rw [hg]; exact (below_size qx8_0) : w.heap.size ≤ gb282)); clear HO276; clear HO279; clear HB; have HO276 := n0_; have HO279 := n1_; have HB := n2_; have BK282 := n3_; have GW282 := n4_; have GE282 := n5_; clear n0_ n1_ n2_ n3_ n4_ n5_; clear hb hbox hg; obtain ⟨Ao90, co90, eo90⟩ := Kd.R_slice HO279.out; subst eo90; have hcz91_0 : w89.cell? ⟨gb282, 0, none⟩ = some (.slice none 0 0) := (blk_cell BK282.out 0).trans rfl; have hcz91_1 : w89.cell? ⟨gb282, 1, none⟩ = some (.int .i64 0) := (blk_cell BK282.out 1).trans rfl; have hfz91_0 := blk_frozen BK282.out 0; have hfz91_1 := blk_frozen BK282.out 1) | ((with_reducible refine gate_callee (f := 18) rfl ?_); refine goesL_ (some 14) rfl rfl Try.func18 (by kernel_rfl) rfl #[.slice Ao87 y274.length co87, .int .i64 2] rfl qx8_5 ?_; (with_reducible refine (segmentation_Potentials.calls k _ _ y274 2 t283 t284 _ ?side1 ?side2 A2.out).mono ?_); (case side1 => refine (Kd.R_reads' (e := 3) (base := w.heap.size) (ok := fun k_ => (True ∧ some k_ ≠ (.slice Ao90 t277.length co90 : Value).ownBlock)) (n := y274.length) (c := co87) ?_).2.2; exact qx8_17); (case side2 => exact qx8_35); rintro e w92 ⟨v285, rfl, ho0, hb⟩; refine ⟨_, rfl, ?_⟩; have n0_ := Aside0.mk (Kd.R_elder' qx8_17 (Kd.R_base ho0) hb); have n1_ := Aside0.mk (Kd.R_elder' qx8_29 (Kd.R_base ho0) hb); have n2_ := Aside0.mk (Kd.R_lower (Kd.R_new' (Kd.R_new' ho0 (Kd.R_lt qx8_17)) (Kd.R_lt qx8_29)) (below_size qx8_1)); have n3_ := Aside0.mk (blk_below (g := gb282) (o := .cells #[.slice Ao90 t277.length co90, .int .i64 t280] 27 (0, 0)) (by (with_reducible repeat (first | refine blk_drewN ?_ _ | refine blk_drew ?_ | refine blk_alloc ?_ _)); refine blk_put (cs := #[.slice Ao90 t277.length co90, .int .i64 0]) ?_ 1 _ rfl; (with_reducible repeat (first | refine blk_drewN ?_ _ | refine blk_drew ?_ | refine blk_alloc ?_ _)); refine blk_put (cs := #[.slice none 0 0, .int .i64 0]) ?_ 0 _ rfl; (with_reducible repeat (first | refine blk_drewN ?_ _ | refine blk_drew ?_ | refine blk_alloc ?_ _)); exact BK282.out) hb); have n4_ := Aside0.mk (below_step qx8_1 hb); clear HO276; clear HO279; clear BK282; clear HB; have HO276 := n0_; have HO279 := n1_; have HO286 := n2_; have BK282 := n3_; have HB := n4_; clear n0_ n1_ n2_ n3_ n4_; (try clear hb); (try clear hb2); (try clear hk); (try clear hi); (try clear ho0)))
  go_ret
  exact ⟨qx8_7, qx8_1⟩

/-! ### sleuthlaw44_points: function 14 -/
def sleuthlaw44_points.l0 : Nat → List Int → List Int → Int → Option (List Int)
 | 0, _, _, _ => none
 | k + 1, x0, x3, x4 => if x4 < (x0.length : Int) then (if x4 < 9 then (if 0 ≤ x4 then (if x3.length < 17592186044416 then (sleuthlaw44_points.l0 k x0 (x3 ++ [wrap64 ((wrap64 (Int.tmod (rd x0 x4) 32)) - 8)]) (wrap64 (x4 + 1))) else (none)) else (none)) else (if (x3.length : Int) = 0 then (if x3.length < 17592186044416 then (some (x3 ++ [3])) else (none)) else (some x3))) else (if (x3.length : Int) = 0 then (if x3.length < 17592186044416 then (some (x3 ++ [3])) else (none)) else (some x3))
def sleuthlaw44_points.f (k : Nat) (l0 : List Int) : Option (List Int) := sleuthlaw44_points.l0 k l0 (([] : List Int)) 0
theorem sleuthlaw44_points.mono_l : ∀ k, (∀ y0 y1 y2, LeO (sleuthlaw44_points.l0 k y0 y1 y2) (sleuthlaw44_points.l0 (k + 1) y0 y1 y2))
 | 0 => fun _ _ _ r h => by simp [sleuthlaw44_points.l0] at h
 | k + 1 => by
  have ih0 := sleuthlaw44_points.mono_l k
  ·intro y0 y1 y2
   unfold sleuthlaw44_points.l0
   repeat' first
   | (with_reducible exact ih0 _ _ _)
   | (with_reducible exact LeO.refl _)
   | (with_reducible exact LeO.none _)
   | (with_reducible refine LeO.ite ?_ ?_)
   | (with_reducible refine LeO.bind ?_ (fun _ => ?_))
   | exact ih0 _ _ _
   | exact LeO.none _
   | refine LeO.ite ?_ ?_
   | refine LeO.bind ?_ (fun _ => ?_)
theorem sleuthlaw44_points.mono : ∀ a0 k, LeO (sleuthlaw44_points.f k a0) (sleuthlaw44_points.f (k + 1) a0) := by
 intro a0 k
 have ih0 := sleuthlaw44_points.mono_l k
 unfold sleuthlaw44_points.f
 repeat' first
   | (with_reducible exact ih0 _ _ _)
   | (with_reducible exact LeO.refl _)
   | (with_reducible exact LeO.none _)
   | (with_reducible refine LeO.ite ?_ ?_)
   | (with_reducible refine LeO.bind ?_ (fun _ => ?_))
   | exact ih0 _ _ _
   | exact LeO.none _
   | refine LeO.ite ?_ ?_
   | refine LeO.bind ?_ (fun _ => ?_)
set_option maxHeartbeats 8000000 in
set_option maxRecDepth 100000 in
theorem sleuthlaw44_points.calls (k : Nat) (A0 : Option Addr) (c0 : Nat) (l0 : List Int) (r : List Int) (w : World) (hr0 : Kd.C (Kd.int .u8) w A0 l0.length l0) (hc0 : l0.length ≤ c0) (h : sleuthlaw44_points.f k l0 = some r) :
  Calls Try.prog 14 #[.slice A0 l0.length c0] w fun e w' => ∃ v0_ : Value, e = .returned (v0_) ∧ Kd.R (Kd.int .i64) 3 w' w.heap.size (fun _ => True) v0_ r ∧ Below w.heap.size w w' := by
 have HR0 := Aside0.mk hr0
 have HC0 := Aside0.mk hc0
 clear hr0 hc0
 have HB := Aside0.mk (Below.refl w.heap.size w)
 have H : (sleuthlaw44_points.l0 k l0 (([] : List Int)) 0) = some r := h
 clear h
 obtain ⟨y296, hy296⟩ : ∃ y_ : List Int, y_ = (([] : List Int)) := ⟨_, rfl⟩
 replace H : (sleuthlaw44_points.l0 k l0 y296 0) = some r := by first | (rw [hy296]; with_reducible exact H) | (have H2_ := (Option.bind_some _ _).symm.trans H; rw [hy296]; with_reducible exact H2_) | (have H2_ := (Option.bind_some _ _).symm.trans H; with_reducible exact H2_) | with_reducible exact H | (rw [hy296]; exact H) | exact H
 have Ny296 := Aside0.mk hy296
 clear hy296
 have H' := Aside0.mk H
 clear H
 go_enter Try.func14, Try.ntmps14
 go_wp2_with (first | ((with_reducible refine gate_dst (N := 5) rfl ?_); refine Kd.R_lit (Kd.int .i64) _ 3 ?hg (N := 5) ?hd (xs := ([] : List Int)) (inner := []) (ok := fun _ => True) (okp := fun _ => True) ?hr ?hp (fun _ hk => hk) trivial (Below.refl _ _) (Nat.le_refl _) (by simp) ?_; (case hd => rfl); (case hg => rfl); (case hr => exact qx8_19); (case hp => exact (Reps.none _ _)); intro v297 w2 ho3 hb hg_ hnew_; clear hg_ hnew_; (first | rw [← Ny296.out] at ho3 | (simp only [Int.reduceToNat] at ho3; rw [← Ny296.out] at ho3)); have n0_ := Aside0.mk (Kd.R_lower ho3 (below_size qx8_0)); have n1_ := Aside0.mk (below_step qx8_0 hb); clear HB; have HO298 := n0_; have HB := n1_; clear n0_ n1_; clear hb ho3))
 go_loopg [3, 4] k (fun kq v3 v4 w' => ∃ (x3_1 : List Int) (x4_1 : Int), v4 = .int .i64 x4_1 ∧ Aside0 (sleuthlaw44_points.l0 kq l0 x3_1 x4_1 = some r) ∧ Aside0 (kq ≤ k) ∧ Aside0 (Kd.R (Kd.int .i64) 3 w' w.heap.size (fun _ => True) v3 x3_1) ∧ Aside0 (Below w.heap.size w w'))
 case atStart => exact ⟨(y296), (0), qx8_31, H', ⟨Nat.le_refl _⟩, ⟨by (with_reducible repeat (first | apply Kd.R_alloc | apply Kd.R_drewN | apply Kd.R_drew)); exact HO298.out⟩, ⟨qx8_0⟩⟩
 case round =>
  clear H'
  try clear c1
  try clear p2
  obtain ⟨x3_1, x4_1, rfl, HA, HK1, HO_3, HB⟩ := hrel
  cases gk with
  | zero => exact absurd HA.out (by simp [sleuthlaw44_points.l0])
  | succ k1 =>
   have H := HA.out
   clear HA
   simp only [sleuthlaw44_points.l0] at H
   by_cases c4 : x4_1 < (l0.length : Int)
   ·rw [if_pos c4] at H
    have c4b0 : decide (x4_1 < (l0.length : Int)) = true := decide_eq_true c4
    clear c4
    by_cases c5 : x4_1 < 9
    ·rw [if_pos c5] at H
     have c5b0 : decide (x4_1 < 9) = true := decide_eq_true c5
     clear c5
     by_cases c6 : 0 ≤ x4_1
     ·rw [if_pos c6] at H
      have c6b0 : decide (0 ≤ x4_1) = true := decide_eq_true c6
      clear c6
      by_cases c7 : x3_1.length < 17592186044416
      ·rw [if_pos c7] at H
       have LMc7 := Aside0.mk c7
       clear c7
       obtain ⟨y300, hy300⟩ : ∃ y_ : List Int, y_ = (x3_1 ++ [wrap64 ((wrap64 (Int.tmod (rd l0 x4_1) 32)) - 8)]) := ⟨_, rfl⟩
       replace H : (sleuthlaw44_points.l0 k1 l0 y300 (wrap64 (x4_1 + 1))) = some r := by first | (rw [hy300]; with_reducible exact H) | (have H2_ := (Option.bind_some _ _).symm.trans H; rw [hy300]; with_reducible exact H2_) | (have H2_ := (Option.bind_some _ _).symm.trans H; with_reducible exact H2_) | with_reducible exact H | (rw [hy300]; exact H) | exact H
       have Ny300 := Aside0.mk hy300
       clear hy300
       have H' := Aside0.mk H
       clear H
       have p299 : 0 ≤ (x4_1 : Int) := of_decide_eq_true qx8_9
       have q299 : x4_1 < (l0.length : Int) := of_decide_eq_true qx8_9
       obtain ⟨ad299, e299, hx299_0⟩ := Kd.at_int HR0.out x4_1 p299 q299
       cases e299
       replace hx299_0 := (HB.out.cell (World.block_lt_of_cell? w _ hx299_0)).trans hx299_0
       replace p299 := eq_true p299
       replace q299 := eq_true q299
       go_wp2_with (first | ((with_reducible refine gate_builtin (b := .append) (xs := #[.tmp 16, .tmp 24]) rfl ?_); at_builtin; refine Kd.R_append (Kd.int .i64) (w0 := w) w.heap.size rfl (.tmp 16) (.tmp 24) 24 3 (.int .i64 0) 8 rfl Try.underlying24 info3 rfl (by decide) (by omega) u3 x3_1 (wrap64 ((wrap64 (Int.tmod (rd l0 x4_1) 32)) - 8)) [.int .i64 (wrap64 ((wrap64 (Int.tmod (rd l0 x4_1) 32)) - 8))] (fun _ => True) (fun _ => False) rfl rfl ?aP (fun _ hk => hk.elim) ?aF ?aO ?aB ?aS ?aL ?_; (case aP => exact rfl); (case aB => exact qx8_0); (case aF => exact (fun _ _ => trivial)); (case aO => exact qx8_22); (case aS => exact (below_size qx8_0)); (case aL => have := LMc7.out; omega); intro v301 w8 ho hb hg hat; rw [← Ny300.out] at ho; have n0_ := Aside0.mk (hb); have n1_ := Aside0.mk (ho); clear HB; clear HO_3; have HB := n0_; have HO302 := n1_; clear n0_ n1_; clear ho hb hg hat))
       go_roundg k1
       case measure => have := HK1.out; omega
       case rel => exact ⟨(y300), (wrap64 (x4_1 + 1)), qx8_31, H', ⟨by have := HK1.out; omega⟩, ⟨by (with_reducible repeat (first | apply Kd.R_alloc | apply Kd.R_drewN | apply Kd.R_drew)); exact HO302.out⟩, ⟨qx8_0⟩⟩
      ·rw [if_neg c7] at H
       exact absurd H (by simp)
     ·rw [if_neg c6] at H
      exact absurd H (by simp)
    ·rw [if_neg c5] at H
     have c5b0 : decide (x4_1 < 9) = false := decide_eq_false c5
     clear c5
     by_cases c9 : (x3_1.length : Int) = 0
     ·rw [if_pos c9] at H
      have c9b0 : ((x3_1.length : Int) == 0) = true := beq_iff_eq.mpr c9
      have c9b1 : ((x3_1.length : Int) != 0) = false := bne_eq_false_iff_eq.mpr c9
      clear c9
      by_cases c10 : x3_1.length < 17592186044416
      ·rw [if_pos c10] at H
       have LMc10 := Aside0.mk c10
       clear c10
       obtain ⟨y303, hy303⟩ : ∃ y_ : List Int, y_ = (x3_1 ++ [3]) := ⟨_, rfl⟩
       replace H : (some y303) = some r := by first | (rw [hy303]; with_reducible exact H) | (have H2_ := (Option.bind_some _ _).symm.trans H; rw [hy303]; with_reducible exact H2_) | (have H2_ := (Option.bind_some _ _).symm.trans H; with_reducible exact H2_) | with_reducible exact H | (rw [hy303]; exact H) | exact H
       have Ny303 := Aside0.mk hy303
       clear hy303
       obtain rfl := Option.some.inj H
       obtain ⟨Ao11, co11, eo11⟩ := Kd.R_slice HO_3.out
       subst eo11
       go_wp2_with (first | ((with_reducible refine gate_builtin (b := .append) (xs := #[.tmp 29, .tmp 30]) rfl ?_); at_builtin; refine Kd.R_append (Kd.int .i64) (w0 := w) w.heap.size rfl (.tmp 29) (.tmp 30) 24 3 (.int .i64 0) 8 rfl Try.underlying24 info3 rfl (by decide) (by omega) (.slice Ao11 x3_1.length co11) x3_1 3 [.int .i64 3] (fun _ => True) (fun _ => False) rfl rfl ?aP (fun _ hk => hk.elim) ?aF ?aO ?aB ?aS ?aL ?_; (case aP => exact rfl); (case aB => exact qx8_0); (case aF => exact (fun _ _ => trivial)); (case aO => exact qx8_22); (case aS => exact (below_size qx8_0)); (case aL => have := LMc10.out; omega); intro v304 w12 ho hb hg hat; rw [← Ny303.out] at ho; have n0_ := Aside0.mk (hb); have n1_ := Aside0.mk (ho); clear HB; clear HO_3; have HB := n0_; have HO305 := n1_; clear n0_ n1_; clear ho hb hg hat))
       go_ret
       exact ⟨_, qx8_7, by (with_reducible repeat (first | apply Kd.R_alloc | apply Kd.R_drewN | apply Kd.R_drew)); exact HO305.out, qx8_0⟩
      ·rw [if_neg c10] at H
       exact absurd H (by simp)
     ·rw [if_neg c9] at H
      have c9b0 : ((x3_1.length : Int) == 0) = false := beq_eq_false_iff_ne.mpr c9
      have c9b1 : ((x3_1.length : Int) != 0) = true := bne_iff_ne.mpr c9
      have c9b2 : ¬ (x3_1 = []) := fun h_ => c9 (by rw [h_]; rfl)
      obtain rfl := Option.some.inj H
      obtain ⟨Ao13, co13, eo13⟩ := Kd.R_slice HO_3.out
      subst eo13
      go_wp2
      go_ret
      exact ⟨_, qx8_7, qx8_22, qx8_0⟩
   ·rw [if_neg c4] at H
    have c4b0 : decide (x4_1 < (l0.length : Int)) = false := decide_eq_false c4
    clear c4
    by_cases c14 : (x3_1.length : Int) = 0
    ·rw [if_pos c14] at H
     have c14b0 : ((x3_1.length : Int) == 0) = true := beq_iff_eq.mpr c14
     have c14b1 : ((x3_1.length : Int) != 0) = false := bne_eq_false_iff_eq.mpr c14
     clear c14
     by_cases c15 : x3_1.length < 17592186044416
     ·rw [if_pos c15] at H
      have LMc15 := Aside0.mk c15
      clear c15
      obtain ⟨y306, hy306⟩ : ∃ y_ : List Int, y_ = (x3_1 ++ [3]) := ⟨_, rfl⟩
      replace H : (some y306) = some r := by first | (rw [hy306]; with_reducible exact H) | (have H2_ := (Option.bind_some _ _).symm.trans H; rw [hy306]; with_reducible exact H2_) | (have H2_ := (Option.bind_some _ _).symm.trans H; with_reducible exact H2_) | with_reducible exact H | (rw [hy306]; exact H) | exact H
      have Ny306 := Aside0.mk hy306
      clear hy306
      obtain rfl := Option.some.inj H
      obtain ⟨Ao16, co16, eo16⟩ := Kd.R_slice HO_3.out
      subst eo16
      go_wp2_with (first | ((with_reducible refine gate_builtin (b := .append) (xs := #[.tmp 29, .tmp 30]) rfl ?_); at_builtin; refine Kd.R_append (Kd.int .i64) (w0 := w) w.heap.size rfl (.tmp 29) (.tmp 30) 24 3 (.int .i64 0) 8 rfl Try.underlying24 info3 rfl (by decide) (by omega) (.slice Ao16 x3_1.length co16) x3_1 3 [.int .i64 3] (fun _ => True) (fun _ => False) rfl rfl ?aP (fun _ hk => hk.elim) ?aF ?aO ?aB ?aS ?aL ?_; (case aP => exact rfl); (case aB => exact qx8_0); (case aF => exact (fun _ _ => trivial)); (case aO => exact qx8_22); (case aS => exact (below_size qx8_0)); (case aL => have := LMc15.out; omega); intro v307 w17 ho hb hg hat; rw [← Ny306.out] at ho; have n0_ := Aside0.mk (hb); have n1_ := Aside0.mk (ho); clear HB; clear HO_3; have HB := n0_; have HO308 := n1_; clear n0_ n1_; clear ho hb hg hat))
      go_ret
      exact ⟨_, qx8_7, by (with_reducible repeat (first | apply Kd.R_alloc | apply Kd.R_drewN | apply Kd.R_drew)); exact HO308.out, qx8_0⟩
     ·rw [if_neg c15] at H
      exact absurd H (by simp)
    ·rw [if_neg c14] at H
     have c14b0 : ((x3_1.length : Int) == 0) = false := beq_eq_false_iff_ne.mpr c14
     have c14b1 : ((x3_1.length : Int) != 0) = true := bne_iff_ne.mpr c14
     have c14b2 : ¬ (x3_1 = []) := fun h_ => c14 (by rw [h_]; rfl)
     obtain rfl := Option.some.inj H
     obtain ⟨Ao18, co18, eo18⟩ := Kd.R_slice HO_3.out
     subst eo18
     go_wp2
     go_ret
     exact ⟨_, qx8_7, qx8_22, qx8_0⟩

/-! ### sleuthlaw44_divided: function 29 -/
mutual
def sleuthlaw44_divided.l0 : Nat → List Int → List Int → List (List Int) → Int → Int → Option ((List (List Int)) × Int)
 | 0, _, _, _, _, _ => none
 | k + 1, x0, x1, x6, x7, x8 => if x8 < (x1.length : Int) then (if 0 ≤ x8 then (if (rd x1 x8) < 1 then (sleuthlaw44_divided.j1 k x0 x1 x6 x7 x8 true) else (sleuthlaw44_divided.j1 k x0 x1 x6 x7 x8 (decide ((rd x1 x8) ≥ (x0.length : Int))))) else (none)) else (if 0 ≤ x7 then (if x7 ≤ (x0.length : Int) then (if x6.length < 5864062014805 then (some ((x6 ++ [(x0.drop (x7 : Int).toNat)]), 0)) else (none)) else (none)) else (none))
def sleuthlaw44_divided.j1 : Nat → List Int → List Int → List (List Int) → Int → Int → Bool → Option ((List (List Int)) × Int)
 | 0, _, _, _, _, _, _ => none
 | k + 1, x0, x1, x6, x7, x8, x28 => if x28 = true then (some (([] : List (List Int)), 2)) else (if 0 ≤ x8 then (if x8 < (x1.length : Int) then (if (rd x1 x8) ≤ x7 then (some (([] : List (List Int)), 8)) else (if 0 ≤ x7 then (if x7 ≤ (rd x1 x8) then (if (rd x1 x8) ≤ (x0.length : Int) then (if x6.length < 5864062014805 then (sleuthlaw44_divided.l0 k x0 x1 (x6 ++ [((x0.take ((rd x1 x8) : Int).toNat).drop (x7 : Int).toNat)]) (rd x1 x8) (wrap64 (x8 + 1))) else (none)) else (none)) else (none)) else (none))) else (none)) else (none))
end
def sleuthlaw44_divided.f (k : Nat) (l0 : List Int) (l1 : List Int) : Option ((List (List Int)) × Int) := sleuthlaw44_divided.l0 k l0 l1 ([] : List (List Int)) 0 0
theorem sleuthlaw44_divided.mono_l : ∀ k, (∀ y0 y1 y2 y3 y4, LeO (sleuthlaw44_divided.l0 k y0 y1 y2 y3 y4) (sleuthlaw44_divided.l0 (k + 1) y0 y1 y2 y3 y4)) ∧ (∀ y0 y1 y2 y3 y4 y5, LeO (sleuthlaw44_divided.j1 k y0 y1 y2 y3 y4 y5) (sleuthlaw44_divided.j1 (k + 1) y0 y1 y2 y3 y4 y5))
 | 0 => ⟨fun _ _ _ _ _ r h => by simp [sleuthlaw44_divided.l0] at h, fun _ _ _ _ _ _ r h => by simp [sleuthlaw44_divided.j1] at h⟩
 | k + 1 => by
  obtain ⟨ih0, ih1⟩ := sleuthlaw44_divided.mono_l k
  refine ⟨?_, ?_⟩
  ·intro y0 y1 y2 y3 y4
   unfold sleuthlaw44_divided.l0
   repeat' first
   | (with_reducible exact ih0 _ _ _ _ _)
   | (with_reducible exact ih1 _ _ _ _ _ _)
   | (with_reducible exact LeO.refl _)
   | (with_reducible exact LeO.none _)
   | (with_reducible refine LeO.ite ?_ ?_)
   | (with_reducible refine LeO.bind ?_ (fun _ => ?_))
   | exact ih0 _ _ _ _ _
   | exact ih1 _ _ _ _ _ _
   | exact LeO.none _
   | refine LeO.ite ?_ ?_
   | refine LeO.bind ?_ (fun _ => ?_)
  ·intro y0 y1 y2 y3 y4 y5
   unfold sleuthlaw44_divided.j1
   repeat' first
   | (with_reducible exact ih0 _ _ _ _ _)
   | (with_reducible exact ih1 _ _ _ _ _ _)
   | (with_reducible exact LeO.refl _)
   | (with_reducible exact LeO.none _)
   | (with_reducible refine LeO.ite ?_ ?_)
   | (with_reducible refine LeO.bind ?_ (fun _ => ?_))
   | exact ih0 _ _ _ _ _
   | exact ih1 _ _ _ _ _ _
   | exact LeO.none _
   | refine LeO.ite ?_ ?_
   | refine LeO.bind ?_ (fun _ => ?_)
theorem sleuthlaw44_divided.mono : ∀ a0 a1 k, LeO (sleuthlaw44_divided.f k a0 a1) (sleuthlaw44_divided.f (k + 1) a0 a1) := by
 intro a0 a1 k
 obtain ⟨ih0, ih1⟩ := sleuthlaw44_divided.mono_l k
 unfold sleuthlaw44_divided.f
 repeat' first
   | (with_reducible exact ih0 _ _ _ _ _)
   | (with_reducible exact ih1 _ _ _ _ _ _)
   | (with_reducible exact LeO.refl _)
   | (with_reducible exact LeO.none _)
   | (with_reducible refine LeO.ite ?_ ?_)
   | (with_reducible refine LeO.bind ?_ (fun _ => ?_))
   | exact ih0 _ _ _ _ _
   | exact ih1 _ _ _ _ _ _
   | exact LeO.none _
   | refine LeO.ite ?_ ?_
   | refine LeO.bind ?_ (fun _ => ?_)
set_option maxHeartbeats 8000000 in
set_option maxRecDepth 100000 in
theorem sleuthlaw44_divided.calls (k : Nat) (P0_ : Nat → Prop) (A0 : Option Addr) (c0 : Nat) (l0 : List Int) (A1 : Option Addr) (c1 : Nat) (l1 : List Int) (r1 : List (List Int)) (r2 : Int) (w : World) (hs0 : Kd.V (Kd.int .i64) 3 w w.heap.size (fun k_ => P0_ k_) (.slice A0 l0.length c0) l0) (hr1 : Kd.C (Kd.int .i64) w A1 l1.length l1) (hc1 : l1.length ≤ c1) (h : sleuthlaw44_divided.f k l0 l1 = some (r1, r2)) :
  Calls Try.prog 29 #[.slice A0 l0.length c0, .slice A1 l1.length c1] w fun e w' => ∃ v0_ : Value, e = .returned (.tuple #[v0_, .int .i64 r2]) ∧ Kd.N (Kd.slice 3 (Kd.int .i64)) 24 w' w.heap.size (fun k_ => (P0_ k_ ∨ w.heap.size ≤ k_)) v0_ r1 ∧ Below w.heap.size w w' := by
 have HO0 := Aside0.mk (show Kd.V (Kd.int .i64) 3 w w.heap.size (fun k_ => (P0_ k_ ∨ w.heap.size ≤ k_)) (.slice A0 l0.length c0) l0 from Kd.V_mono hs0 (fun k_ hk => .inl hk))
 have HR1 := Aside0.mk hr1
 have HC1 := Aside0.mk hc1
 clear hr1 hc1
 have HB := Aside0.mk (Below.refl w.heap.size w)
 have H : (sleuthlaw44_divided.l0 k l0 l1 ([] : List (List Int)) 0 0) = some (r1, r2) := h
 clear h
 have H' := Aside0.mk H
 clear H
 go_enter Try.func29, Try.ntmps29
 go_wp2
 go_loopg [6, 7, 8] k (fun kq v6 v7 v8 w' => ∃ (x6_1 : List (List Int)) (x7_1 : Int) (x8_1 : Int), v7 = .int .i64 x7_1 ∧ v8 = .int .i64 x8_1 ∧ Aside0 (sleuthlaw44_divided.l0 kq l0 l1 x6_1 x7_1 x8_1 = some (r1, r2)) ∧ Aside0 (kq ≤ k) ∧ Aside0 (Kd.V (Kd.int .i64) 3 w' w.heap.size (fun k_ => (P0_ k_ ∨ w.heap.size ≤ k_) ∧ some k_ ≠ (v6 : Value).ownBlock) (.slice A0 l0.length c0) l0) ∧ Aside0 (Kd.N (Kd.slice 3 (Kd.int .i64)) 24 w' w.heap.size (fun k_ => (P0_ k_ ∨ w.heap.size ≤ k_)) v6 x6_1) ∧ Aside0 (Below w.heap.size w w'))
 case atStart => exact ⟨(([] : List (List Int))), (0), (0), qx8_31, qx8_31, H', ⟨Nat.le_refl _⟩, ⟨by (with_reducible repeat (first | apply Kd.V_alloc | apply Kd.V_drewN | apply Kd.V_drew)); exact Kd.V_mono HO0.out (fun _ hk => ⟨hk, (by simp [Value.ownBlock])⟩)⟩, ⟨qx8_34⟩, ⟨qx8_0⟩⟩
 case round =>
  clear H'
  try clear c1
  try clear c2
  try clear p2
  obtain ⟨x6_1, x7_1, x8_1, rfl, rfl, HA, HK1, HO_0, HO_6, HB⟩ := hrel
  cases gk with
  | zero => exact absurd HA.out (by simp [sleuthlaw44_divided.l0])
  | succ k1 =>
   have H := HA.out
   clear HA
   simp only [sleuthlaw44_divided.l0] at H
   by_cases c3 : x8_1 < (l1.length : Int)
   ·rw [if_pos c3] at H
    have c3b0 : decide (x8_1 < (l1.length : Int)) = true := decide_eq_true c3
    clear c3
    have HC4 := Aside0.mk H
    clear H
    go_upto_region 6 with (fail)
    go_cut [28] (fun v28 wc => ∃ (kq : Nat) (x28_3 : Bool), v28 = .bool x28_3 ∧ Aside0 (sleuthlaw44_divided.j1 kq l0 l1 x6_1 x7_1 x8_1 x28_3 = some (r1, r2)) ∧ Aside0 (kq ≤ k1) ∧ Aside0 (Kd.V (Kd.int .i64) 3 wc w.heap.size (fun k_ => (P0_ k_ ∨ w.heap.size ≤ k_) ∧ some k_ ≠ (u6 : Value).ownBlock) (.slice A0 l0.length c0) l0) ∧ Aside0 (Kd.N (Kd.slice 3 (Kd.int .i64)) 24 wc w.heap.size (fun k_ => (P0_ k_ ∨ w.heap.size ≤ k_)) u6 x6_1) ∧ Aside0 (Below w.heap.size w wc))
    case first =>
     have H := HC4.out
     clear HC4
     by_cases c5 : 0 ≤ x8_1
     ·rw [if_pos c5] at H
      have c5b0 : decide (0 ≤ x8_1) = true := decide_eq_true c5
      clear c5
      (first | rw [c5b0] | (simp only [i64_w, i32_w]; rw [c5b0]) | skip)
      by_cases c6 : (rd l1 x8_1) < 1
      ·rw [if_pos c6] at H
       have c6b0 : decide ((rd l1 x8_1) < 1) = true := decide_eq_true c6
       clear c6
       have H' := Aside0.mk H
       clear H
       have p317 : 0 ≤ (x8_1 : Int) := of_decide_eq_true qx8_9
       have q317 : x8_1 < (l1.length : Int) := of_decide_eq_true qx8_9
       obtain ⟨ad317, e317, hx317_0⟩ := Kd.at_int HR1.out x8_1 p317 q317
       cases e317
       replace hx317_0 := (HB.out.cell (World.block_lt_of_cell? w _ hx317_0)).trans hx317_0
       replace p317 := eq_true p317
       replace q317 := eq_true q317
       go_wp2
       go_meet
       case rel => exact ⟨_, (true), qx8_31, H', ⟨by have := HK1.out; first | omega | exact Nat.le_refl _⟩, ⟨qx8_23⟩, ⟨qx8_32⟩, ⟨qx8_0⟩⟩
      ·rw [if_neg c6] at H
       have c6b0 : decide ((rd l1 x8_1) < 1) = false := decide_eq_false c6
       clear c6
       have H' := Aside0.mk H
       clear H
       have p317 : 0 ≤ (x8_1 : Int) := of_decide_eq_true qx8_9
       have q317 : x8_1 < (l1.length : Int) := of_decide_eq_true qx8_9
       obtain ⟨ad317, e317, hx317_0⟩ := Kd.at_int HR1.out x8_1 p317 q317
       cases e317
       replace hx317_0 := (HB.out.cell (World.block_lt_of_cell? w _ hx317_0)).trans hx317_0
       replace p317 := eq_true p317
       replace q317 := eq_true q317
       have p318 : 0 ≤ (x8_1 : Int) := of_decide_eq_true qx8_9
       have q318 : x8_1 < (l1.length : Int) := of_decide_eq_true qx8_9
       obtain ⟨ad318, e318, hx318_0⟩ := Kd.at_int HR1.out x8_1 p318 q318
       obtain rfl : ad317 = ad318 := (by injection e318)
       replace hx318_0 := (HB.out.cell (World.block_lt_of_cell? w _ hx318_0)).trans hx318_0
       replace p318 := eq_true p318
       replace q318 := eq_true q318
       go_wp2
       go_meet
       case rel => exact ⟨_, (decide ((rd l1 x8_1) ≥ (l0.length : Int))), qx8_31, H', ⟨by have := HK1.out; first | omega | exact Nat.le_refl _⟩, ⟨qx8_23⟩, ⟨qx8_32⟩, ⟨qx8_0⟩⟩
     ·rw [if_neg c5] at H
      exact absurd H (by simp)
    case rest =>
     clear HC4
     try clear c1
     try clear c2
     try clear p2
     try clear c3
     try clear c3b0
     try clear p3
     try clear q3
     try clear hx3
     try clear c5
     try clear c5b0
     try clear c6
     try clear c6b0
     try clear hx317_0
     try clear hx318_0
     try clear p2
     try clear p317
     try clear p318
     try clear q317
     try clear q318
     obtain ⟨kq, x28_3, rfl, HA, HJ3, HO_0, HO_6, HB⟩ := hcut
     cases kq with
     | zero => exact absurd HA.out (by simp [sleuthlaw44_divided.j1])
     | succ kj3 =>
      have H := HA.out
      clear HA
      simp only [sleuthlaw44_divided.j1] at H
      by_cases c7 : x28_3 = true
      ·subst c7
       have H1 : (some (([] : List (List Int)), 2)) = some (r1, r2) := by rw [if_pos rfl] at H; exact H
       clear H
       have H := H1
       clear H1
       simp only [Option.some.injEq, Prod.mk.injEq] at H
       obtain ⟨rfl, rfl⟩ := H
       go_wp2
       go_ret2
       exact ⟨_, qx8_7, qx8_34, qx8_0⟩
      ·replace c7 := Bool.eq_false_iff.mpr c7
       subst c7
       have H1 : (if 0 ≤ x8_1 then (if x8_1 < (l1.length : Int) then (if (rd l1 x8_1) ≤ x7_1 then (some (([] : List (List Int)), 8)) else (if 0 ≤ x7_1 then (if x7_1 ≤ (rd l1 x8_1) then (if (rd l1 x8_1) ≤ (l0.length : Int) then (if x6_1.length < 5864062014805 then (sleuthlaw44_divided.l0 kj3 l0 l1 (x6_1 ++ [((l0.take ((rd l1 x8_1) : Int).toNat).drop (x7_1 : Int).toNat)]) (rd l1 x8_1) (wrap64 (x8_1 + 1))) else (none)) else (none)) else (none)) else (none))) else (none)) else (none)) = some (r1, r2) := by rw [if_neg (show ¬ (false = true) by decide)] at H; exact H
       clear H
       have H := H1
       clear H1
       by_cases c8 : 0 ≤ x8_1
       ·rw [if_pos c8] at H
        have c8b0 : decide (0 ≤ x8_1) = true := decide_eq_true c8
        clear c8
        by_cases c9 : x8_1 < (l1.length : Int)
        ·rw [if_pos c9] at H
         have c9b0 : decide (x8_1 < (l1.length : Int)) = true := decide_eq_true c9
         clear c9
         by_cases c10 : (rd l1 x8_1) ≤ x7_1
         ·rw [if_pos c10] at H
          have c10b0 : decide ((rd l1 x8_1) ≤ x7_1) = true := decide_eq_true c10
          clear c10
          simp only [Option.some.injEq, Prod.mk.injEq] at H
          obtain ⟨rfl, rfl⟩ := H
          have p319 : 0 ≤ (x8_1 : Int) := of_decide_eq_true qx8_9
          have q319 : x8_1 < (l1.length : Int) := of_decide_eq_true qx8_9
          obtain ⟨ad319, e319, hx319_0⟩ := Kd.at_int HR1.out x8_1 p319 q319
          cases e319
          replace hx319_0 := (HB.out.cell (World.block_lt_of_cell? w _ hx319_0)).trans hx319_0
          replace p319 := eq_true p319
          replace q319 := eq_true q319
          go_wp2
          go_ret2
          exact ⟨_, qx8_7, qx8_34, qx8_0⟩
         ·rw [if_neg c10] at H
          have c10b0 : decide ((rd l1 x8_1) ≤ x7_1) = false := decide_eq_false c10
          clear c10
          by_cases c11 : 0 ≤ x7_1
          ·rw [if_pos c11] at H
           have c11b0 := eq_true c11
           have c11b1 : decide (0 ≤ x7_1) = true := decide_eq_true c11
           clear c11
           by_cases c12 : x7_1 ≤ (rd l1 x8_1)
           ·rw [if_pos c12] at H
            have c12b0 := eq_true c12
            have c12b1 : decide (x7_1 ≤ (rd l1 x8_1)) = true := decide_eq_true c12
            clear c12
            by_cases c13 : (rd l1 x8_1) ≤ (l0.length : Int)
            ·rw [if_pos c13] at H
             have c13b0 := eq_true c13
             have c13b1 : decide ((rd l1 x8_1) ≤ (l0.length : Int)) = true := decide_eq_true c13
             clear c13
             obtain ⟨y321, hy321⟩ : ∃ y_ : List Int, y_ = ((l0.take ((rd l1 x8_1) : Int).toNat).drop (x7_1 : Int).toNat) := ⟨_, rfl⟩
             replace H : (if x6_1.length < 5864062014805 then (sleuthlaw44_divided.l0 kj3 l0 l1 (x6_1 ++ [y321]) (rd l1 x8_1) (wrap64 (x8_1 + 1))) else (none)) = some (r1, r2) := by first | (rw [hy321]; with_reducible exact H) | (have H2_ := (Option.bind_some _ _).symm.trans H; rw [hy321]; with_reducible exact H2_) | (have H2_ := (Option.bind_some _ _).symm.trans H; with_reducible exact H2_) | with_reducible exact H | (rw [hy321]; exact H) | exact H
             have Ny321 := Aside0.mk hy321
             clear hy321
             by_cases c14 : x6_1.length < 5864062014805
             ·rw [if_pos c14] at H
              have LMc14 := Aside0.mk c14
              clear c14
              obtain ⟨y326, hy326⟩ : ∃ y_ : List (List Int), y_ = (x6_1 ++ [y321]) := ⟨_, rfl⟩
              replace H : (sleuthlaw44_divided.l0 kj3 l0 l1 y326 (rd l1 x8_1) (wrap64 (x8_1 + 1))) = some (r1, r2) := by first | (rw [hy326]; with_reducible exact H) | (have H2_ := (Option.bind_some _ _).symm.trans H; rw [hy326]; with_reducible exact H2_) | (have H2_ := (Option.bind_some _ _).symm.trans H; with_reducible exact H2_) | with_reducible exact H | (rw [hy326]; exact H) | exact H
              have Ny326 := Aside0.mk hy326
              clear hy326
              have H' := Aside0.mk H
              clear H
              have p319 : 0 ≤ (x8_1 : Int) := of_decide_eq_true qx8_9
              have q319 : x8_1 < (l1.length : Int) := of_decide_eq_true qx8_9
              obtain ⟨ad319, e319, hx319_0⟩ := Kd.at_int HR1.out x8_1 p319 q319
              cases e319
              replace hx319_0 := (HB.out.cell (World.block_lt_of_cell? w _ hx319_0)).trans hx319_0
              replace p319 := eq_true p319
              replace q319 := eq_true q319
              have p320 : 0 ≤ (x8_1 : Int) := of_decide_eq_true qx8_9
              have q320 : x8_1 < (l1.length : Int) := of_decide_eq_true qx8_9
              obtain ⟨ad320, e320, hx320_0⟩ := Kd.at_int HR1.out x8_1 p320 q320
              obtain rfl : ad319 = ad320 := (by injection e320)
              replace hx320_0 := (HB.out.cell (World.block_lt_of_cell? w _ hx320_0)).trans hx320_0
              replace p320 := eq_true p320
              replace q320 := eq_true q320
              have q15 : ((rd l1 x8_1) : Int) ≤ ((l0.length : Int) : Int) := of_decide_eq_true qx8_9
              obtain ⟨i015, hi015, _, hsz15, _⟩ := info_parts info3
              have hroom15 : l0.length ≤ c0 := (Kd.V_reads' HO_0.out).2.1
              have hC15 : Kd.F (Kd.int .i64) _ _ A0 l0.length l0 := (Kd.V_at (base := w.heap.size) HO_0.out).2.2
              have ql15 : (x7_1 : Int) ≤ ((rd l1 x8_1) : Int) := of_decide_eq_true qx8_9
              have q015 : (0 : Int) ≤ (x7_1 : Int) := of_decide_eq_true qx8_9
              have hcut15 := cut_mid (P := Try.prog) 24 3 .i64 .i64 Try.underlying24 hi015 1 hsz15 A0 l0.length c0 x7_1 (rd l1 x8_1) q015 ql15 q15 hroom15
              have hr15 := Kd.F_mid (lo := (x7_1 : Int).toNat) (hi := ((rd l1 x8_1) : Int).toNat) (c := c0) hC15 (by omega) (by omega) hroom15
              obtain ⟨A15, hA15⟩ : ∃ A1, A1 = (if c0 = (x7_1 : Int).toNat then A0 else (A0 : Option Addr).map (·.add ((x7_1 : Int).toNat * 1))) := ⟨_, rfl⟩
              obtain ⟨c15, hc15⟩ : ∃ c1, c1 = c0 - (x7_1 : Int).toNat := ⟨_, rfl⟩
              have hy15 : y321.length = ((rd l1 x8_1) : Int).toNat - (x7_1 : Int).toNat := (by rw [Ny321.out, List.length_drop, List.length_take] <;> omega)
              rw [show ((l0).take ((rd l1 x8_1) : Int).toNat).drop (x7_1 : Int).toNat = y321 from Ny321.out.symm] at hr15
              replace hr15 : Kd.F (Kd.int .i64) _ _ A15 y321.length y321 := (by rw [hA15]; exact hr15)
              rw [← hy15, ← hA15, ← hc15] at hcut15
              have HO325 := Aside0.mk (show Kd.V (Kd.int .i64) 3 _ w.heap.size _ (.slice A15 y321.length c15) y321 from Kd.V_mk (by rw [hy15, hc15]; exact Nat.sub_le_sub_right (Nat.le_trans (by omega) hroom15) _) hr15)
              have HC325 := Aside0.mk (show y321.length ≤ c15 from by rw [hy15, hc15]; exact Nat.sub_le_sub_right (Nat.le_trans (by omega) hroom15) _)
              clear hr15 hC15 hroom15 hi015 hsz15 hc15
              have KY15 := Aside0.mk hy15
              have KA15 := Aside0.mk hA15
              clear hy15 hA15
              replace q15 := eq_true q15
              go_wp2_with (first | ((with_reducible refine gate_builtin (b := .append) (xs := #[.tmp 35, .tmp 43]) rfl ?_); (try (refine gate_guard (by rfl) ?_; dsimp only)); at_builtin; refine Kd.N_append (Kd.slice 3 (Kd.int .i64)) (w0 := w) w.heap.size rfl (.tmp 35) (.tmp 43) 57 24 (.slice none 0 0) 24 rfl Try.underlying57 info24 rfl (by decide) (by omega) u6 x6_1 y321 [.slice A15 y321.length c15] (fun k_ => (P0_ k_ ∨ w.heap.size ≤ k_)) (fun k_ => ((fun k_ => (P0_ k_ ∨ w.heap.size ≤ k_))) k_ ∧ some k_ ≠ (u6 : Value).ownBlock) rfl rfl ?aP (fun _ hk => hk) ?aF ?aO ?aB ?aS ?aL ?_; (case aP => exact (Kd.FK_slice_mk (Kd.V_reads' (Kd.V_mono (ok' := (fun k_ => ((fun k_ => (P0_ k_ ∨ w.heap.size ≤ k_))) k_ ∧ some k_ ≠ (u6 : Value).ownBlock)) (HO325.out) (fun k_ hk => ⟨hk.1, hk.2⟩))).2.1 (Kd.V_F (Kd.V_mono (ok' := (fun k_ => ((fun k_ => (P0_ k_ ∨ w.heap.size ≤ k_))) k_ ∧ some k_ ≠ (u6 : Value).ownBlock)) (HO325.out) (fun k_ hk => ⟨hk.1, hk.2⟩))))); (case aB => exact qx8_0); (case aF => exact (fun k_ hk => (.inr (Nat.le_trans (below_size qx8_0) hk)))); (case aO => exact qx8_32); (case aS => exact (below_size qx8_0)); (case aL => have := LMc14.out; omega); intro v327 w16 ho hb hg hat; rw [← Ny326.out] at ho; have n0_ := Aside0.mk (Kd.V_afterv (ok := (fun k_ => (P0_ k_ ∨ w.heap.size ≤ k_))) qx8_23 hg hat); have n1_ := Aside0.mk (Kd.V_afterv (ok := (fun k_ => (P0_ k_ ∨ w.heap.size ≤ k_))) (by (with_reducible repeat (first | apply Kd.V_alloc | apply Kd.V_drewN | apply Kd.V_drew)); exact HO325.out) hg hat); have n2_ := Aside0.mk (hb); have n3_ := Aside0.mk (ho); clear HO_0; clear HO325; clear HB; clear HO_6; have HO_0 := n0_; have HO325 := n1_; have HB := n2_; have HO328 := n3_; clear n0_ n1_ n2_ n3_; clear ho hb hg hat; have p329 : 0 ≤ (x8_1 : Int) := of_decide_eq_true qx8_9; have q329 : x8_1 < (l1.length : Int) := of_decide_eq_true qx8_9; obtain ⟨ad329, e329, hx329_0⟩ := Kd.at_int HR1.out x8_1 p329 q329; obtain rfl : ad319 = ad329 := (by injection e329); replace hx329_0 := (HB.out.cell (World.block_lt_of_cell? w _ hx329_0)).trans hx329_0; replace p329 := eq_true p329; replace q329 := eq_true q329))
              go_roundg kj3
              case measure => have := HK1.out; have := HJ3.out; omega
              case rel => exact ⟨(y326), (rd l1 x8_1), (wrap64 (x8_1 + 1)), qx8_31, qx8_31, H', ⟨by have := HK1.out; have := HJ3.out; omega⟩, ⟨qx8_23⟩, ⟨by (with_reducible repeat (first | apply Kd.N_alloc | apply Kd.N_drewN | apply Kd.N_drew)); exact HO328.out⟩, ⟨qx8_0⟩⟩
             ·rw [if_neg c14] at H
              exact absurd H (by simp)
            ·rw [if_neg c13] at H
             exact absurd H (by simp)
           ·rw [if_neg c12] at H
            exact absurd H (by simp)
          ·rw [if_neg c11] at H
           exact absurd H (by simp)
        ·rw [if_neg c9] at H
         exact absurd H (by simp)
       ·rw [if_neg c8] at H
        exact absurd H (by simp)
   ·rw [if_neg c3] at H
    have c3b0 : decide (x8_1 < (l1.length : Int)) = false := decide_eq_false c3
    clear c3
    by_cases c17 : 0 ≤ x7_1
    ·rw [if_pos c17] at H
     have c17b0 := eq_true c17
     have c17b1 : decide (0 ≤ x7_1) = true := decide_eq_true c17
     clear c17
     by_cases c18 : x7_1 ≤ (l0.length : Int)
     ·rw [if_pos c18] at H
      have c18b0 := eq_true c18
      have c18b1 : decide (x7_1 ≤ (l0.length : Int)) = true := decide_eq_true c18
      clear c18
      obtain ⟨y309, hy309⟩ : ∃ y_ : List Int, y_ = (l0.drop (x7_1 : Int).toNat) := ⟨_, rfl⟩
      replace H : (if x6_1.length < 5864062014805 then (some ((x6_1 ++ [y309]), 0)) else (none)) = some (r1, r2) := by first | (rw [hy309]; with_reducible exact H) | (have H2_ := (Option.bind_some _ _).symm.trans H; rw [hy309]; with_reducible exact H2_) | (have H2_ := (Option.bind_some _ _).symm.trans H; with_reducible exact H2_) | with_reducible exact H | (rw [hy309]; exact H) | exact H
      have Ny309 := Aside0.mk hy309
      clear hy309
      by_cases c19 : x6_1.length < 5864062014805
      ·rw [if_pos c19] at H
       have LMc19 := Aside0.mk c19
       clear c19
       obtain ⟨y314, hy314⟩ : ∃ y_ : List (List Int), y_ = (x6_1 ++ [y309]) := ⟨_, rfl⟩
       replace H : (some (y314, 0)) = some (r1, r2) := by first | (rw [hy314]; with_reducible exact H) | (have H2_ := (Option.bind_some _ _).symm.trans H; rw [hy314]; with_reducible exact H2_) | (have H2_ := (Option.bind_some _ _).symm.trans H; with_reducible exact H2_) | with_reducible exact H | (rw [hy314]; exact H) | exact H
       have Ny314 := Aside0.mk hy314
       clear hy314
       simp only [Option.some.injEq, Prod.mk.injEq] at H
       obtain ⟨rfl, rfl⟩ := H
       have q20 : (x7_1 : Int) ≤ ((l0.length : Int) : Int) := of_decide_eq_true qx8_9
       obtain ⟨i020, hi020, _, hsz20, _⟩ := info_parts info3
       have hroom20 : l0.length ≤ c0 := (Kd.V_reads' HO_0.out).2.1
       have hC20 : Kd.F (Kd.int .i64) _ _ A0 l0.length l0 := (Kd.V_at (base := w.heap.size) HO_0.out).2.2
       have q020 : (0 : Int) ≤ (x7_1 : Int) := of_decide_eq_true qx8_9
       have hcut20 := cut_from (P := Try.prog) 24 3 .i64 Try.underlying24 hi020 1 hsz20 A0 l0.length c0 x7_1 q020 q20
       have hr20 := Kd.F_cut (m := (x7_1 : Int).toNat) (c := c0) hC20 (by omega) hroom20
       obtain ⟨A20, hA20⟩ : ∃ A1, A1 = (if c0 = (x7_1 : Int).toNat then A0 else (A0 : Option Addr).map (·.add ((x7_1 : Int).toNat * 1))) := ⟨_, rfl⟩
       obtain ⟨c20, hc20⟩ : ∃ c1, c1 = c0 - (x7_1 : Int).toNat := ⟨_, rfl⟩
       have hy20 : y309.length = l0.length - (x7_1 : Int).toNat := (by rw [Ny309.out, List.length_drop] <;> omega)
       rw [show (l0).drop (x7_1 : Int).toNat = y309 from Ny309.out.symm] at hr20
       replace hr20 : Kd.F (Kd.int .i64) _ _ A20 y309.length y309 := (by rw [hA20]; exact hr20)
       rw [← hy20, ← hA20, ← hc20] at hcut20
       have HO313 := Aside0.mk (show Kd.V (Kd.int .i64) 3 _ w.heap.size _ (.slice A20 y309.length c20) y309 from Kd.V_mk (by rw [hy20, hc20]; exact Nat.sub_le_sub_right hroom20 _) hr20)
       have HC313 := Aside0.mk (show y309.length ≤ c20 from by rw [hy20, hc20]; exact Nat.sub_le_sub_right hroom20 _)
       clear hr20 hC20 hroom20 hi020 hsz20 hc20
       have KY20 := Aside0.mk hy20
       have KA20 := Aside0.mk hA20
       clear hy20 hA20
       replace q20 := eq_true q20
       go_wp2_with (first | ((with_reducible refine gate_builtin (b := .append) (xs := #[.tmp 49, .tmp 53]) rfl ?_); (try (refine gate_guard (by rfl) ?_; dsimp only)); at_builtin; refine Kd.N_append (Kd.slice 3 (Kd.int .i64)) (w0 := w) w.heap.size rfl (.tmp 49) (.tmp 53) 57 24 (.slice none 0 0) 24 rfl Try.underlying57 info24 rfl (by decide) (by omega) u6 x6_1 y309 [.slice A20 y309.length c20] (fun k_ => (P0_ k_ ∨ w.heap.size ≤ k_)) (fun k_ => ((fun k_ => (P0_ k_ ∨ w.heap.size ≤ k_))) k_ ∧ some k_ ≠ (u6 : Value).ownBlock) rfl rfl ?aP (fun _ hk => hk) ?aF ?aO ?aB ?aS ?aL ?_; (case aP => exact (Kd.FK_slice_mk (Kd.V_reads' (Kd.V_mono (ok' := (fun k_ => ((fun k_ => (P0_ k_ ∨ w.heap.size ≤ k_))) k_ ∧ some k_ ≠ (u6 : Value).ownBlock)) (HO313.out) (fun k_ hk => ⟨hk.1, hk.2⟩))).2.1 (Kd.V_F (Kd.V_mono (ok' := (fun k_ => ((fun k_ => (P0_ k_ ∨ w.heap.size ≤ k_))) k_ ∧ some k_ ≠ (u6 : Value).ownBlock)) (HO313.out) (fun k_ hk => ⟨hk.1, hk.2⟩))))); (case aB => exact qx8_0); (case aF => exact (fun k_ hk => (.inr (Nat.le_trans (below_size qx8_0) hk)))); (case aO => exact qx8_32); (case aS => exact (below_size qx8_0)); (case aL => have := LMc19.out; omega); intro v315 w21 ho hb hg hat; rw [← Ny314.out] at ho; have n0_ := Aside0.mk (Kd.V_afterv (ok := (fun k_ => (P0_ k_ ∨ w.heap.size ≤ k_))) qx8_23 hg hat); have n1_ := Aside0.mk (Kd.V_afterv (ok := (fun k_ => (P0_ k_ ∨ w.heap.size ≤ k_))) (by (with_reducible repeat (first | apply Kd.V_alloc | apply Kd.V_drewN | apply Kd.V_drew)); exact HO313.out) hg hat); have n2_ := Aside0.mk (hb); have n3_ := Aside0.mk (ho); clear HO_0; clear HO313; clear HB; clear HO_6; have HO_0 := n0_; have HO313 := n1_; have HB := n2_; have HO316 := n3_; clear n0_ n1_ n2_ n3_; clear ho hb hg hat))
       go_ret2
       exact ⟨_, qx8_7, by (with_reducible repeat (first | apply Kd.N_alloc | apply Kd.N_drewN | apply Kd.N_drew)); exact HO316.out, qx8_0⟩
      ·rw [if_neg c19] at H
       exact absurd H (by simp)
     ·rw [if_neg c18] at H
      exact absurd H (by simp)
    ·rw [if_neg c17] at H
     exact absurd H (by simp)

end Go.Proofs.Ytiimanpmidnffaa.Q
