-- Laid by myprint.py (a program of this session's, over the kit's printer and with functions proved by hand)
import Derived.Test.YtiimanpmidnffaaQx0
import Derived.Test.YtiimanpmidnffaaQx5
import Derived.Test.YtiimanpmidnffaaQx7
namespace Go.Proofs.Ytiimanpmidnffaa.Q
open Go.RowKit Go.Proofs.YtiimanpmidnffaaW.PrintWords Go.Proofs.YtiimanpmidnffaaW.PrintLast Go.Proofs.YtiimanpmidnffaaW.PrintMore
attribute [local go_sem] max2_int min2_int max_two min_two max_three min_three max_four min_four   -- for this text's walks alone
set_option linter.unusedVariables false
set_option linter.unusedSimpArgs false

theorem qx8_0 {p : Prop} (h : p := by repeat (first | (with_reducible first | exact HB.out | apply below_alloc | apply pw_below_drewN | apply below_drew1) | exact HB.out)) : p := h
theorem qx8_1 {p : Prop} (h : p := by repeat (first | (with_reducible first | exact HB.out | apply below_alloc | apply pw_below_drewN | apply below_drew1 | refine below_set ?_ GE282.out) | exact HB.out)) : p := h
theorem qx8_2 {p : Prop} (h : p := by (with_reducible repeat (first | apply Kd.R_alloc | apply Kd.R_drewN | apply Kd.R_drew)); exact HO276.out) : p := h
theorem qx8_3 {p : Prop} (h : p := by (with_reducible repeat (first | apply Kd.R_alloc | apply Kd.R_drewN | apply Kd.R_drew)); exact HO279.out) : p := h
theorem qx8_4 {p : Prop} (h : p := by (with_reducible repeat (first | refine blk_drewN ?_ _ | refine blk_drew ?_ | refine blk_alloc ?_ _)); exact BK282.out) : p := h
theorem qx8_5 {p : Prop} (h : p := by (with_reducible repeat (first | apply Kd.R_alloc | apply Kd.R_drewN | apply Kd.R_drew)); exact HO286.out) : p := h
theorem qx8_6 {p : Prop} (h : p := by first | (with_reducible assumption) | assumption) : p := h
theorem qx8_7 {p : Prop} (h : p := by repeat (first | exact (Kd.R_reads' HO279.out).2.2 | (with_reducible refine Kd.C_alloc ?_ _) | (with_reducible refine Kd.C_drewN ?_ _) | (with_reducible refine Kd.C_drew ?_))) : p := h
theorem qx8_8 {p : Prop} (h : p := by (with_reducible repeat (first | apply Kd.R_alloc | apply Kd.R_drewN | apply Kd.R_drew)); exact Kd.R_mono HO279.out (fun _ hk => trivial)) : p := h
theorem qx8_9 {p : Prop} (h : p := by (with_reducible repeat (first | apply Kd.R_alloc | apply Kd.R_drewN | apply Kd.R_drew)); exact (Kd.R_mono (Kd.R_far (p := ⟨gb282, 1, none⟩) (Kd.R_far (p := ⟨gb282, 0, none⟩) (Kd.R_types HO276.out BK282.out (by decide)) (fun _ hk => hk.2) (.slice Ao9 t277.length co9)) (fun _ hk => hk.2) (.int .i64 t280)) (fun _ h_ => h_.1))) : p := h
theorem qx8_10 {p : Prop} (h : p := by first | rfl | (simp [errW_none, errW_some] <;> rfl) | (simp [*, errW_none, errW_some] <;> rfl)) : p := h
theorem qx8_11 {p : Prop} (h : p := by repeat (first | exact (Kd.R_reads' HO289.out).2.2 | (with_reducible refine Kd.C_alloc ?_ _) | (with_reducible refine Kd.C_drewN ?_ _) | (with_reducible refine Kd.C_drew ?_))) : p := h
theorem qx8_12 {p : Prop} (h : p := by first | rfl | (simp; done) | (simp [*]; done)) : p := h
theorem qx8_13 {p : Prop} (h : p := by exact (Reps.one (show Kd.M (Kd.int .i64) _ _ _ (-2) [.int .i64 (-2)] from rfl) (Reps.one (show Kd.M (Kd.int .i64) _ _ _ 0 [.int .i64 0] from rfl) (Reps.one (show Kd.M (Kd.int .i64) _ _ _ 0 [.int .i64 0] from rfl) (Reps.one (show Kd.M (Kd.int .i64) _ _ _ 2 [.int .i64 2] from rfl) (Reps.one (show Kd.M (Kd.int .i64) _ _ _ 2 [.int .i64 2] from rfl) (Reps.one (show Kd.M (Kd.int .i64) _ _ _ 2 [.int .i64 2] from rfl) (Reps.none _ _)))))))) : p := h
theorem qx8_14 {p : Prop} (h : p := by (with_reducible repeat (first | apply Kd.R_alloc | apply Kd.R_drewN | apply Kd.R_drew)); exact HO289.out) : p := h
theorem qx8_15 {p : Prop} (h : p := by (with_reducible repeat (first | apply Kd.R_alloc | apply Kd.R_drewN | apply Kd.R_drew)); exact HO_3.out) : p := h
theorem qx8_16 {p : Prop} (h : p := by (with_reducible repeat (first | apply Kd.V_alloc | apply Kd.V_drewN | apply Kd.V_drew)); exact HO_0.out) : p := h
theorem qx8_17 {p : Prop} (h : p := by (with_reducible repeat (first | apply Kd.R_alloc | apply Kd.R_drewN | apply Kd.R_drew)); exact (Kd.R_mono (Kd.R_far (p := ⟨gb282, 1, none⟩) (Kd.R_far (p := ⟨gb282, 0, none⟩) (Kd.R_types HO279.out BK282.out (by decide)) (fun _ hk => hk.2) (.slice Ao9 t277.length co9)) (fun _ hk => hk.2) (.int .i64 t280)) (fun _ h_ => h_.1))) : p := h
theorem qx8_18 {p : Prop} (h : p := by repeat (first | exact (Kd.R_reads' HO286.out).2.2 | (with_reducible refine Kd.C_alloc ?_ _) | (with_reducible refine Kd.C_drewN ?_ _) | (with_reducible refine Kd.C_drew ?_))) : p := h
theorem qx8_19 {p : Prop} (h : p := by (with_reducible repeat (first | apply Kd.N_alloc | apply Kd.N_drewN | apply Kd.N_drew)); exact HO_6.out) : p := h
theorem qx8_20 {p : Prop} (h : p := by exact (Reps.one (show Kd.M (Kd.int .i64) _ _ _ 2 [.int .i64 2] from rfl) (Reps.none _ _))) : p := h
theorem qx8_21 {p : Prop} (h : p := by first | exact Kd.S_nil _ _ _ _ _ | exact Kd.N_nil _ _ _ _ _ | exact Kd.V_nil _ _ _ _ _ | exact Kd.Q_nil _ _ _ _ _ | exact Kd.R_nil _ _ _ _ _) : p := h
theorem qx8_22 {p : Prop} (h : p := by first | (go_simp; done) | (go_simp; rfl)) : p := h
theorem qx8_23 {p : Prop} (h : p := by first | omega | exact Nat.le_refl _) : p := h
theorem qx8_24 {p : Prop} (h : p := by repeat (first | exact (Kd.R_reads' HO276.out).2.2 | (with_reducible refine Kd.C_alloc ?_ _) | (with_reducible refine Kd.C_drewN ?_ _) | (with_reducible refine Kd.C_drew ?_))) : p := h
theorem qx8_25 {p : Prop} (h : p := by repeat (first | exact (Kd.R_reads' HO293.out).2.2 | (with_reducible refine Kd.C_alloc ?_ _) | (with_reducible refine Kd.C_drewN ?_ _) | (with_reducible refine Kd.C_drew ?_))) : p := h
theorem qx8_26 {p : Prop} (h : p := by (try simp only [List.map_toArray, List.map_cons, List.map_nil]); first | done | rfl | (simp only [List.length_drop, List.length_take]; rfl)) : p := h
/-! ### sleuthlaw44_known: function 13 -/
def sleuthlaw44_known.j0 : Nat → Bool → Option (Bool)
 | 0, _ => none
 | k + 1, x0 => some x0
def sleuthlaw44_known.f (k : Nat)  : Option (Bool) := (some (([1, 1, 5, 5, 5] : List Int) : List Int)).bind fun y274 => ((segmentation_Best.f k y274 2).bind fun bt277 => ((segmentation_Potentials.f k y274 2).bind fun bt283 => (if bt277.2.2 = 0 then ((sleuthlaw44_same.f k bt277.1 (([2] : List Int))).bind fun t290 => (if t290 = true then (if bt277.2.1 = 2 then (if bt283.2 = 0 then ((sleuthlaw44_same.f k bt283.1 (([(-2), 0, 0, 2, 2, 2] : List Int))).bind fun t294 => (if t294 = true then ((segmentation_Verify.f k y274 2 bt283.1 bt277.1 bt277.2.1).bind fun t295 => (sleuthlaw44_known.j0 k (t295 == 0))) else (sleuthlaw44_known.j0 k false))) else (sleuthlaw44_known.j0 k false)) else (sleuthlaw44_known.j0 k false)) else (sleuthlaw44_known.j0 k false))) else (sleuthlaw44_known.j0 k false))))
theorem sleuthlaw44_known.mono_l : ∀ k, (∀ y0, LeO (sleuthlaw44_known.j0 k y0) (sleuthlaw44_known.j0 (k + 1) y0))
 | 0 => fun _ r h => by simp [sleuthlaw44_known.j0] at h
 | k + 1 => by
  have ih0 := sleuthlaw44_known.mono_l k
  ·intro y0
   unfold sleuthlaw44_known.j0
   repeat' first
   | (with_reducible exact ih0 _)
   | (with_reducible exact segmentation_Best.mono _ _ _)
   | (with_reducible exact segmentation_Potentials.mono _ _ _)
   | (with_reducible exact segmentation_Verify.mono _ _ _ _ _ _)
   | (with_reducible exact sleuthlaw44_same.mono _ _ _)
   | (with_reducible exact LeO.refl _)
   | (with_reducible exact LeO.none _)
   | (with_reducible refine LeO.ite ?_ ?_)
   | (with_reducible refine LeO.bind ?_ (fun _ => ?_))
   | exact ih0 _
   | exact segmentation_Best.mono _ _ _
   | exact segmentation_Potentials.mono _ _ _
   | exact segmentation_Verify.mono _ _ _ _ _ _
   | exact sleuthlaw44_same.mono _ _ _
   | exact LeO.none _
   | refine LeO.ite ?_ ?_
   | refine LeO.bind ?_ (fun _ => ?_)
theorem sleuthlaw44_known.mono : ∀ k, LeO (sleuthlaw44_known.f k ) (sleuthlaw44_known.f (k + 1) ) := by
 intro  k
 have ih0 := sleuthlaw44_known.mono_l k
 unfold sleuthlaw44_known.f
 repeat' first
   | (with_reducible exact ih0 _)
   | (with_reducible exact segmentation_Best.mono _ _ _)
   | (with_reducible exact segmentation_Potentials.mono _ _ _)
   | (with_reducible exact segmentation_Verify.mono _ _ _ _ _ _)
   | (with_reducible exact sleuthlaw44_same.mono _ _ _)
   | (with_reducible exact LeO.refl _)
   | (with_reducible exact LeO.none _)
   | (with_reducible refine LeO.ite ?_ ?_)
   | (with_reducible refine LeO.bind ?_ (fun _ => ?_))
   | exact ih0 _
   | exact segmentation_Best.mono _ _ _
   | exact segmentation_Potentials.mono _ _ _
   | exact segmentation_Verify.mono _ _ _ _ _ _
   | exact sleuthlaw44_same.mono _ _ _
   | exact LeO.none _
   | refine LeO.ite ?_ ?_
   | refine LeO.bind ?_ (fun _ => ?_)
set_option maxHeartbeats 8000000 in
set_option maxRecDepth 100000 in
theorem sleuthlaw44_known.calls (k : Nat)  (r : Bool) (w : World) (h : sleuthlaw44_known.f k  = some r) :
  Calls Try.prog 13 #[] w fun e w' => e = .returned (.bool r) ∧ Below w.heap.size w w' := by
 have hu27 := Try.underlying27
 have HB := Aside0.mk (Below.refl w.heap.size w)
 have H : ((some (([1, 1, 5, 5, 5] : List Int) : List Int)).bind fun y274 => ((segmentation_Best.f k y274 2).bind fun bt277 => ((segmentation_Potentials.f k y274 2).bind fun bt283 => (if bt277.2.2 = 0 then ((sleuthlaw44_same.f k bt277.1 (([2] : List Int))).bind fun t290 => (if t290 = true then (if bt277.2.1 = 2 then (if bt283.2 = 0 then ((sleuthlaw44_same.f k bt283.1 (([(-2), 0, 0, 2, 2, 2] : List Int))).bind fun t294 => (if t294 = true then ((segmentation_Verify.f k y274 2 bt283.1 bt277.1 bt277.2.1).bind fun t295 => (sleuthlaw44_known.j0 k (t295 == 0))) else (sleuthlaw44_known.j0 k false))) else (sleuthlaw44_known.j0 k false)) else (sleuthlaw44_known.j0 k false)) else (sleuthlaw44_known.j0 k false))) else (sleuthlaw44_known.j0 k false))))) = some r := h
 clear h
 obtain ⟨y274, hy274⟩ : ∃ y_ : List Int, y_ = (([1, 1, 5, 5, 5] : List Int)) := ⟨_, rfl⟩
 replace H : ((segmentation_Best.f k y274 2).bind fun bt277 => ((segmentation_Potentials.f k y274 2).bind fun bt283 => (if bt277.2.2 = 0 then ((sleuthlaw44_same.f k bt277.1 (([2] : List Int))).bind fun t290 => (if t290 = true then (if bt277.2.1 = 2 then (if bt283.2 = 0 then ((sleuthlaw44_same.f k bt283.1 (([(-2), 0, 0, 2, 2, 2] : List Int))).bind fun t294 => (if t294 = true then ((segmentation_Verify.f k y274 2 bt283.1 bt277.1 bt277.2.1).bind fun t295 => (sleuthlaw44_known.j0 k (t295 == 0))) else (sleuthlaw44_known.j0 k false))) else (sleuthlaw44_known.j0 k false)) else (sleuthlaw44_known.j0 k false)) else (sleuthlaw44_known.j0 k false))) else (sleuthlaw44_known.j0 k false)))) = some r := by first | (rw [hy274]; with_reducible exact H) | (have H2_ := (Option.bind_some _ _).symm.trans H; rw [hy274]; with_reducible exact H2_) | (have H2_ := (Option.bind_some _ _).symm.trans H; with_reducible exact H2_) | with_reducible exact H | (rw [hy274]; exact H) | exact H
 have Ny274 := Aside0.mk hy274
 clear hy274
 replace H := Option.bind_eq_some_iff.mp H
 obtain ⟨⟨t277, t280, t281⟩, A10, H⟩ := H
 replace H : ((segmentation_Potentials.f k y274 2).bind fun bt283 => (if t281 = 0 then ((sleuthlaw44_same.f k t277 (([2] : List Int))).bind fun t290 => (if t290 = true then (if t280 = 2 then (if bt283.2 = 0 then ((sleuthlaw44_same.f k bt283.1 (([(-2), 0, 0, 2, 2, 2] : List Int))).bind fun t294 => (if t294 = true then ((segmentation_Verify.f k y274 2 bt283.1 t277 t280).bind fun t295 => (sleuthlaw44_known.j0 k (t295 == 0))) else (sleuthlaw44_known.j0 k false))) else (sleuthlaw44_known.j0 k false)) else (sleuthlaw44_known.j0 k false)) else (sleuthlaw44_known.j0 k false))) else (sleuthlaw44_known.j0 k false))) = some r := H
 have A1 := Aside0.mk A10
 clear A10
 replace H := Option.bind_eq_some_iff.mp H
 obtain ⟨⟨t283, t284⟩, A20, H⟩ := H
 replace H : (if t281 = 0 then ((sleuthlaw44_same.f k t277 (([2] : List Int))).bind fun t290 => (if t290 = true then (if t280 = 2 then (if t284 = 0 then ((sleuthlaw44_same.f k t283 (([(-2), 0, 0, 2, 2, 2] : List Int))).bind fun t294 => (if t294 = true then ((segmentation_Verify.f k y274 2 t283 t277 t280).bind fun t295 => (sleuthlaw44_known.j0 k (t295 == 0))) else (sleuthlaw44_known.j0 k false))) else (sleuthlaw44_known.j0 k false)) else (sleuthlaw44_known.j0 k false)) else (sleuthlaw44_known.j0 k false))) else (sleuthlaw44_known.j0 k false)) = some r := H
 have A2 := Aside0.mk A20
 clear A20
 have HC3 := Aside0.mk H
 clear H
 go_enter Try.func13, Try.ntmps13
 go_upto_region 4 with (first | ((with_reducible refine gate_dst (N := 6) rfl ?_); (try (refine gate_guard (by rfl) ?_; dsimp only)); refine Kd.R_lit (Kd.int .i64) _ 3 ?hg (N := 6) ?hd (xs := ([1, 1, 5, 5, 5] : List Int)) (inner := [.int .i64 1, .int .i64 1, .int .i64 5, .int .i64 5, .int .i64 5]) (ok := fun _ => True) (okp := fun _ => True) ?hr ?hp (fun _ hk => hk) trivial (Below.refl _ _) (Nat.le_refl _) (by simp) ?_; (case hd => rfl); (case hg => rfl); (case hr => exact qx8_22); (case hp => exact (Reps.one (show Kd.M (Kd.int .i64) _ _ _ 1 [.int .i64 1] from rfl) (Reps.one (show Kd.M (Kd.int .i64) _ _ _ 1 [.int .i64 1] from rfl) (Reps.one (show Kd.M (Kd.int .i64) _ _ _ 5 [.int .i64 5] from rfl) (Reps.one (show Kd.M (Kd.int .i64) _ _ _ 5 [.int .i64 5] from rfl) (Reps.one (show Kd.M (Kd.int .i64) _ _ _ 5 [.int .i64 5] from rfl) (Reps.none _ _))))))); intro v275 w4 ho5 hb hg_ hnew_; clear hg_ hnew_; (first | rw [← Ny274.out] at ho5 | (simp only [Int.reduceToNat] at ho5; rw [← Ny274.out] at ho5)); have n0_ := Aside0.mk (Kd.R_lower ho5 (below_size qx8_0)); have n1_ := Aside0.mk (below_step qx8_0 hb); clear HB; have HO276 := n0_; have HB := n1_; clear n0_ n1_; clear hb ho5; obtain ⟨Ao6, co6, eo6⟩ := Kd.R_slice HO276.out; subst eo6) | ((with_reducible refine gate_callee (f := 15) rfl ?_); refine goesL_ (some 9) rfl rfl Try.func15 (by kernel_rfl) rfl #[.slice Ao6 y274.length co6, .int .i64 2] rfl qx8_26 ?_; (with_reducible refine (segmentation_Best.calls k _ _ y274 2 t277 t280 t281 _ ?side1 ?side2 A1.out).mono ?_); (case side1 => exact qx8_24); (case side2 => exact (Kd.R_reads' HO276.out).2.1); rintro e w7 ⟨v278, rfl, ho0, hb⟩; refine ⟨_, rfl, ?_⟩; have n0_ := Aside0.mk (Kd.R_elder' qx8_2 (Kd.R_base ho0) hb); have n1_ := Aside0.mk (Kd.R_lower (Kd.R_new' ho0 (Kd.R_lt qx8_2)) (below_size qx8_0)); have n2_ := Aside0.mk (below_step qx8_0 hb); clear HO276; clear HB; have HO276 := n0_; have HO279 := n1_; have HB := n2_; clear n0_ n1_ n2_; (try clear hb); (try clear hb2); (try clear hk); (try clear hi); (try clear ho0)) | ((with_reducible refine gate_dst (N := 2) rfl ?_); (try (refine gate_guard (by rfl) ?_; dsimp only)); refine box_event ?hg (N := 2) ?hd (cs := #[.slice none 0 0, .int .i64 0]) (t := 27) ?hr ?_; (case hd => rfl); (case hg => rfl); (case hr => exact qx8_22); intro gb282 hg w8 hbox hb; have n0_ := Aside0.mk (Kd.R_below qx8_2 hb); have n1_ := Aside0.mk (Kd.R_below qx8_3 hb); have n2_ := Aside0.mk (below_step qx8_0 hb); have n3_ := Aside0.mk (hbox); have n4_ := Aside0.mk ((by rw [hg]; exact (below_size qx8_0) : w.heap.size ≤ gb282)); have n5_ := Aside0.mk ((by rw [hg]; exact (below_size qx8_0) : w.heap.size ≤ gb282)); clear HO276; clear HO279; clear HB; have HO276 := n0_; have HO279 := n1_; have HB := n2_; have BK282 := n3_; have GW282 := n4_; have GE282 := n5_; clear n0_ n1_ n2_ n3_ n4_ n5_; clear hb hbox hg; obtain ⟨Ao9, co9, eo9⟩ := Kd.R_slice HO279.out; subst eo9; have hcz10_0 : w8.cell? ⟨gb282, 0, none⟩ = some (.slice none 0 0) := (blk_cell BK282.out 0).trans rfl; have hcz10_1 : w8.cell? ⟨gb282, 1, none⟩ = some (.int .i64 0) := (blk_cell BK282.out 1).trans rfl; have hfz10_0 := blk_frozen BK282.out 0; have hfz10_1 := blk_frozen BK282.out 1) | ((with_reducible refine gate_callee (f := 18) rfl ?_); refine goesL_ (some 14) rfl rfl Try.func18 (by kernel_rfl) rfl #[.slice Ao6 y274.length co6, .int .i64 2] rfl qx8_26 ?_; (with_reducible refine (segmentation_Potentials.calls k _ _ y274 2 t283 t284 _ ?side1 ?side2 A2.out).mono ?_); (case side1 => refine (Kd.R_reads' (e := 3) (base := w.heap.size) (ok := fun k_ => (True ∧ some k_ ≠ (.slice Ao9 t277.length co9 : Value).ownBlock)) (n := y274.length) (c := co6) ?_).2.2; exact qx8_9); (case side2 => exact (Kd.R_reads' HO276.out).2.1); rintro e w11 ⟨v285, rfl, ho0, hb⟩; refine ⟨_, rfl, ?_⟩; have n0_ := Aside0.mk (Kd.R_elder' qx8_9 (Kd.R_base ho0) hb); have n1_ := Aside0.mk (Kd.R_elder' qx8_17 (Kd.R_base ho0) hb); have n2_ := Aside0.mk (Kd.R_lower (Kd.R_new' (Kd.R_new' ho0 (Kd.R_lt qx8_9)) (Kd.R_lt qx8_17)) (below_size qx8_1)); have n3_ := Aside0.mk (blk_below (g := gb282) (o := .cells #[.slice Ao9 t277.length co9, .int .i64 t280] 27 (0, 0)) (by (with_reducible repeat (first | refine blk_drewN ?_ _ | refine blk_drew ?_ | refine blk_alloc ?_ _)); refine blk_put (cs := #[.slice Ao9 t277.length co9, .int .i64 0]) ?_ 1 _ rfl; (with_reducible repeat (first | refine blk_drewN ?_ _ | refine blk_drew ?_ | refine blk_alloc ?_ _)); refine blk_put (cs := #[.slice none 0 0, .int .i64 0]) ?_ 0 _ rfl; (with_reducible repeat (first | refine blk_drewN ?_ _ | refine blk_drew ?_ | refine blk_alloc ?_ _)); exact BK282.out) hb); have n4_ := Aside0.mk (below_step qx8_1 hb); clear HO276; clear HO279; clear BK282; clear HB; have HO276 := n0_; have HO279 := n1_; have HO286 := n2_; have BK282 := n3_; have HB := n4_; clear n0_ n1_ n2_ n3_ n4_; (try clear hb); (try clear hb2); (try clear hk); (try clear hi); (try clear ho0)))
 (try simp only [Act.put, List.setIfInBounds_toArray, List.set_cons_zero, List.set_cons_succ])
 go_cut [0] (fun v0 wc => ∃ (kq : Nat) (x0_2 : Bool), v0 = .bool x0_2 ∧ Aside0 (sleuthlaw44_known.j0 kq x0_2 = some r) ∧ Aside0 (kq ≤ k) ∧ Aside0 (Kd.R (Kd.int .i64) 3 wc w.heap.size (fun _ => True) (.slice Ao9 t277.length co9) t277) ∧ Aside0 (wc.heap[gb282]? = some (.cells #[(.slice Ao9 t277.length co9), .int .i64 t280] 27 (0, 0))) ∧ Aside0 (Below w.heap.size w wc))
 case first =>
  have H := HC3.out
  clear HC3
  by_cases c12 : t281 = 0
  rotate_left
  ·rw [if_neg c12] at H
   have c12b0 : (t281 == 0) = false := beq_eq_false_iff_ne.mpr c12
   have c12b1 : (t281 != 0) = true := bne_iff_ne.mpr c12
   (first | rw [c12b0] | (simp only [i64_w, i32_w]; rw [c12b0]) | skip)
   have H' := Aside0.mk H
   clear H
   go_wp2
   go_meet
   case rel => exact ⟨_, (false), qx8_12, H', ⟨qx8_23⟩, ⟨qx8_8⟩, ⟨qx8_4⟩, ⟨qx8_1⟩⟩
  rw [if_pos c12] at H
  have c12b0 : (t281 == 0) = true := beq_iff_eq.mpr c12
  have c12b1 : (t281 != 0) = false := bne_eq_false_iff_eq.mpr c12
  clear c12
  (first | rw [c12b0] | (simp only [i64_w, i32_w]; rw [c12b0]) | skip)
  obtain ⟨y287, hy287⟩ : ∃ y_ : List Int, y_ = (([2] : List Int)) := ⟨_, rfl⟩
  replace H : ((sleuthlaw44_same.f k t277 y287).bind fun t290 => (if t290 = true then (if t280 = 2 then (if t284 = 0 then ((sleuthlaw44_same.f k t283 (([(-2), 0, 0, 2, 2, 2] : List Int))).bind fun t294 => (if t294 = true then ((segmentation_Verify.f k y274 2 t283 t277 t280).bind fun t295 => (sleuthlaw44_known.j0 k (t295 == 0))) else (sleuthlaw44_known.j0 k false))) else (sleuthlaw44_known.j0 k false)) else (sleuthlaw44_known.j0 k false)) else (sleuthlaw44_known.j0 k false))) = some r := by first | (rw [hy287]; with_reducible exact H) | (have H2_ := (Option.bind_some _ _).symm.trans H; rw [hy287]; with_reducible exact H2_) | (have H2_ := (Option.bind_some _ _).symm.trans H; with_reducible exact H2_) | with_reducible exact H | (rw [hy287]; exact H) | exact H
  have Ny287 := Aside0.mk hy287
  clear hy287
  replace H := Option.bind_eq_some_iff.mp H
  obtain ⟨t290, A130, H⟩ := H
  replace H : (if t290 = true then (if t280 = 2 then (if t284 = 0 then ((sleuthlaw44_same.f k t283 (([(-2), 0, 0, 2, 2, 2] : List Int))).bind fun t294 => (if t294 = true then ((segmentation_Verify.f k y274 2 t283 t277 t280).bind fun t295 => (sleuthlaw44_known.j0 k (t295 == 0))) else (sleuthlaw44_known.j0 k false))) else (sleuthlaw44_known.j0 k false)) else (sleuthlaw44_known.j0 k false)) else (sleuthlaw44_known.j0 k false)) = some r := H
  have A13 := Aside0.mk A130
  clear A130
  by_cases c14 : t290 = true
  rotate_left
  ·replace c14 := Bool.eq_false_iff.mpr c14
   subst c14
   have H1 : (sleuthlaw44_known.j0 k false) = some r := by rw [if_neg (show ¬ (false = true) by decide)] at H; exact H
   clear H
   have H := H1
   clear H1
   have H' := Aside0.mk H
   clear H
   have hcz50_0 : w11.cell? ⟨gb282, 0, none⟩ = some (.slice Ao9 t277.length co9) := (blk_cell BK282.out 0).trans rfl
   have hcz50_1 : w11.cell? ⟨gb282, 1, none⟩ = some (.int .i64 t280) := (blk_cell BK282.out 1).trans rfl
   have hfz50_0 := blk_frozen BK282.out 0
   have hfz50_1 := blk_frozen BK282.out 1
   go_wp2_with (first | ((with_reducible refine gate_dst (N := 22) rfl ?_); (try (refine gate_guard (by rfl) ?_; dsimp only)); refine Kd.R_lit (Kd.int .i64) _ 3 ?hg (N := 22) ?hd (xs := ([2] : List Int)) (inner := [.int .i64 2]) (ok := fun _ => True) (okp := fun _ => True) ?hr ?hp (fun _ hk => hk) trivial (Below.refl _ _) (Nat.le_refl _) (by simp) ?_; (case hd => rfl); (case hg => rfl); (case hr => exact qx8_22); (case hp => exact qx8_20); intro v288 w51 ho52 hb hg_ hnew_; clear hg_ hnew_; (first | rw [← Ny287.out] at ho52 | (simp only [Int.reduceToNat] at ho52; rw [← Ny287.out] at ho52)); have n0_ := Aside0.mk (Kd.R_elder' qx8_2 (Kd.R_base ho52) hb); have n1_ := Aside0.mk (Kd.R_elder' qx8_3 (Kd.R_base ho52) hb); have n2_ := Aside0.mk (Kd.R_elder' qx8_5 (Kd.R_base ho52) hb); have n3_ := Aside0.mk (Kd.R_lower (Kd.R_new' (Kd.R_new' (Kd.R_new' ho52 (Kd.R_lt qx8_2)) (Kd.R_lt qx8_3)) (Kd.R_lt qx8_5)) (below_size qx8_1)); have n4_ := Aside0.mk (blk_below (g := gb282) (o := .cells #[.slice Ao9 t277.length co9, .int .i64 t280] 27 (0, 0)) qx8_4 hb); have n5_ := Aside0.mk (below_step qx8_1 hb); clear HO276; clear HO279; clear HO286; clear BK282; clear HB; have HO276 := n0_; have HO279 := n1_; have HO286 := n2_; have HO289 := n3_; have BK282 := n4_; have HB := n5_; clear n0_ n1_ n2_ n3_ n4_ n5_; clear hb ho52; obtain ⟨Ao53, co53, eo53⟩ := Kd.R_slice HO289.out; subst eo53) | (go_at_call 17; (with_reducible refine (sleuthlaw44_same.calls k _ _ t277 _ _ y287 false _ ?side1 ?side2 ?side3 ?side4 A13.out).mono ?_); (case side1 => exact qx8_7); (case side2 => exact (Kd.R_reads' HO279.out).2.1); (case side3 => exact qx8_11); (case side4 => exact (Kd.R_reads' HO289.out).2.1); rintro e w' ⟨rfl, ⟨nd, rfl⟩⟩))
   go_meet
   case rel => exact ⟨_, (false), qx8_12, H', ⟨qx8_23⟩, ⟨qx8_8⟩, ⟨qx8_4⟩, ⟨qx8_1⟩⟩
  subst c14
  have H1 : (if t280 = 2 then (if t284 = 0 then ((sleuthlaw44_same.f k t283 (([(-2), 0, 0, 2, 2, 2] : List Int))).bind fun t294 => (if t294 = true then ((segmentation_Verify.f k y274 2 t283 t277 t280).bind fun t295 => (sleuthlaw44_known.j0 k (t295 == 0))) else (sleuthlaw44_known.j0 k false))) else (sleuthlaw44_known.j0 k false)) else (sleuthlaw44_known.j0 k false)) = some r := by rw [if_pos rfl] at H; exact H
  clear H
  have H := H1
  clear H1
  by_cases c15 : t280 = 2
  rotate_left
  ·rw [if_neg c15] at H
   have c15b0 : (t280 == 2) = false := beq_eq_false_iff_ne.mpr c15
   have c15b1 : (t280 != 2) = true := bne_iff_ne.mpr c15
   have H' := Aside0.mk H
   clear H
   have hcz45_0 : w11.cell? ⟨gb282, 0, none⟩ = some (.slice Ao9 t277.length co9) := (blk_cell BK282.out 0).trans rfl
   have hcz45_1 : w11.cell? ⟨gb282, 1, none⟩ = some (.int .i64 t280) := (blk_cell BK282.out 1).trans rfl
   have hfz45_0 := blk_frozen BK282.out 0
   have hfz45_1 := blk_frozen BK282.out 1
   go_wp2_with (first | ((with_reducible refine gate_dst (N := 22) rfl ?_); (try (refine gate_guard (by rfl) ?_; dsimp only)); refine Kd.R_lit (Kd.int .i64) _ 3 ?hg (N := 22) ?hd (xs := ([2] : List Int)) (inner := [.int .i64 2]) (ok := fun _ => True) (okp := fun _ => True) ?hr ?hp (fun _ hk => hk) trivial (Below.refl _ _) (Nat.le_refl _) (by simp) ?_; (case hd => rfl); (case hg => rfl); (case hr => exact qx8_22); (case hp => exact qx8_20); intro v288 w46 ho47 hb hg_ hnew_; clear hg_ hnew_; (first | rw [← Ny287.out] at ho47 | (simp only [Int.reduceToNat] at ho47; rw [← Ny287.out] at ho47)); have n0_ := Aside0.mk (Kd.R_elder' qx8_2 (Kd.R_base ho47) hb); have n1_ := Aside0.mk (Kd.R_elder' qx8_3 (Kd.R_base ho47) hb); have n2_ := Aside0.mk (Kd.R_elder' qx8_5 (Kd.R_base ho47) hb); have n3_ := Aside0.mk (Kd.R_lower (Kd.R_new' (Kd.R_new' (Kd.R_new' ho47 (Kd.R_lt qx8_2)) (Kd.R_lt qx8_3)) (Kd.R_lt qx8_5)) (below_size qx8_1)); have n4_ := Aside0.mk (blk_below (g := gb282) (o := .cells #[.slice Ao9 t277.length co9, .int .i64 t280] 27 (0, 0)) qx8_4 hb); have n5_ := Aside0.mk (below_step qx8_1 hb); clear HO276; clear HO279; clear HO286; clear BK282; clear HB; have HO276 := n0_; have HO279 := n1_; have HO286 := n2_; have HO289 := n3_; have BK282 := n4_; have HB := n5_; clear n0_ n1_ n2_ n3_ n4_ n5_; clear hb ho47; obtain ⟨Ao48, co48, eo48⟩ := Kd.R_slice HO289.out; subst eo48) | (go_at_call 17; (with_reducible refine (sleuthlaw44_same.calls k _ _ t277 _ _ y287 true _ ?side1 ?side2 ?side3 ?side4 A13.out).mono ?_); (case side1 => exact qx8_7); (case side2 => exact (Kd.R_reads' HO279.out).2.1); (case side3 => exact qx8_11); (case side4 => exact (Kd.R_reads' HO289.out).2.1); rintro e w' ⟨rfl, ⟨nd, rfl⟩⟩; have hcz49_0 : w46.cell? ⟨gb282, 0, none⟩ = some (.slice Ao9 t277.length co9) := (blk_cell BK282.out 0).trans rfl; have hcz49_1 : w46.cell? ⟨gb282, 1, none⟩ = some (.int .i64 t280) := (blk_cell BK282.out 1).trans rfl; have hfz49_0 := blk_frozen BK282.out 0; have hfz49_1 := blk_frozen BK282.out 1))
   go_meet
   case rel => exact ⟨_, (false), qx8_12, H', ⟨qx8_23⟩, ⟨qx8_8⟩, ⟨qx8_4⟩, ⟨qx8_1⟩⟩
  rw [if_pos c15] at H
  have c15b0 : (t280 == 2) = true := beq_iff_eq.mpr c15
  have c15b1 : (t280 != 2) = false := bne_eq_false_iff_eq.mpr c15
  clear c15
  by_cases c16 : t284 = 0
  rotate_left
  ·rw [if_neg c16] at H
   have c16b0 : (t284 == 0) = false := beq_eq_false_iff_ne.mpr c16
   have c16b1 : (t284 != 0) = true := bne_iff_ne.mpr c16
   have H' := Aside0.mk H
   clear H
   have hcz40_0 : w11.cell? ⟨gb282, 0, none⟩ = some (.slice Ao9 t277.length co9) := (blk_cell BK282.out 0).trans rfl
   have hcz40_1 : w11.cell? ⟨gb282, 1, none⟩ = some (.int .i64 t280) := (blk_cell BK282.out 1).trans rfl
   have hfz40_0 := blk_frozen BK282.out 0
   have hfz40_1 := blk_frozen BK282.out 1
   go_wp2_with (first | ((with_reducible refine gate_dst (N := 22) rfl ?_); (try (refine gate_guard (by rfl) ?_; dsimp only)); refine Kd.R_lit (Kd.int .i64) _ 3 ?hg (N := 22) ?hd (xs := ([2] : List Int)) (inner := [.int .i64 2]) (ok := fun _ => True) (okp := fun _ => True) ?hr ?hp (fun _ hk => hk) trivial (Below.refl _ _) (Nat.le_refl _) (by simp) ?_; (case hd => rfl); (case hg => rfl); (case hr => exact qx8_22); (case hp => exact qx8_20); intro v288 w41 ho42 hb hg_ hnew_; clear hg_ hnew_; (first | rw [← Ny287.out] at ho42 | (simp only [Int.reduceToNat] at ho42; rw [← Ny287.out] at ho42)); have n0_ := Aside0.mk (Kd.R_elder' qx8_2 (Kd.R_base ho42) hb); have n1_ := Aside0.mk (Kd.R_elder' qx8_3 (Kd.R_base ho42) hb); have n2_ := Aside0.mk (Kd.R_elder' qx8_5 (Kd.R_base ho42) hb); have n3_ := Aside0.mk (Kd.R_lower (Kd.R_new' (Kd.R_new' (Kd.R_new' ho42 (Kd.R_lt qx8_2)) (Kd.R_lt qx8_3)) (Kd.R_lt qx8_5)) (below_size qx8_1)); have n4_ := Aside0.mk (blk_below (g := gb282) (o := .cells #[.slice Ao9 t277.length co9, .int .i64 t280] 27 (0, 0)) qx8_4 hb); have n5_ := Aside0.mk (below_step qx8_1 hb); clear HO276; clear HO279; clear HO286; clear BK282; clear HB; have HO276 := n0_; have HO279 := n1_; have HO286 := n2_; have HO289 := n3_; have BK282 := n4_; have HB := n5_; clear n0_ n1_ n2_ n3_ n4_ n5_; clear hb ho42; obtain ⟨Ao43, co43, eo43⟩ := Kd.R_slice HO289.out; subst eo43) | (go_at_call 17; (with_reducible refine (sleuthlaw44_same.calls k _ _ t277 _ _ y287 true _ ?side1 ?side2 ?side3 ?side4 A13.out).mono ?_); (case side1 => exact qx8_7); (case side2 => exact (Kd.R_reads' HO279.out).2.1); (case side3 => exact qx8_11); (case side4 => exact (Kd.R_reads' HO289.out).2.1); rintro e w' ⟨rfl, ⟨nd, rfl⟩⟩; have hcz44_0 : w41.cell? ⟨gb282, 0, none⟩ = some (.slice Ao9 t277.length co9) := (blk_cell BK282.out 0).trans rfl; have hcz44_1 : w41.cell? ⟨gb282, 1, none⟩ = some (.int .i64 t280) := (blk_cell BK282.out 1).trans rfl; have hfz44_0 := blk_frozen BK282.out 0; have hfz44_1 := blk_frozen BK282.out 1))
   go_meet
   case rel => exact ⟨_, (false), qx8_12, H', ⟨qx8_23⟩, ⟨qx8_8⟩, ⟨qx8_4⟩, ⟨qx8_1⟩⟩
  rw [if_pos c16] at H
  have c16b0 : (t284 == 0) = true := beq_iff_eq.mpr c16
  have c16b1 : (t284 != 0) = false := bne_eq_false_iff_eq.mpr c16
  clear c16
  obtain ⟨y291, hy291⟩ : ∃ y_ : List Int, y_ = (([(-2), 0, 0, 2, 2, 2] : List Int)) := ⟨_, rfl⟩
  replace H : ((sleuthlaw44_same.f k t283 y291).bind fun t294 => (if t294 = true then ((segmentation_Verify.f k y274 2 t283 t277 t280).bind fun t295 => (sleuthlaw44_known.j0 k (t295 == 0))) else (sleuthlaw44_known.j0 k false))) = some r := by first | (rw [hy291]; with_reducible exact H) | (have H2_ := (Option.bind_some _ _).symm.trans H; rw [hy291]; with_reducible exact H2_) | (have H2_ := (Option.bind_some _ _).symm.trans H; with_reducible exact H2_) | with_reducible exact H | (rw [hy291]; exact H) | exact H
  have Ny291 := Aside0.mk hy291
  clear hy291
  replace H := Option.bind_eq_some_iff.mp H
  obtain ⟨t294, A170, H⟩ := H
  replace H : (if t294 = true then ((segmentation_Verify.f k y274 2 t283 t277 t280).bind fun t295 => (sleuthlaw44_known.j0 k (t295 == 0))) else (sleuthlaw44_known.j0 k false)) = some r := H
  have A17 := Aside0.mk A170
  clear A170
  by_cases c18 : t294 = true
  rotate_left
  ·replace c18 := Bool.eq_false_iff.mpr c18
   subst c18
   have H1 : (sleuthlaw44_known.j0 k false) = some r := by rw [if_neg (show ¬ (false = true) by decide)] at H; exact H
   clear H
   have H := H1
   clear H1
   have H' := Aside0.mk H
   clear H
   have hcz31_0 : w11.cell? ⟨gb282, 0, none⟩ = some (.slice Ao9 t277.length co9) := (blk_cell BK282.out 0).trans rfl
   have hcz31_1 : w11.cell? ⟨gb282, 1, none⟩ = some (.int .i64 t280) := (blk_cell BK282.out 1).trans rfl
   have hfz31_0 := blk_frozen BK282.out 0
   have hfz31_1 := blk_frozen BK282.out 1
   go_wp2_with (first | ((with_reducible refine gate_dst (N := 22) rfl ?_); (try (refine gate_guard (by rfl) ?_; dsimp only)); refine Kd.R_lit (Kd.int .i64) _ 3 ?hg (N := 22) ?hd (xs := ([2] : List Int)) (inner := [.int .i64 2]) (ok := fun _ => True) (okp := fun _ => True) ?hr ?hp (fun _ hk => hk) trivial (Below.refl _ _) (Nat.le_refl _) (by simp) ?_; (case hd => rfl); (case hg => rfl); (case hr => exact qx8_22); (case hp => exact qx8_20); intro v288 w32 ho33 hb hg_ hnew_; clear hg_ hnew_; (first | rw [← Ny287.out] at ho33 | (simp only [Int.reduceToNat] at ho33; rw [← Ny287.out] at ho33)); have n0_ := Aside0.mk (Kd.R_elder' qx8_2 (Kd.R_base ho33) hb); have n1_ := Aside0.mk (Kd.R_elder' qx8_3 (Kd.R_base ho33) hb); have n2_ := Aside0.mk (Kd.R_elder' qx8_5 (Kd.R_base ho33) hb); have n3_ := Aside0.mk (Kd.R_lower (Kd.R_new' (Kd.R_new' (Kd.R_new' ho33 (Kd.R_lt qx8_2)) (Kd.R_lt qx8_3)) (Kd.R_lt qx8_5)) (below_size qx8_1)); have n4_ := Aside0.mk (blk_below (g := gb282) (o := .cells #[.slice Ao9 t277.length co9, .int .i64 t280] 27 (0, 0)) qx8_4 hb); have n5_ := Aside0.mk (below_step qx8_1 hb); clear HO276; clear HO279; clear HO286; clear BK282; clear HB; have HO276 := n0_; have HO279 := n1_; have HO286 := n2_; have HO289 := n3_; have BK282 := n4_; have HB := n5_; clear n0_ n1_ n2_ n3_ n4_ n5_; clear hb ho33; obtain ⟨Ao34, co34, eo34⟩ := Kd.R_slice HO289.out; subst eo34) | (go_at_call 17; (with_reducible refine (sleuthlaw44_same.calls k _ _ t277 _ _ y287 true _ ?side1 ?side2 ?side3 ?side4 A13.out).mono ?_); (case side1 => exact qx8_7); (case side2 => exact (Kd.R_reads' HO279.out).2.1); (case side3 => exact qx8_11); (case side4 => exact (Kd.R_reads' HO289.out).2.1); rintro e w' ⟨rfl, ⟨nd, rfl⟩⟩; have hcz35_0 : w32.cell? ⟨gb282, 0, none⟩ = some (.slice Ao9 t277.length co9) := (blk_cell BK282.out 0).trans rfl; have hcz35_1 : w32.cell? ⟨gb282, 1, none⟩ = some (.int .i64 t280) := (blk_cell BK282.out 1).trans rfl; have hfz35_0 := blk_frozen BK282.out 0; have hfz35_1 := blk_frozen BK282.out 1) | ((with_reducible refine gate_dst (N := 36) rfl ?_); (try (refine gate_guard (by rfl) ?_; dsimp only)); refine Kd.R_lit (Kd.int .i64) _ 3 ?hg (N := 36) ?hd (xs := ([(-2), 0, 0, 2, 2, 2] : List Int)) (inner := [.int .i64 (-2), .int .i64 0, .int .i64 0, .int .i64 2, .int .i64 2, .int .i64 2]) (ok := fun _ => True) (okp := fun _ => True) ?hr ?hp (fun _ hk => hk) trivial (Below.refl _ _) (Nat.le_refl _) (by simp) ?_; (case hd => rfl); (case hg => rfl); (case hr => exact qx8_22); (case hp => exact qx8_13); intro v292 w36 ho37 hb hg_ hnew_; clear hg_ hnew_; (first | rw [← Ny291.out] at ho37 | (simp only [Int.reduceToNat] at ho37; rw [← Ny291.out] at ho37)); have n0_ := Aside0.mk (Kd.R_elder' qx8_2 (Kd.R_base ho37) hb); have n1_ := Aside0.mk (Kd.R_elder' qx8_3 (Kd.R_base ho37) hb); have n2_ := Aside0.mk (Kd.R_elder' qx8_5 (Kd.R_base ho37) hb); have n3_ := Aside0.mk (Kd.R_elder' qx8_14 (Kd.R_base ho37) hb); have n4_ := Aside0.mk (Kd.R_lower (Kd.R_new' (Kd.R_new' (Kd.R_new' (Kd.R_new' ho37 (Kd.R_lt qx8_2)) (Kd.R_lt qx8_3)) (Kd.R_lt qx8_5)) (Kd.R_lt qx8_14)) (below_size qx8_1)); have n5_ := Aside0.mk (blk_below (g := gb282) (o := .cells #[.slice Ao9 t277.length co9, .int .i64 t280] 27 (0, 0)) qx8_4 hb); have n6_ := Aside0.mk (below_step qx8_1 hb); clear HO276; clear HO279; clear HO286; clear HO289; clear BK282; clear HB; have HO276 := n0_; have HO279 := n1_; have HO286 := n2_; have HO289 := n3_; have HO293 := n4_; have BK282 := n5_; have HB := n6_; clear n0_ n1_ n2_ n3_ n4_ n5_ n6_; clear hb ho37; obtain ⟨Ao38, co38, eo38⟩ := Kd.R_slice HO286.out; subst eo38; obtain ⟨Ao39, co39, eo39⟩ := Kd.R_slice HO293.out; subst eo39) | (go_at_call 17; (with_reducible refine (sleuthlaw44_same.calls k _ _ t283 _ _ y291 false _ ?side1 ?side2 ?side3 ?side4 A17.out).mono ?_); (case side1 => exact qx8_18); (case side2 => exact (Kd.R_reads' HO286.out).2.1); (case side3 => exact qx8_25); (case side4 => exact (Kd.R_reads' HO293.out).2.1); rintro e w' ⟨rfl, ⟨nd, rfl⟩⟩))
   go_meet
   case rel => exact ⟨_, (false), qx8_12, H', ⟨qx8_23⟩, ⟨qx8_8⟩, ⟨qx8_4⟩, ⟨qx8_1⟩⟩
  subst c18
  have H1 : ((segmentation_Verify.f k y274 2 t283 t277 t280).bind fun t295 => (sleuthlaw44_known.j0 k (t295 == 0))) = some r := by rw [if_pos rfl] at H; exact H
  clear H
  have H := H1
  clear H1
  replace H := Option.bind_eq_some_iff.mp H
  obtain ⟨t295, A190, H⟩ := H
  replace H : (sleuthlaw44_known.j0 k (t295 == 0)) = some r := H
  have A19 := Aside0.mk A190
  clear A190
  have H' := Aside0.mk H
  clear H
  have hcz20_0 : w11.cell? ⟨gb282, 0, none⟩ = some (.slice Ao9 t277.length co9) := (blk_cell BK282.out 0).trans rfl
  have hcz20_1 : w11.cell? ⟨gb282, 1, none⟩ = some (.int .i64 t280) := (blk_cell BK282.out 1).trans rfl
  have hfz20_0 := blk_frozen BK282.out 0
  have hfz20_1 := blk_frozen BK282.out 1
  go_wp2_with (first | ((with_reducible refine gate_dst (N := 22) rfl ?_); (try (refine gate_guard (by rfl) ?_; dsimp only)); refine Kd.R_lit (Kd.int .i64) _ 3 ?hg (N := 22) ?hd (xs := ([2] : List Int)) (inner := [.int .i64 2]) (ok := fun _ => True) (okp := fun _ => True) ?hr ?hp (fun _ hk => hk) trivial (Below.refl _ _) (Nat.le_refl _) (by simp) ?_; (case hd => rfl); (case hg => rfl); (case hr => exact qx8_22); (case hp => exact qx8_20); intro v288 w21 ho22 hb hg_ hnew_; clear hg_ hnew_; (first | rw [← Ny287.out] at ho22 | (simp only [Int.reduceToNat] at ho22; rw [← Ny287.out] at ho22)); have n0_ := Aside0.mk (Kd.R_elder' qx8_2 (Kd.R_base ho22) hb); have n1_ := Aside0.mk (Kd.R_elder' qx8_3 (Kd.R_base ho22) hb); have n2_ := Aside0.mk (Kd.R_elder' qx8_5 (Kd.R_base ho22) hb); have n3_ := Aside0.mk (Kd.R_lower (Kd.R_new' (Kd.R_new' (Kd.R_new' ho22 (Kd.R_lt qx8_2)) (Kd.R_lt qx8_3)) (Kd.R_lt qx8_5)) (below_size qx8_1)); have n4_ := Aside0.mk (blk_below (g := gb282) (o := .cells #[.slice Ao9 t277.length co9, .int .i64 t280] 27 (0, 0)) qx8_4 hb); have n5_ := Aside0.mk (below_step qx8_1 hb); clear HO276; clear HO279; clear HO286; clear BK282; clear HB; have HO276 := n0_; have HO279 := n1_; have HO286 := n2_; have HO289 := n3_; have BK282 := n4_; have HB := n5_; clear n0_ n1_ n2_ n3_ n4_ n5_; clear hb ho22; obtain ⟨Ao23, co23, eo23⟩ := Kd.R_slice HO289.out; subst eo23) | (go_at_call 17; (with_reducible refine (sleuthlaw44_same.calls k _ _ t277 _ _ y287 true _ ?side1 ?side2 ?side3 ?side4 A13.out).mono ?_); (case side1 => exact qx8_7); (case side2 => exact (Kd.R_reads' HO279.out).2.1); (case side3 => exact qx8_11); (case side4 => exact (Kd.R_reads' HO289.out).2.1); rintro e w' ⟨rfl, ⟨nd, rfl⟩⟩; have hcz24_0 : w21.cell? ⟨gb282, 0, none⟩ = some (.slice Ao9 t277.length co9) := (blk_cell BK282.out 0).trans rfl; have hcz24_1 : w21.cell? ⟨gb282, 1, none⟩ = some (.int .i64 t280) := (blk_cell BK282.out 1).trans rfl; have hfz24_0 := blk_frozen BK282.out 0; have hfz24_1 := blk_frozen BK282.out 1) | ((with_reducible refine gate_dst (N := 36) rfl ?_); (try (refine gate_guard (by rfl) ?_; dsimp only)); refine Kd.R_lit (Kd.int .i64) _ 3 ?hg (N := 36) ?hd (xs := ([(-2), 0, 0, 2, 2, 2] : List Int)) (inner := [.int .i64 (-2), .int .i64 0, .int .i64 0, .int .i64 2, .int .i64 2, .int .i64 2]) (ok := fun _ => True) (okp := fun _ => True) ?hr ?hp (fun _ hk => hk) trivial (Below.refl _ _) (Nat.le_refl _) (by simp) ?_; (case hd => rfl); (case hg => rfl); (case hr => exact qx8_22); (case hp => exact qx8_13); intro v292 w25 ho26 hb hg_ hnew_; clear hg_ hnew_; (first | rw [← Ny291.out] at ho26 | (simp only [Int.reduceToNat] at ho26; rw [← Ny291.out] at ho26)); have n0_ := Aside0.mk (Kd.R_elder' qx8_2 (Kd.R_base ho26) hb); have n1_ := Aside0.mk (Kd.R_elder' qx8_3 (Kd.R_base ho26) hb); have n2_ := Aside0.mk (Kd.R_elder' qx8_5 (Kd.R_base ho26) hb); have n3_ := Aside0.mk (Kd.R_elder' qx8_14 (Kd.R_base ho26) hb); have n4_ := Aside0.mk (Kd.R_lower (Kd.R_new' (Kd.R_new' (Kd.R_new' (Kd.R_new' ho26 (Kd.R_lt qx8_2)) (Kd.R_lt qx8_3)) (Kd.R_lt qx8_5)) (Kd.R_lt qx8_14)) (below_size qx8_1)); have n5_ := Aside0.mk (blk_below (g := gb282) (o := .cells #[.slice Ao9 t277.length co9, .int .i64 t280] 27 (0, 0)) qx8_4 hb); have n6_ := Aside0.mk (below_step qx8_1 hb); clear HO276; clear HO279; clear HO286; clear HO289; clear BK282; clear HB; have HO276 := n0_; have HO279 := n1_; have HO286 := n2_; have HO289 := n3_; have HO293 := n4_; have BK282 := n5_; have HB := n6_; clear n0_ n1_ n2_ n3_ n4_ n5_ n6_; clear hb ho26; obtain ⟨Ao27, co27, eo27⟩ := Kd.R_slice HO286.out; subst eo27; obtain ⟨Ao28, co28, eo28⟩ := Kd.R_slice HO293.out; subst eo28) | (go_at_call 17; (with_reducible refine (sleuthlaw44_same.calls k _ _ t283 _ _ y291 true _ ?side1 ?side2 ?side3 ?side4 A17.out).mono ?_); (case side1 => exact qx8_18); (case side2 => exact (Kd.R_reads' HO286.out).2.1); (case side3 => exact qx8_25); (case side4 => exact (Kd.R_reads' HO293.out).2.1); rintro e w' ⟨rfl, ⟨nd, rfl⟩⟩; have hcz29_0 : w25.cell? ⟨gb282, 0, none⟩ = some (.slice Ao9 t277.length co9) := (blk_cell BK282.out 0).trans rfl; have hcz29_1 : w25.cell? ⟨gb282, 1, none⟩ = some (.int .i64 t280) := (blk_cell BK282.out 1).trans rfl; have hfz29_0 := blk_frozen BK282.out 0; have hfz29_1 := blk_frozen BK282.out 1) | (go_at_call 20; (with_reducible refine (segmentation_Verify.calls k _ _ y274 2 _ _ t283 _ _ t277 t280 t295 _ ?side1 ?side2 ?side3 ?side4 ?side5 ?side6 A19.out).mono ?_); (case side1 => exact qx8_24); (case side2 => exact (Kd.R_reads' HO276.out).2.1); (case side3 => exact qx8_18); (case side4 => exact (Kd.R_reads' HO286.out).2.1); (case side5 => exact qx8_7); (case side6 => exact (Kd.R_reads' HO279.out).2.1); rintro e w30 ⟨rfl, hb⟩; have n0_ := Aside0.mk (Kd.R_below qx8_2 hb); have n1_ := Aside0.mk (Kd.R_below qx8_3 hb); have n2_ := Aside0.mk (Kd.R_below qx8_5 hb); have n3_ := Aside0.mk (Kd.R_below qx8_14 hb); have n4_ := Aside0.mk (Kd.R_below (by (with_reducible repeat (first | apply Kd.R_alloc | apply Kd.R_drewN | apply Kd.R_drew)); exact HO293.out) hb); have n5_ := Aside0.mk (blk_below (g := gb282) (o := .cells #[.slice Ao9 t277.length co9, .int .i64 t280] 27 (0, 0)) qx8_4 hb); have n6_ := Aside0.mk (below_step qx8_1 hb); clear HO276; clear HO279; clear HO286; clear HO289; clear HO293; clear BK282; clear HB; have HO276 := n0_; have HO279 := n1_; have HO286 := n2_; have HO289 := n3_; have HO293 := n4_; have BK282 := n5_; have HB := n6_; clear n0_ n1_ n2_ n3_ n4_ n5_ n6_; (try clear hb); (try clear hb2); (try clear hk); (try clear hi)))
  go_meet
  case rel => exact ⟨_, ((t295 == 0)), qx8_12, H', ⟨qx8_23⟩, ⟨qx8_8⟩, ⟨qx8_4⟩, ⟨qx8_1⟩⟩
 clear HC3
 try clear c1
 try clear p2
 try clear c12
 try clear c12b0
 try clear c12b1
 try clear c13
 try clear c14
 try clear c15
 try clear c15b0
 try clear c15b1
 try clear c16
 try clear c16b0
 try clear c16b1
 try clear c18
 try clear hcz10_0
 try clear hcz10_1
 try clear hcz20_0
 try clear hcz20_1
 try clear hcz24_0
 try clear hcz24_1
 try clear hcz29_0
 try clear hcz29_1
 try clear hcz31_0
 try clear hcz31_1
 try clear hcz35_0
 try clear hcz35_1
 try clear hcz40_0
 try clear hcz40_1
 try clear hcz44_0
 try clear hcz44_1
 try clear hcz45_0
 try clear hcz45_1
 try clear hcz49_0
 try clear hcz49_1
 try clear hcz50_0
 try clear hcz50_1
 try clear hfz10_0
 try clear hfz10_1
 try clear hfz20_0
 try clear hfz20_1
 try clear hfz24_0
 try clear hfz24_1
 try clear hfz29_0
 try clear hfz29_1
 try clear hfz31_0
 try clear hfz31_1
 try clear hfz35_0
 try clear hfz35_1
 try clear hfz40_0
 try clear hfz40_1
 try clear hfz44_0
 try clear hfz44_1
 try clear hfz45_0
 try clear hfz45_1
 try clear hfz49_0
 try clear hfz49_1
 try clear hfz50_0
 try clear hfz50_1
 obtain ⟨kq, x0_2, rfl, HA, HJ2, HO_283000, BK282, HB⟩ := hcut
 cases kq with
 | zero => exact absurd HA.out (by simp [sleuthlaw44_known.j0])
 | succ kj2 =>
  have H := HA.out
  clear HA
  simp only [sleuthlaw44_known.j0] at H
  obtain rfl := Option.some.inj H
  go_wp2
  go_ret
  exact ⟨qx8_10, qx8_1⟩

/-! ### sleuthlaw44_points: function 14 -/
def sleuthlaw44_points.l0 : Nat → List Int → List Int → Int → Option (List Int)
 | 0, _, _, _ => none
 | k + 1, x0, x3, x4 => if x4 < (x0.length : Int) then (if x4 < 9 then (if 0 ≤ x4 then (if x3.length < 17592186044416 then (sleuthlaw44_points.l0 k x0 (x3 ++ [wrap64 ((wrap64 (Int.tmod (rd x0 x4) 32)) - 8)]) (wrap64 (x4 + 1))) else (none)) else (none)) else (if (x3.length : Int) = 0 then (if x3.length < 17592186044416 then (some (x3 ++ [3])) else (none)) else (some x3))) else (if (x3.length : Int) = 0 then (if x3.length < 17592186044416 then (some (x3 ++ [3])) else (none)) else (some x3))
def sleuthlaw44_points.f (k : Nat) (l0 : List Int) : Option (List Int) := sleuthlaw44_points.l0 k l0 (([] : List Int)) 0
theorem sleuthlaw44_points.mono_l : ∀ k, (∀ y0 y1 y2, LeO (sleuthlaw44_points.l0 k y0 y1 y2) (sleuthlaw44_points.l0 (k + 1) y0 y1 y2))
 | 0 => fun _ _ _ r h => by simp [sleuthlaw44_points.l0] at h
 | k + 1 => by
  have ih0 := sleuthlaw44_points.mono_l k
  ·intro y0 y1 y2
   unfold sleuthlaw44_points.l0
   repeat' first
   | (with_reducible exact ih0 _ _ _)
   | (with_reducible exact LeO.refl _)
   | (with_reducible exact LeO.none _)
   | (with_reducible refine LeO.ite ?_ ?_)
   | (with_reducible refine LeO.bind ?_ (fun _ => ?_))
   | exact ih0 _ _ _
   | exact LeO.none _
   | refine LeO.ite ?_ ?_
   | refine LeO.bind ?_ (fun _ => ?_)
theorem sleuthlaw44_points.mono : ∀ a0 k, LeO (sleuthlaw44_points.f k a0) (sleuthlaw44_points.f (k + 1) a0) := by
 intro a0 k
 have ih0 := sleuthlaw44_points.mono_l k
 unfold sleuthlaw44_points.f
 repeat' first
   | (with_reducible exact ih0 _ _ _)
   | (with_reducible exact LeO.refl _)
   | (with_reducible exact LeO.none _)
   | (with_reducible refine LeO.ite ?_ ?_)
   | (with_reducible refine LeO.bind ?_ (fun _ => ?_))
   | exact ih0 _ _ _
   | exact LeO.none _
   | refine LeO.ite ?_ ?_
   | refine LeO.bind ?_ (fun _ => ?_)
set_option maxHeartbeats 8000000 in
set_option maxRecDepth 100000 in
theorem sleuthlaw44_points.calls (k : Nat) (A0 : Option Addr) (c0 : Nat) (l0 : List Int) (r : List Int) (w : World) (hr0 : Kd.C (Kd.int .u8) w A0 l0.length l0) (hc0 : l0.length ≤ c0) (h : sleuthlaw44_points.f k l0 = some r) :
  Calls Try.prog 14 #[.slice A0 l0.length c0] w fun e w' => ∃ v0_ : Value, e = .returned (v0_) ∧ Kd.R (Kd.int .i64) 3 w' w.heap.size (fun _ => True) v0_ r ∧ Below w.heap.size w w' := by
 have HR0 := Aside0.mk hr0
 have HC0 := Aside0.mk hc0
 clear hr0 hc0
 have HB := Aside0.mk (Below.refl w.heap.size w)
 have H : (sleuthlaw44_points.l0 k l0 (([] : List Int)) 0) = some r := h
 clear h
 obtain ⟨y296, hy296⟩ : ∃ y_ : List Int, y_ = (([] : List Int)) := ⟨_, rfl⟩
 replace H : (sleuthlaw44_points.l0 k l0 y296 0) = some r := by first | (rw [hy296]; with_reducible exact H) | (have H2_ := (Option.bind_some _ _).symm.trans H; rw [hy296]; with_reducible exact H2_) | (have H2_ := (Option.bind_some _ _).symm.trans H; with_reducible exact H2_) | with_reducible exact H | (rw [hy296]; exact H) | exact H
 have Ny296 := Aside0.mk hy296
 clear hy296
 have H' := Aside0.mk H
 clear H
 go_enter Try.func14, Try.ntmps14
 go_wp2_with (first | ((with_reducible refine gate_dst (N := 5) rfl ?_); refine Kd.R_lit (Kd.int .i64) _ 3 ?hg (N := 5) ?hd (xs := ([] : List Int)) (inner := []) (ok := fun _ => True) (okp := fun _ => True) ?hr ?hp (fun _ hk => hk) trivial (Below.refl _ _) (Nat.le_refl _) (by simp) ?_; (case hd => rfl); (case hg => rfl); (case hr => exact qx8_22); (case hp => exact (Reps.none _ _)); intro v297 w2 ho3 hb hg_ hnew_; clear hg_ hnew_; (first | rw [← Ny296.out] at ho3 | (simp only [Int.reduceToNat] at ho3; rw [← Ny296.out] at ho3)); have n0_ := Aside0.mk (Kd.R_lower ho3 (below_size qx8_0)); have n1_ := Aside0.mk (below_step qx8_0 hb); clear HB; have HO298 := n0_; have HB := n1_; clear n0_ n1_; clear hb ho3))
 go_loopg [3, 4] k (fun kq v3 v4 w' => ∃ (x3_1 : List Int) (x4_1 : Int), v4 = .int .i64 x4_1 ∧ Aside0 (sleuthlaw44_points.l0 kq l0 x3_1 x4_1 = some r) ∧ Aside0 (kq ≤ k) ∧ Aside0 (Kd.R (Kd.int .i64) 3 w' w.heap.size (fun _ => True) v3 x3_1) ∧ Aside0 (Below w.heap.size w w'))
 case atStart => exact ⟨(y296), (0), qx8_12, H', ⟨Nat.le_refl _⟩, ⟨by (with_reducible repeat (first | apply Kd.R_alloc | apply Kd.R_drewN | apply Kd.R_drew)); exact HO298.out⟩, ⟨qx8_0⟩⟩
 clear H'
 try clear c1
 try clear p2
 obtain ⟨x3_1, x4_1, rfl, HA, HK1, HO_3, HB⟩ := hrel
 cases gk with
 | zero => exact absurd HA.out (by simp [sleuthlaw44_points.l0])
 | succ k1 =>
  have H := HA.out
  clear HA
  simp only [sleuthlaw44_points.l0] at H
  by_cases c4 : x4_1 < (l0.length : Int)
  rotate_left
  ·rw [if_neg c4] at H
   have c4b0 : decide (x4_1 < (l0.length : Int)) = false := decide_eq_false c4
   clear c4
   by_cases c14 : (x3_1.length : Int) = 0
   rotate_left
   ·rw [if_neg c14] at H
    have c14b0 : ((x3_1.length : Int) == 0) = false := beq_eq_false_iff_ne.mpr c14
    have c14b1 : ((x3_1.length : Int) != 0) = true := bne_iff_ne.mpr c14
    have c14b2 : ¬ (x3_1 = []) := fun h_ => c14 (by rw [h_]; rfl)
    obtain rfl := Option.some.inj H
    obtain ⟨Ao18, co18, eo18⟩ := Kd.R_slice HO_3.out
    subst eo18
    go_wp2
    go_ret
    exact ⟨_, qx8_10, qx8_15, qx8_0⟩
   rw [if_pos c14] at H
   have c14b0 : ((x3_1.length : Int) == 0) = true := beq_iff_eq.mpr c14
   have c14b1 : ((x3_1.length : Int) != 0) = false := bne_eq_false_iff_eq.mpr c14
   clear c14
   by_cases c15 : x3_1.length < 17592186044416
   rotate_left
   ·rw [if_neg c15] at H
    exact absurd H (by simp)
   rw [if_pos c15] at H
   have LMc15 := Aside0.mk c15
   clear c15
   obtain ⟨y306, hy306⟩ : ∃ y_ : List Int, y_ = (x3_1 ++ [3]) := ⟨_, rfl⟩
   replace H : (some y306) = some r := by first | (rw [hy306]; with_reducible exact H) | (have H2_ := (Option.bind_some _ _).symm.trans H; rw [hy306]; with_reducible exact H2_) | (have H2_ := (Option.bind_some _ _).symm.trans H; with_reducible exact H2_) | with_reducible exact H | (rw [hy306]; exact H) | exact H
   have Ny306 := Aside0.mk hy306
   clear hy306
   obtain rfl := Option.some.inj H
   obtain ⟨Ao16, co16, eo16⟩ := Kd.R_slice HO_3.out
   subst eo16
   go_wp2_with (first | ((with_reducible refine gate_builtin (b := .append) (xs := #[.tmp 29, .tmp 30]) rfl ?_); at_builtin; refine Kd.R_append (Kd.int .i64) (w0 := w) w.heap.size rfl (.tmp 29) (.tmp 30) 24 3 (.int .i64 0) 8 rfl Try.underlying24 info3 rfl (by decide) (by omega) (.slice Ao16 x3_1.length co16) x3_1 3 [.int .i64 3] (fun _ => True) (fun _ => False) rfl rfl ?aP (fun _ hk => hk.elim) ?aF ?aO ?aB ?aS ?aL ?_; (case aP => exact rfl); (case aB => exact qx8_0); (case aF => exact (fun _ _ => trivial)); (case aO => exact qx8_15); (case aS => exact (below_size qx8_0)); (case aL => have := LMc15.out; omega); intro v307 w17 ho hb hg hat; rw [← Ny306.out] at ho; have n0_ := Aside0.mk (hb); have n1_ := Aside0.mk (ho); clear HB; clear HO_3; have HB := n0_; have HO308 := n1_; clear n0_ n1_; clear ho hb hg hat))
   go_ret
   exact ⟨_, qx8_10, by (with_reducible repeat (first | apply Kd.R_alloc | apply Kd.R_drewN | apply Kd.R_drew)); exact HO308.out, qx8_0⟩
  rw [if_pos c4] at H
  have c4b0 : decide (x4_1 < (l0.length : Int)) = true := decide_eq_true c4
  clear c4
  by_cases c5 : x4_1 < 9
  ·rw [if_pos c5] at H
   have c5b0 : decide (x4_1 < 9) = true := decide_eq_true c5
   clear c5
   by_cases c6 : 0 ≤ x4_1
   rotate_left
   ·rw [if_neg c6] at H
    exact absurd H (by simp)
   rw [if_pos c6] at H
   have c6b0 : decide (0 ≤ x4_1) = true := decide_eq_true c6
   clear c6
   by_cases c7 : x3_1.length < 17592186044416
   rotate_left
   ·rw [if_neg c7] at H
    exact absurd H (by simp)
   rw [if_pos c7] at H
   have LMc7 := Aside0.mk c7
   clear c7
   obtain ⟨y300, hy300⟩ : ∃ y_ : List Int, y_ = (x3_1 ++ [wrap64 ((wrap64 (Int.tmod (rd l0 x4_1) 32)) - 8)]) := ⟨_, rfl⟩
   replace H : (sleuthlaw44_points.l0 k1 l0 y300 (wrap64 (x4_1 + 1))) = some r := by first | (rw [hy300]; with_reducible exact H) | (have H2_ := (Option.bind_some _ _).symm.trans H; rw [hy300]; with_reducible exact H2_) | (have H2_ := (Option.bind_some _ _).symm.trans H; with_reducible exact H2_) | with_reducible exact H | (rw [hy300]; exact H) | exact H
   have Ny300 := Aside0.mk hy300
   clear hy300
   have H' := Aside0.mk H
   clear H
   have p299 : 0 ≤ (x4_1 : Int) := of_decide_eq_true qx8_6
   have q299 : x4_1 < (l0.length : Int) := of_decide_eq_true qx8_6
   obtain ⟨ad299, e299, hx299_0⟩ := Kd.at_int HR0.out x4_1 p299 q299
   cases e299
   replace hx299_0 := (HB.out.cell (World.block_lt_of_cell? w _ hx299_0)).trans hx299_0
   replace p299 := eq_true p299
   replace q299 := eq_true q299
   go_wp2_with (first | ((with_reducible refine gate_builtin (b := .append) (xs := #[.tmp 16, .tmp 24]) rfl ?_); at_builtin; refine Kd.R_append (Kd.int .i64) (w0 := w) w.heap.size rfl (.tmp 16) (.tmp 24) 24 3 (.int .i64 0) 8 rfl Try.underlying24 info3 rfl (by decide) (by omega) u3 x3_1 (wrap64 ((wrap64 (Int.tmod (rd l0 x4_1) 32)) - 8)) [.int .i64 (wrap64 ((wrap64 (Int.tmod (rd l0 x4_1) 32)) - 8))] (fun _ => True) (fun _ => False) rfl rfl ?aP (fun _ hk => hk.elim) ?aF ?aO ?aB ?aS ?aL ?_; (case aP => exact rfl); (case aB => exact qx8_0); (case aF => exact (fun _ _ => trivial)); (case aO => exact qx8_15); (case aS => exact (below_size qx8_0)); (case aL => have := LMc7.out; omega); intro v301 w8 ho hb hg hat; rw [← Ny300.out] at ho; have n0_ := Aside0.mk (hb); have n1_ := Aside0.mk (ho); clear HB; clear HO_3; have HB := n0_; have HO302 := n1_; clear n0_ n1_; clear ho hb hg hat))
   go_roundg k1
   case measure => have := HK1.out; omega
   case rel => exact ⟨(y300), (wrap64 (x4_1 + 1)), qx8_12, H', ⟨by have := HK1.out; omega⟩, ⟨by (with_reducible repeat (first | apply Kd.R_alloc | apply Kd.R_drewN | apply Kd.R_drew)); exact HO302.out⟩, ⟨qx8_0⟩⟩
  rw [if_neg c5] at H
  have c5b0 : decide (x4_1 < 9) = false := decide_eq_false c5
  clear c5
  by_cases c9 : (x3_1.length : Int) = 0
  rotate_left
  ·rw [if_neg c9] at H
   have c9b0 : ((x3_1.length : Int) == 0) = false := beq_eq_false_iff_ne.mpr c9
   have c9b1 : ((x3_1.length : Int) != 0) = true := bne_iff_ne.mpr c9
   have c9b2 : ¬ (x3_1 = []) := fun h_ => c9 (by rw [h_]; rfl)
   obtain rfl := Option.some.inj H
   obtain ⟨Ao13, co13, eo13⟩ := Kd.R_slice HO_3.out
   subst eo13
   go_wp2
   go_ret
   exact ⟨_, qx8_10, qx8_15, qx8_0⟩
  rw [if_pos c9] at H
  have c9b0 : ((x3_1.length : Int) == 0) = true := beq_iff_eq.mpr c9
  have c9b1 : ((x3_1.length : Int) != 0) = false := bne_eq_false_iff_eq.mpr c9
  clear c9
  by_cases c10 : x3_1.length < 17592186044416
  rotate_left
  ·rw [if_neg c10] at H
   exact absurd H (by simp)
  rw [if_pos c10] at H
  have LMc10 := Aside0.mk c10
  clear c10
  obtain ⟨y303, hy303⟩ : ∃ y_ : List Int, y_ = (x3_1 ++ [3]) := ⟨_, rfl⟩
  replace H : (some y303) = some r := by first | (rw [hy303]; with_reducible exact H) | (have H2_ := (Option.bind_some _ _).symm.trans H; rw [hy303]; with_reducible exact H2_) | (have H2_ := (Option.bind_some _ _).symm.trans H; with_reducible exact H2_) | with_reducible exact H | (rw [hy303]; exact H) | exact H
  have Ny303 := Aside0.mk hy303
  clear hy303
  obtain rfl := Option.some.inj H
  obtain ⟨Ao11, co11, eo11⟩ := Kd.R_slice HO_3.out
  subst eo11
  go_wp2_with (first | ((with_reducible refine gate_builtin (b := .append) (xs := #[.tmp 29, .tmp 30]) rfl ?_); at_builtin; refine Kd.R_append (Kd.int .i64) (w0 := w) w.heap.size rfl (.tmp 29) (.tmp 30) 24 3 (.int .i64 0) 8 rfl Try.underlying24 info3 rfl (by decide) (by omega) (.slice Ao11 x3_1.length co11) x3_1 3 [.int .i64 3] (fun _ => True) (fun _ => False) rfl rfl ?aP (fun _ hk => hk.elim) ?aF ?aO ?aB ?aS ?aL ?_; (case aP => exact rfl); (case aB => exact qx8_0); (case aF => exact (fun _ _ => trivial)); (case aO => exact qx8_15); (case aS => exact (below_size qx8_0)); (case aL => have := LMc10.out; omega); intro v304 w12 ho hb hg hat; rw [← Ny303.out] at ho; have n0_ := Aside0.mk (hb); have n1_ := Aside0.mk (ho); clear HB; clear HO_3; have HB := n0_; have HO305 := n1_; clear n0_ n1_; clear ho hb hg hat))
  go_ret
  exact ⟨_, qx8_10, by (with_reducible repeat (first | apply Kd.R_alloc | apply Kd.R_drewN | apply Kd.R_drew)); exact HO305.out, qx8_0⟩

/-! ### sleuthlaw44_divided: function 29 -/
mutual
def sleuthlaw44_divided.l0 : Nat → List Int → List Int → List (List Int) → Int → Int → Option ((List (List Int)) × Int)
 | 0, _, _, _, _, _ => none
 | k + 1, x0, x1, x6, x7, x8 => if x8 < (x1.length : Int) then (if 0 ≤ x8 then (if (rd x1 x8) < 1 then (sleuthlaw44_divided.j1 k x0 x1 x6 x7 x8 true) else (sleuthlaw44_divided.j1 k x0 x1 x6 x7 x8 (decide ((rd x1 x8) ≥ (x0.length : Int))))) else (none)) else (if 0 ≤ x7 then (if x7 ≤ (x0.length : Int) then (if x6.length < 5864062014805 then (some ((x6 ++ [(x0.drop (x7 : Int).toNat)]), 0)) else (none)) else (none)) else (none))
def sleuthlaw44_divided.j1 : Nat → List Int → List Int → List (List Int) → Int → Int → Bool → Option ((List (List Int)) × Int)
 | 0, _, _, _, _, _, _ => none
 | k + 1, x0, x1, x6, x7, x8, x28 => if x28 = true then (some (([] : List (List Int)), 2)) else (if 0 ≤ x8 then (if x8 < (x1.length : Int) then (if (rd x1 x8) ≤ x7 then (some (([] : List (List Int)), 8)) else (if 0 ≤ x7 then (if x7 ≤ (rd x1 x8) then (if (rd x1 x8) ≤ (x0.length : Int) then (if x6.length < 5864062014805 then (sleuthlaw44_divided.l0 k x0 x1 (x6 ++ [((x0.take ((rd x1 x8) : Int).toNat).drop (x7 : Int).toNat)]) (rd x1 x8) (wrap64 (x8 + 1))) else (none)) else (none)) else (none)) else (none))) else (none)) else (none))
end
def sleuthlaw44_divided.f (k : Nat) (l0 : List Int) (l1 : List Int) : Option ((List (List Int)) × Int) := sleuthlaw44_divided.l0 k l0 l1 ([] : List (List Int)) 0 0
theorem sleuthlaw44_divided.mono_l : ∀ k, (∀ y0 y1 y2 y3 y4, LeO (sleuthlaw44_divided.l0 k y0 y1 y2 y3 y4) (sleuthlaw44_divided.l0 (k + 1) y0 y1 y2 y3 y4)) ∧ (∀ y0 y1 y2 y3 y4 y5, LeO (sleuthlaw44_divided.j1 k y0 y1 y2 y3 y4 y5) (sleuthlaw44_divided.j1 (k + 1) y0 y1 y2 y3 y4 y5))
 | 0 => ⟨fun _ _ _ _ _ r h => by simp [sleuthlaw44_divided.l0] at h, fun _ _ _ _ _ _ r h => by simp [sleuthlaw44_divided.j1] at h⟩
 | k + 1 => by
  obtain ⟨ih0, ih1⟩ := sleuthlaw44_divided.mono_l k
  refine ⟨?_, ?_⟩
  ·intro y0 y1 y2 y3 y4
   unfold sleuthlaw44_divided.l0
   repeat' first
   | (with_reducible exact ih0 _ _ _ _ _)
   | (with_reducible exact ih1 _ _ _ _ _ _)
   | (with_reducible exact LeO.refl _)
   | (with_reducible exact LeO.none _)
   | (with_reducible refine LeO.ite ?_ ?_)
   | (with_reducible refine LeO.bind ?_ (fun _ => ?_))
   | exact ih0 _ _ _ _ _
   | exact ih1 _ _ _ _ _ _
   | exact LeO.none _
   | refine LeO.ite ?_ ?_
   | refine LeO.bind ?_ (fun _ => ?_)
  ·intro y0 y1 y2 y3 y4 y5
   unfold sleuthlaw44_divided.j1
   repeat' first
   | (with_reducible exact ih0 _ _ _ _ _)
   | (with_reducible exact ih1 _ _ _ _ _ _)
   | (with_reducible exact LeO.refl _)
   | (with_reducible exact LeO.none _)
   | (with_reducible refine LeO.ite ?_ ?_)
   | (with_reducible refine LeO.bind ?_ (fun _ => ?_))
   | exact ih0 _ _ _ _ _
   | exact ih1 _ _ _ _ _ _
   | exact LeO.none _
   | refine LeO.ite ?_ ?_
   | refine LeO.bind ?_ (fun _ => ?_)
theorem sleuthlaw44_divided.mono : ∀ a0 a1 k, LeO (sleuthlaw44_divided.f k a0 a1) (sleuthlaw44_divided.f (k + 1) a0 a1) := by
 intro a0 a1 k
 obtain ⟨ih0, ih1⟩ := sleuthlaw44_divided.mono_l k
 unfold sleuthlaw44_divided.f
 repeat' first
   | (with_reducible exact ih0 _ _ _ _ _)
   | (with_reducible exact ih1 _ _ _ _ _ _)
   | (with_reducible exact LeO.refl _)
   | (with_reducible exact LeO.none _)
   | (with_reducible refine LeO.ite ?_ ?_)
   | (with_reducible refine LeO.bind ?_ (fun _ => ?_))
   | exact ih0 _ _ _ _ _
   | exact ih1 _ _ _ _ _ _
   | exact LeO.none _
   | refine LeO.ite ?_ ?_
   | refine LeO.bind ?_ (fun _ => ?_)
set_option maxHeartbeats 8000000 in
set_option maxRecDepth 100000 in
theorem sleuthlaw44_divided.calls (k : Nat) (P0_ : Nat → Prop) (A0 : Option Addr) (c0 : Nat) (l0 : List Int) (A1 : Option Addr) (c1 : Nat) (l1 : List Int) (r1 : List (List Int)) (r2 : Int) (w : World) (hs0 : Kd.V (Kd.int .i64) 3 w w.heap.size (fun k_ => P0_ k_) (.slice A0 l0.length c0) l0) (hr1 : Kd.C (Kd.int .i64) w A1 l1.length l1) (hc1 : l1.length ≤ c1) (h : sleuthlaw44_divided.f k l0 l1 = some (r1, r2)) :
  Calls Try.prog 29 #[.slice A0 l0.length c0, .slice A1 l1.length c1] w fun e w' => ∃ v0_ : Value, e = .returned (.tuple #[v0_, .int .i64 r2]) ∧ Kd.N (Kd.slice 3 (Kd.int .i64)) 24 w' w.heap.size (fun k_ => (P0_ k_ ∨ w.heap.size ≤ k_)) v0_ r1 ∧ Below w.heap.size w w' := by
 have HO0 := Aside0.mk (show Kd.V (Kd.int .i64) 3 w w.heap.size (fun k_ => (P0_ k_ ∨ w.heap.size ≤ k_)) (.slice A0 l0.length c0) l0 from Kd.V_mono hs0 (fun k_ hk => .inl hk))
 have HR1 := Aside0.mk hr1
 have HC1 := Aside0.mk hc1
 clear hr1 hc1
 have HB := Aside0.mk (Below.refl w.heap.size w)
 have H : (sleuthlaw44_divided.l0 k l0 l1 ([] : List (List Int)) 0 0) = some (r1, r2) := h
 clear h
 have H' := Aside0.mk H
 clear H
 go_enter Try.func29, Try.ntmps29
 go_wp2
 go_loopg [6, 7, 8] k (fun kq v6 v7 v8 w' => ∃ (x6_1 : List (List Int)) (x7_1 : Int) (x8_1 : Int), v7 = .int .i64 x7_1 ∧ v8 = .int .i64 x8_1 ∧ Aside0 (sleuthlaw44_divided.l0 kq l0 l1 x6_1 x7_1 x8_1 = some (r1, r2)) ∧ Aside0 (kq ≤ k) ∧ Aside0 (Kd.V (Kd.int .i64) 3 w' w.heap.size (fun k_ => (P0_ k_ ∨ w.heap.size ≤ k_) ∧ some k_ ≠ (v6 : Value).ownBlock) (.slice A0 l0.length c0) l0) ∧ Aside0 (Kd.N (Kd.slice 3 (Kd.int .i64)) 24 w' w.heap.size (fun k_ => (P0_ k_ ∨ w.heap.size ≤ k_)) v6 x6_1) ∧ Aside0 (Below w.heap.size w w'))
 case atStart => exact ⟨(([] : List (List Int))), (0), (0), qx8_12, qx8_12, H', ⟨Nat.le_refl _⟩, ⟨by (with_reducible repeat (first | apply Kd.V_alloc | apply Kd.V_drewN | apply Kd.V_drew)); exact Kd.V_mono HO0.out (fun _ hk => ⟨hk, (by simp [Value.ownBlock])⟩)⟩, ⟨qx8_21⟩, ⟨qx8_0⟩⟩
 clear H'
 try clear c1
 try clear c2
 try clear p2
 obtain ⟨x6_1, x7_1, x8_1, rfl, rfl, HA, HK1, HO_0, HO_6, HB⟩ := hrel
 cases gk with
 | zero => exact absurd HA.out (by simp [sleuthlaw44_divided.l0])
 | succ k1 =>
  have H := HA.out
  clear HA
  simp only [sleuthlaw44_divided.l0] at H
  by_cases c3 : x8_1 < (l1.length : Int)
  rotate_left
  ·rw [if_neg c3] at H
   have c3b0 : decide (x8_1 < (l1.length : Int)) = false := decide_eq_false c3
   clear c3
   by_cases c17 : 0 ≤ x7_1
   rotate_left
   ·rw [if_neg c17] at H
    exact absurd H (by simp)
   rw [if_pos c17] at H
   have c17b0 := eq_true c17
   have c17b1 : decide (0 ≤ x7_1) = true := decide_eq_true c17
   clear c17
   by_cases c18 : x7_1 ≤ (l0.length : Int)
   rotate_left
   ·rw [if_neg c18] at H
    exact absurd H (by simp)
   rw [if_pos c18] at H
   have c18b0 := eq_true c18
   have c18b1 : decide (x7_1 ≤ (l0.length : Int)) = true := decide_eq_true c18
   clear c18
   obtain ⟨y309, hy309⟩ : ∃ y_ : List Int, y_ = (l0.drop (x7_1 : Int).toNat) := ⟨_, rfl⟩
   replace H : (if x6_1.length < 5864062014805 then (some ((x6_1 ++ [y309]), 0)) else (none)) = some (r1, r2) := by first | (rw [hy309]; with_reducible exact H) | (have H2_ := (Option.bind_some _ _).symm.trans H; rw [hy309]; with_reducible exact H2_) | (have H2_ := (Option.bind_some _ _).symm.trans H; with_reducible exact H2_) | with_reducible exact H | (rw [hy309]; exact H) | exact H
   have Ny309 := Aside0.mk hy309
   clear hy309
   by_cases c19 : x6_1.length < 5864062014805
   rotate_left
   ·rw [if_neg c19] at H
    exact absurd H (by simp)
   rw [if_pos c19] at H
   have LMc19 := Aside0.mk c19
   clear c19
   obtain ⟨y314, hy314⟩ : ∃ y_ : List (List Int), y_ = (x6_1 ++ [y309]) := ⟨_, rfl⟩
   replace H : (some (y314, 0)) = some (r1, r2) := by first | (rw [hy314]; with_reducible exact H) | (have H2_ := (Option.bind_some _ _).symm.trans H; rw [hy314]; with_reducible exact H2_) | (have H2_ := (Option.bind_some _ _).symm.trans H; with_reducible exact H2_) | with_reducible exact H | (rw [hy314]; exact H) | exact H
   have Ny314 := Aside0.mk hy314
   clear hy314
   simp only [Option.some.injEq, Prod.mk.injEq] at H
   obtain ⟨rfl, rfl⟩ := H
   have q20 : (x7_1 : Int) ≤ ((l0.length : Int) : Int) := of_decide_eq_true qx8_6
   obtain ⟨i020, hi020, _, hsz20, _⟩ := info_parts info3
   have hroom20 : l0.length ≤ c0 := (Kd.V_reads' HO_0.out).2.1
   have hC20 : Kd.F (Kd.int .i64) _ _ A0 l0.length l0 := (Kd.V_at (base := w.heap.size) HO_0.out).2.2
   have q020 : (0 : Int) ≤ (x7_1 : Int) := of_decide_eq_true qx8_6
   have hcut20 := cut_from (P := Try.prog) 24 3 .i64 Try.underlying24 hi020 1 hsz20 A0 l0.length c0 x7_1 q020 q20
   have hr20 := Kd.F_cut (m := (x7_1 : Int).toNat) (c := c0) hC20 (by omega) hroom20
   obtain ⟨A20, hA20⟩ : ∃ A1, A1 = (if c0 = (x7_1 : Int).toNat then A0 else (A0 : Option Addr).map (·.add ((x7_1 : Int).toNat * 1))) := ⟨_, rfl⟩
   obtain ⟨c20, hc20⟩ : ∃ c1, c1 = c0 - (x7_1 : Int).toNat := ⟨_, rfl⟩
   have hy20 : y309.length = l0.length - (x7_1 : Int).toNat := (by rw [Ny309.out, List.length_drop] <;> omega)
   rw [show (l0).drop (x7_1 : Int).toNat = y309 from Ny309.out.symm] at hr20
   replace hr20 : Kd.F (Kd.int .i64) _ _ A20 y309.length y309 := (by rw [hA20]; exact hr20)
   rw [← hy20, ← hA20, ← hc20] at hcut20
   have HO313 := Aside0.mk (show Kd.V (Kd.int .i64) 3 _ w.heap.size _ (.slice A20 y309.length c20) y309 from Kd.V_mk (by rw [hy20, hc20]; exact Nat.sub_le_sub_right hroom20 _) hr20)
   have HC313 := Aside0.mk (show y309.length ≤ c20 from by rw [hy20, hc20]; exact Nat.sub_le_sub_right hroom20 _)
   clear hr20 hC20 hroom20 hi020 hsz20 hc20
   have KY20 := Aside0.mk hy20
   have KA20 := Aside0.mk hA20
   clear hy20 hA20
   replace q20 := eq_true q20
   go_wp2_with (first | ((with_reducible refine gate_builtin (b := .append) (xs := #[.tmp 49, .tmp 53]) rfl ?_); (try (refine gate_guard (by rfl) ?_; dsimp only)); at_builtin; refine Kd.N_append (Kd.slice 3 (Kd.int .i64)) (w0 := w) w.heap.size rfl (.tmp 49) (.tmp 53) 57 24 (.slice none 0 0) 24 rfl Try.underlying57 info24 rfl (by decide) (by omega) u6 x6_1 y309 [.slice A20 y309.length c20] (fun k_ => (P0_ k_ ∨ w.heap.size ≤ k_)) (fun k_ => ((fun k_ => (P0_ k_ ∨ w.heap.size ≤ k_))) k_ ∧ some k_ ≠ (u6 : Value).ownBlock) rfl rfl ?aP (fun _ hk => hk) ?aF ?aO ?aB ?aS ?aL ?_; (case aP => exact (Kd.FK_slice_mk (Kd.V_reads' (Kd.V_mono (ok' := (fun k_ => ((fun k_ => (P0_ k_ ∨ w.heap.size ≤ k_))) k_ ∧ some k_ ≠ (u6 : Value).ownBlock)) (HO313.out) (fun k_ hk => ⟨hk.1, hk.2⟩))).2.1 (Kd.V_F (Kd.V_mono (ok' := (fun k_ => ((fun k_ => (P0_ k_ ∨ w.heap.size ≤ k_))) k_ ∧ some k_ ≠ (u6 : Value).ownBlock)) (HO313.out) (fun k_ hk => ⟨hk.1, hk.2⟩))))); (case aB => exact qx8_0); (case aF => exact (fun k_ hk => (.inr (Nat.le_trans (below_size qx8_0) hk)))); (case aO => exact qx8_19); (case aS => exact (below_size qx8_0)); (case aL => have := LMc19.out; omega); intro v315 w21 ho hb hg hat; rw [← Ny314.out] at ho; have n0_ := Aside0.mk (Kd.V_afterv (ok := (fun k_ => (P0_ k_ ∨ w.heap.size ≤ k_))) qx8_16 hg hat); have n1_ := Aside0.mk (Kd.V_afterv (ok := (fun k_ => (P0_ k_ ∨ w.heap.size ≤ k_))) (by (with_reducible repeat (first | apply Kd.V_alloc | apply Kd.V_drewN | apply Kd.V_drew)); exact HO313.out) hg hat); have n2_ := Aside0.mk (hb); have n3_ := Aside0.mk (ho); clear HO_0; clear HO313; clear HB; clear HO_6; have HO_0 := n0_; have HO313 := n1_; have HB := n2_; have HO316 := n3_; clear n0_ n1_ n2_ n3_; clear ho hb hg hat))
   go_ret2
   exact ⟨_, qx8_10, by (with_reducible repeat (first | apply Kd.N_alloc | apply Kd.N_drewN | apply Kd.N_drew)); exact HO316.out, qx8_0⟩
  rw [if_pos c3] at H
  have c3b0 : decide (x8_1 < (l1.length : Int)) = true := decide_eq_true c3
  clear c3
  have HC4 := Aside0.mk H
  clear H
  go_upto_region 6 with (fail)
  go_cut [28] (fun v28 wc => ∃ (kq : Nat) (x28_3 : Bool), v28 = .bool x28_3 ∧ Aside0 (sleuthlaw44_divided.j1 kq l0 l1 x6_1 x7_1 x8_1 x28_3 = some (r1, r2)) ∧ Aside0 (kq ≤ k1) ∧ Aside0 (Kd.V (Kd.int .i64) 3 wc w.heap.size (fun k_ => (P0_ k_ ∨ w.heap.size ≤ k_) ∧ some k_ ≠ (u6 : Value).ownBlock) (.slice A0 l0.length c0) l0) ∧ Aside0 (Kd.N (Kd.slice 3 (Kd.int .i64)) 24 wc w.heap.size (fun k_ => (P0_ k_ ∨ w.heap.size ≤ k_)) u6 x6_1) ∧ Aside0 (Below w.heap.size w wc))
  case first =>
   have H := HC4.out
   clear HC4
   by_cases c5 : 0 ≤ x8_1
   rotate_left
   ·rw [if_neg c5] at H
    exact absurd H (by simp)
   rw [if_pos c5] at H
   have c5b0 : decide (0 ≤ x8_1) = true := decide_eq_true c5
   clear c5
   (first | rw [c5b0] | (simp only [i64_w, i32_w]; rw [c5b0]) | skip)
   by_cases c6 : (rd l1 x8_1) < 1
   ·rw [if_pos c6] at H
    have c6b0 : decide ((rd l1 x8_1) < 1) = true := decide_eq_true c6
    clear c6
    have H' := Aside0.mk H
    clear H
    have p317 : 0 ≤ (x8_1 : Int) := of_decide_eq_true qx8_6
    have q317 : x8_1 < (l1.length : Int) := of_decide_eq_true qx8_6
    obtain ⟨ad317, e317, hx317_0⟩ := Kd.at_int HR1.out x8_1 p317 q317
    cases e317
    replace hx317_0 := (HB.out.cell (World.block_lt_of_cell? w _ hx317_0)).trans hx317_0
    replace p317 := eq_true p317
    replace q317 := eq_true q317
    go_wp2
    go_meet
    case rel => exact ⟨_, (true), qx8_12, H', ⟨by have := HK1.out; first | omega | exact Nat.le_refl _⟩, ⟨qx8_16⟩, ⟨qx8_19⟩, ⟨qx8_0⟩⟩
   rw [if_neg c6] at H
   have c6b0 : decide ((rd l1 x8_1) < 1) = false := decide_eq_false c6
   clear c6
   have H' := Aside0.mk H
   clear H
   have p317 : 0 ≤ (x8_1 : Int) := of_decide_eq_true qx8_6
   have q317 : x8_1 < (l1.length : Int) := of_decide_eq_true qx8_6
   obtain ⟨ad317, e317, hx317_0⟩ := Kd.at_int HR1.out x8_1 p317 q317
   cases e317
   replace hx317_0 := (HB.out.cell (World.block_lt_of_cell? w _ hx317_0)).trans hx317_0
   replace p317 := eq_true p317
   replace q317 := eq_true q317
   have p318 : 0 ≤ (x8_1 : Int) := of_decide_eq_true qx8_6
   have q318 : x8_1 < (l1.length : Int) := of_decide_eq_true qx8_6
   obtain ⟨ad318, e318, hx318_0⟩ := Kd.at_int HR1.out x8_1 p318 q318
   obtain rfl : ad317 = ad318 := (by injection e318)
   replace hx318_0 := (HB.out.cell (World.block_lt_of_cell? w _ hx318_0)).trans hx318_0
   replace p318 := eq_true p318
   replace q318 := eq_true q318
   go_wp2
   go_meet
   case rel => exact ⟨_, (decide ((rd l1 x8_1) ≥ (l0.length : Int))), qx8_12, H', ⟨by have := HK1.out; first | omega | exact Nat.le_refl _⟩, ⟨qx8_16⟩, ⟨qx8_19⟩, ⟨qx8_0⟩⟩
  clear HC4
  try clear c1
  try clear c2
  try clear p2
  try clear c3
  try clear c3b0
  try clear p3
  try clear q3
  try clear hx3
  try clear c5
  try clear c5b0
  try clear c6
  try clear c6b0
  try clear hx317_0
  try clear hx318_0
  try clear p2
  try clear p317
  try clear p318
  try clear q317
  try clear q318
  obtain ⟨kq, x28_3, rfl, HA, HJ3, HO_0, HO_6, HB⟩ := hcut
  cases kq with
  | zero => exact absurd HA.out (by simp [sleuthlaw44_divided.j1])
  | succ kj3 =>
   have H := HA.out
   clear HA
   simp only [sleuthlaw44_divided.j1] at H
   by_cases c7 : x28_3 = true
   ·subst c7
    have H1 : (some (([] : List (List Int)), 2)) = some (r1, r2) := by rw [if_pos rfl] at H; exact H
    clear H
    have H := H1
    clear H1
    simp only [Option.some.injEq, Prod.mk.injEq] at H
    obtain ⟨rfl, rfl⟩ := H
    go_wp2
    go_ret2
    exact ⟨_, qx8_10, qx8_21, qx8_0⟩
   replace c7 := Bool.eq_false_iff.mpr c7
   subst c7
   have H1 : (if 0 ≤ x8_1 then (if x8_1 < (l1.length : Int) then (if (rd l1 x8_1) ≤ x7_1 then (some (([] : List (List Int)), 8)) else (if 0 ≤ x7_1 then (if x7_1 ≤ (rd l1 x8_1) then (if (rd l1 x8_1) ≤ (l0.length : Int) then (if x6_1.length < 5864062014805 then (sleuthlaw44_divided.l0 kj3 l0 l1 (x6_1 ++ [((l0.take ((rd l1 x8_1) : Int).toNat).drop (x7_1 : Int).toNat)]) (rd l1 x8_1) (wrap64 (x8_1 + 1))) else (none)) else (none)) else (none)) else (none))) else (none)) else (none)) = some (r1, r2) := by rw [if_neg (show ¬ (false = true) by decide)] at H; exact H
   clear H
   have H := H1
   clear H1
   by_cases c8 : 0 ≤ x8_1
   rotate_left
   ·rw [if_neg c8] at H
    exact absurd H (by simp)
   rw [if_pos c8] at H
   have c8b0 : decide (0 ≤ x8_1) = true := decide_eq_true c8
   clear c8
   by_cases c9 : x8_1 < (l1.length : Int)
   rotate_left
   ·rw [if_neg c9] at H
    exact absurd H (by simp)
   rw [if_pos c9] at H
   have c9b0 : decide (x8_1 < (l1.length : Int)) = true := decide_eq_true c9
   clear c9
   by_cases c10 : (rd l1 x8_1) ≤ x7_1
   ·rw [if_pos c10] at H
    have c10b0 : decide ((rd l1 x8_1) ≤ x7_1) = true := decide_eq_true c10
    clear c10
    simp only [Option.some.injEq, Prod.mk.injEq] at H
    obtain ⟨rfl, rfl⟩ := H
    have p319 : 0 ≤ (x8_1 : Int) := of_decide_eq_true qx8_6
    have q319 : x8_1 < (l1.length : Int) := of_decide_eq_true qx8_6
    obtain ⟨ad319, e319, hx319_0⟩ := Kd.at_int HR1.out x8_1 p319 q319
    cases e319
    replace hx319_0 := (HB.out.cell (World.block_lt_of_cell? w _ hx319_0)).trans hx319_0
    replace p319 := eq_true p319
    replace q319 := eq_true q319
    go_wp2
    go_ret2
    exact ⟨_, qx8_10, qx8_21, qx8_0⟩
   rw [if_neg c10] at H
   have c10b0 : decide ((rd l1 x8_1) ≤ x7_1) = false := decide_eq_false c10
   clear c10
   by_cases c11 : 0 ≤ x7_1
   rotate_left
   ·rw [if_neg c11] at H
    exact absurd H (by simp)
   rw [if_pos c11] at H
   have c11b0 := eq_true c11
   have c11b1 : decide (0 ≤ x7_1) = true := decide_eq_true c11
   clear c11
   by_cases c12 : x7_1 ≤ (rd l1 x8_1)
   rotate_left
   ·rw [if_neg c12] at H
    exact absurd H (by simp)
   rw [if_pos c12] at H
   have c12b0 := eq_true c12
   have c12b1 : decide (x7_1 ≤ (rd l1 x8_1)) = true := decide_eq_true c12
   clear c12
   by_cases c13 : (rd l1 x8_1) ≤ (l0.length : Int)
   rotate_left
   ·rw [if_neg c13] at H
    exact absurd H (by simp)
   rw [if_pos c13] at H
   have c13b0 := eq_true c13
   have c13b1 : decide ((rd l1 x8_1) ≤ (l0.length : Int)) = true := decide_eq_true c13
   clear c13
   obtain ⟨y321, hy321⟩ : ∃ y_ : List Int, y_ = ((l0.take ((rd l1 x8_1) : Int).toNat).drop (x7_1 : Int).toNat) := ⟨_, rfl⟩
   replace H : (if x6_1.length < 5864062014805 then (sleuthlaw44_divided.l0 kj3 l0 l1 (x6_1 ++ [y321]) (rd l1 x8_1) (wrap64 (x8_1 + 1))) else (none)) = some (r1, r2) := by first | (rw [hy321]; with_reducible exact H) | (have H2_ := (Option.bind_some _ _).symm.trans H; rw [hy321]; with_reducible exact H2_) | (have H2_ := (Option.bind_some _ _).symm.trans H; with_reducible exact H2_) | with_reducible exact H | (rw [hy321]; exact H) | exact H
   have Ny321 := Aside0.mk hy321
   clear hy321
   by_cases c14 : x6_1.length < 5864062014805
   rotate_left
   ·rw [if_neg c14] at H
    exact absurd H (by simp)
   rw [if_pos c14] at H
   have LMc14 := Aside0.mk c14
   clear c14
   obtain ⟨y326, hy326⟩ : ∃ y_ : List (List Int), y_ = (x6_1 ++ [y321]) := ⟨_, rfl⟩
   replace H : (sleuthlaw44_divided.l0 kj3 l0 l1 y326 (rd l1 x8_1) (wrap64 (x8_1 + 1))) = some (r1, r2) := by first | (rw [hy326]; with_reducible exact H) | (have H2_ := (Option.bind_some _ _).symm.trans H; rw [hy326]; with_reducible exact H2_) | (have H2_ := (Option.bind_some _ _).symm.trans H; with_reducible exact H2_) | with_reducible exact H | (rw [hy326]; exact H) | exact H
   have Ny326 := Aside0.mk hy326
   clear hy326
   have H' := Aside0.mk H
   clear H
   have p319 : 0 ≤ (x8_1 : Int) := of_decide_eq_true qx8_6
   have q319 : x8_1 < (l1.length : Int) := of_decide_eq_true qx8_6
   obtain ⟨ad319, e319, hx319_0⟩ := Kd.at_int HR1.out x8_1 p319 q319
   cases e319
   replace hx319_0 := (HB.out.cell (World.block_lt_of_cell? w _ hx319_0)).trans hx319_0
   replace p319 := eq_true p319
   replace q319 := eq_true q319
   have p320 : 0 ≤ (x8_1 : Int) := of_decide_eq_true qx8_6
   have q320 : x8_1 < (l1.length : Int) := of_decide_eq_true qx8_6
   obtain ⟨ad320, e320, hx320_0⟩ := Kd.at_int HR1.out x8_1 p320 q320
   obtain rfl : ad319 = ad320 := (by injection e320)
   replace hx320_0 := (HB.out.cell (World.block_lt_of_cell? w _ hx320_0)).trans hx320_0
   replace p320 := eq_true p320
   replace q320 := eq_true q320
   have q15 : ((rd l1 x8_1) : Int) ≤ ((l0.length : Int) : Int) := of_decide_eq_true qx8_6
   obtain ⟨i015, hi015, _, hsz15, _⟩ := info_parts info3
   have hroom15 : l0.length ≤ c0 := (Kd.V_reads' HO_0.out).2.1
   have hC15 : Kd.F (Kd.int .i64) _ _ A0 l0.length l0 := (Kd.V_at (base := w.heap.size) HO_0.out).2.2
   have ql15 : (x7_1 : Int) ≤ ((rd l1 x8_1) : Int) := of_decide_eq_true qx8_6
   have q015 : (0 : Int) ≤ (x7_1 : Int) := of_decide_eq_true qx8_6
   have hcut15 := cut_mid (P := Try.prog) 24 3 .i64 .i64 Try.underlying24 hi015 1 hsz15 A0 l0.length c0 x7_1 (rd l1 x8_1) q015 ql15 q15 hroom15
   have hr15 := Kd.F_mid (lo := (x7_1 : Int).toNat) (hi := ((rd l1 x8_1) : Int).toNat) (c := c0) hC15 (by omega) (by omega) hroom15
   obtain ⟨A15, hA15⟩ : ∃ A1, A1 = (if c0 = (x7_1 : Int).toNat then A0 else (A0 : Option Addr).map (·.add ((x7_1 : Int).toNat * 1))) := ⟨_, rfl⟩
   obtain ⟨c15, hc15⟩ : ∃ c1, c1 = c0 - (x7_1 : Int).toNat := ⟨_, rfl⟩
   have hy15 : y321.length = ((rd l1 x8_1) : Int).toNat - (x7_1 : Int).toNat := (by rw [Ny321.out, List.length_drop, List.length_take] <;> omega)
   rw [show ((l0).take ((rd l1 x8_1) : Int).toNat).drop (x7_1 : Int).toNat = y321 from Ny321.out.symm] at hr15
   replace hr15 : Kd.F (Kd.int .i64) _ _ A15 y321.length y321 := (by rw [hA15]; exact hr15)
   rw [← hy15, ← hA15, ← hc15] at hcut15
   have HO325 := Aside0.mk (show Kd.V (Kd.int .i64) 3 _ w.heap.size _ (.slice A15 y321.length c15) y321 from Kd.V_mk (by rw [hy15, hc15]; exact Nat.sub_le_sub_right (Nat.le_trans (by omega) hroom15) _) hr15)
   have HC325 := Aside0.mk (show y321.length ≤ c15 from by rw [hy15, hc15]; exact Nat.sub_le_sub_right (Nat.le_trans (by omega) hroom15) _)
   clear hr15 hC15 hroom15 hi015 hsz15 hc15
   have KY15 := Aside0.mk hy15
   have KA15 := Aside0.mk hA15
   clear hy15 hA15
   replace q15 := eq_true q15
   go_wp2_with (first | ((with_reducible refine gate_builtin (b := .append) (xs := #[.tmp 35, .tmp 43]) rfl ?_); (try (refine gate_guard (by rfl) ?_; dsimp only)); at_builtin; refine Kd.N_append (Kd.slice 3 (Kd.int .i64)) (w0 := w) w.heap.size rfl (.tmp 35) (.tmp 43) 57 24 (.slice none 0 0) 24 rfl Try.underlying57 info24 rfl (by decide) (by omega) u6 x6_1 y321 [.slice A15 y321.length c15] (fun k_ => (P0_ k_ ∨ w.heap.size ≤ k_)) (fun k_ => ((fun k_ => (P0_ k_ ∨ w.heap.size ≤ k_))) k_ ∧ some k_ ≠ (u6 : Value).ownBlock) rfl rfl ?aP (fun _ hk => hk) ?aF ?aO ?aB ?aS ?aL ?_; (case aP => exact (Kd.FK_slice_mk (Kd.V_reads' (Kd.V_mono (ok' := (fun k_ => ((fun k_ => (P0_ k_ ∨ w.heap.size ≤ k_))) k_ ∧ some k_ ≠ (u6 : Value).ownBlock)) (HO325.out) (fun k_ hk => ⟨hk.1, hk.2⟩))).2.1 (Kd.V_F (Kd.V_mono (ok' := (fun k_ => ((fun k_ => (P0_ k_ ∨ w.heap.size ≤ k_))) k_ ∧ some k_ ≠ (u6 : Value).ownBlock)) (HO325.out) (fun k_ hk => ⟨hk.1, hk.2⟩))))); (case aB => exact qx8_0); (case aF => exact (fun k_ hk => (.inr (Nat.le_trans (below_size qx8_0) hk)))); (case aO => exact qx8_19); (case aS => exact (below_size qx8_0)); (case aL => have := LMc14.out; omega); intro v327 w16 ho hb hg hat; rw [← Ny326.out] at ho; have n0_ := Aside0.mk (Kd.V_afterv (ok := (fun k_ => (P0_ k_ ∨ w.heap.size ≤ k_))) qx8_16 hg hat); have n1_ := Aside0.mk (Kd.V_afterv (ok := (fun k_ => (P0_ k_ ∨ w.heap.size ≤ k_))) (by (with_reducible repeat (first | apply Kd.V_alloc | apply Kd.V_drewN | apply Kd.V_drew)); exact HO325.out) hg hat); have n2_ := Aside0.mk (hb); have n3_ := Aside0.mk (ho); clear HO_0; clear HO325; clear HB; clear HO_6; have HO_0 := n0_; have HO325 := n1_; have HB := n2_; have HO328 := n3_; clear n0_ n1_ n2_ n3_; clear ho hb hg hat; have p329 : 0 ≤ (x8_1 : Int) := of_decide_eq_true qx8_6; have q329 : x8_1 < (l1.length : Int) := of_decide_eq_true qx8_6; obtain ⟨ad329, e329, hx329_0⟩ := Kd.at_int HR1.out x8_1 p329 q329; obtain rfl : ad319 = ad329 := (by injection e329); replace hx329_0 := (HB.out.cell (World.block_lt_of_cell? w _ hx329_0)).trans hx329_0; replace p329 := eq_true p329; replace q329 := eq_true q329))
   go_roundg kj3
   case measure => have := HK1.out; have := HJ3.out; omega
   case rel => exact ⟨(y326), (rd l1 x8_1), (wrap64 (x8_1 + 1)), qx8_12, qx8_12, H', ⟨by have := HK1.out; have := HJ3.out; omega⟩, ⟨qx8_16⟩, ⟨by (with_reducible repeat (first | apply Kd.N_alloc | apply Kd.N_drewN | apply Kd.N_drew)); exact HO328.out⟩, ⟨qx8_0⟩⟩

end Go.Proofs.Ytiimanpmidnffaa.Q
