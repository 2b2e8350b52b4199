-- Laid by myprint.py (a program of this session's, over the kit's printer and with functions proved by hand)
import Derived.Test.YtcjgmofgfblmnaaTy
import Derived.Test.YtcjgmofgfblmnaaPw
import Derived.Test.YtcjgmofgfblmnaaQgCosts
namespace Go.Proofs.Ytcjgmofgfblmnaa.Q
open Go.RowKit Go.Proofs.YtcjgmofgfblmnaaW.PrintWords Go.Proofs.YtcjgmofgfblmnaaW.PrintLast Go.Proofs.YtcjgmofgfblmnaaW.PrintMore
attribute [local go_sem] max2_int min2_int max_two min_two max_three min_three max_four min_four   -- for this text's walks alone
set_option linter.unusedVariables false
set_option linter.unusedSimpArgs false

abbrev T4942 : Bool := true
abbrev F4942 : Bool := false
abbrev A4942_0 : Array Bool := #[F4942, F4942, F4942, F4942, F4942, F4942, F4942, F4942, F4942, F4942, F4942, F4942, F4942, F4942, F4942, F4942, F4942, F4942, F4942]
abbrev A4942_1 : Array Bool := #[T4942, F4942, F4942, F4942, F4942, F4942, F4942, F4942, F4942, F4942, F4942, F4942, F4942, F4942, F4942, F4942, F4942, F4942, F4942]
abbrev A4942_2 : Array Bool := #[T4942, T4942, F4942, F4942, F4942, F4942, F4942, F4942, F4942, F4942, F4942, F4942, F4942, F4942, F4942, F4942, F4942, F4942, F4942]
abbrev A4942_3 : Array Bool := #[T4942, T4942, T4942, F4942, F4942, F4942, F4942, F4942, F4942, F4942, F4942, F4942, F4942, F4942, F4942, F4942, F4942, F4942, F4942]
abbrev A4942_4 : Array Bool := #[T4942, T4942, T4942, T4942, F4942, F4942, F4942, F4942, F4942, F4942, F4942, F4942, F4942, F4942, F4942, F4942, F4942, F4942, F4942]
abbrev A4942_5 : Array Bool := #[T4942, T4942, T4942, T4942, T4942, F4942, F4942, F4942, F4942, F4942, F4942, F4942, F4942, F4942, F4942, F4942, F4942, F4942, F4942]
abbrev A4942_6 : Array Bool := #[T4942, T4942, T4942, T4942, T4942, T4942, F4942, F4942, F4942, F4942, F4942, F4942, F4942, F4942, F4942, F4942, F4942, F4942, F4942]
abbrev A4942_7 : Array Bool := #[T4942, T4942, T4942, T4942, T4942, T4942, T4942, F4942, F4942, F4942, F4942, F4942, F4942, F4942, F4942, F4942, F4942, F4942, F4942]
abbrev A4942_8 : Array Bool := #[T4942, T4942, T4942, T4942, T4942, T4942, T4942, T4942, F4942, F4942, F4942, F4942, F4942, F4942, F4942, F4942, F4942, F4942, F4942]
abbrev A4942_9 : Array Bool := #[T4942, T4942, T4942, T4942, T4942, T4942, T4942, T4942, T4942, F4942, F4942, F4942, F4942, F4942, F4942, F4942, F4942, F4942, F4942]
abbrev A4942_10 : Array Bool := #[T4942, T4942, T4942, T4942, T4942, T4942, T4942, T4942, T4942, T4942, F4942, F4942, F4942, F4942, F4942, F4942, F4942, F4942, F4942]
abbrev A4942_11 : Array Bool := #[T4942, T4942, T4942, T4942, T4942, T4942, T4942, T4942, T4942, T4942, T4942, F4942, F4942, F4942, F4942, F4942, F4942, F4942, F4942]
abbrev A4942_12 : Array Bool := #[T4942, T4942, T4942, T4942, T4942, T4942, T4942, T4942, T4942, T4942, T4942, T4942, F4942, F4942, F4942, F4942, F4942, F4942, F4942]
abbrev A4942_13 : Array Bool := #[T4942, T4942, T4942, T4942, T4942, T4942, T4942, T4942, T4942, T4942, T4942, T4942, T4942, F4942, F4942, F4942, F4942, F4942, F4942]
abbrev A4942_14 : Array Bool := #[T4942, T4942, T4942, T4942, T4942, T4942, T4942, T4942, T4942, T4942, T4942, T4942, T4942, T4942, F4942, F4942, F4942, F4942, F4942]
abbrev A4942_15 : Array Bool := #[T4942, T4942, T4942, T4942, T4942, T4942, T4942, T4942, T4942, T4942, T4942, T4942, T4942, T4942, T4942, F4942, F4942, F4942, F4942]
abbrev A4942_16 : Array Bool := #[T4942, T4942, T4942, T4942, T4942, T4942, T4942, T4942, T4942, T4942, T4942, T4942, T4942, T4942, T4942, T4942, F4942, F4942, F4942]
abbrev A4942_17 : Array Bool := #[T4942, T4942, T4942, T4942, T4942, T4942, T4942, T4942, T4942, T4942, T4942, T4942, T4942, T4942, T4942, T4942, T4942, F4942, F4942]
abbrev A4942_18 : Array Bool := #[T4942, T4942, T4942, T4942, T4942, T4942, T4942, T4942, T4942, T4942, T4942, T4942, T4942, T4942, T4942, T4942, T4942, T4942, F4942]
abbrev A4942_19 : Array Bool := #[T4942, T4942, T4942, T4942, T4942, T4942, T4942, T4942, T4942, T4942, T4942, T4942, T4942, T4942, T4942, T4942, T4942, T4942, T4942]
abbrev A4942_20 : Array Bool := #[T4942, T4942, T4942, F4942, T4942, F4942, F4942, F4942, F4942, F4942, F4942, F4942, F4942, F4942, F4942, F4942, F4942, F4942, F4942]
abbrev A4942_21 : Array Bool := #[T4942, T4942, T4942, F4942, T4942, F4942, F4942, F4942, T4942, F4942, F4942, F4942, F4942, F4942, F4942, F4942, F4942, F4942, F4942]
abbrev A4942_22 : Array Bool := #[T4942, T4942, T4942, F4942, T4942, F4942, F4942, F4942, T4942, F4942, F4942, T4942, F4942, F4942, F4942, F4942, F4942, F4942, F4942]
abbrev A4942_23 : Array Bool := #[T4942, T4942, T4942, F4942, T4942, F4942, F4942, F4942, T4942, F4942, F4942, T4942, F4942, F4942, F4942, T4942, F4942, F4942, F4942]
abbrev A4942_24 : Array Bool := #[T4942, T4942, T4942, T4942, T4942, F4942, F4942, F4942, T4942, F4942, F4942, T4942, F4942, F4942, F4942, T4942, F4942, F4942, F4942]
abbrev A4942_25 : Array Bool := #[T4942, T4942, T4942, T4942, T4942, T4942, F4942, F4942, T4942, F4942, F4942, T4942, F4942, F4942, F4942, T4942, F4942, F4942, F4942]
abbrev A4942_26 : Array Bool := #[T4942, T4942, T4942, T4942, T4942, T4942, T4942, F4942, T4942, F4942, F4942, T4942, F4942, F4942, F4942, T4942, F4942, F4942, F4942]
abbrev A4942_27 : Array Bool := #[T4942, T4942, T4942, T4942, T4942, T4942, T4942, T4942, T4942, F4942, F4942, T4942, F4942, F4942, F4942, T4942, F4942, F4942, F4942]
abbrev A4942_28 : Array Bool := #[T4942, T4942, T4942, T4942, T4942, T4942, T4942, T4942, T4942, T4942, F4942, T4942, F4942, F4942, F4942, T4942, F4942, F4942, F4942]
abbrev A4942_29 : Array Bool := #[T4942, T4942, T4942, T4942, T4942, T4942, T4942, T4942, T4942, T4942, T4942, T4942, F4942, F4942, F4942, T4942, F4942, F4942, F4942]
abbrev A4942_30 : Array Bool := #[T4942, T4942, T4942, T4942, T4942, T4942, T4942, T4942, T4942, T4942, T4942, T4942, T4942, F4942, F4942, T4942, F4942, F4942, F4942]
abbrev A4942_31 : Array Bool := #[T4942, T4942, T4942, T4942, T4942, T4942, T4942, T4942, T4942, T4942, T4942, T4942, T4942, T4942, F4942, T4942, F4942, F4942, F4942]
abbrev A4942_32 : Array Bool := #[F4942, F4942, F4942, F4942, F4942, F4942, F4942, F4942, F4942, F4942, F4942, F4942, F4942, F4942]
abbrev A4942_33 : Array Bool := #[F4942, T4942, F4942, F4942, F4942, F4942, F4942, F4942, F4942, F4942, F4942, F4942, F4942, F4942]
abbrev A4942_34 : Array Bool := #[F4942, T4942, F4942, F4942, T4942, F4942, F4942, F4942, F4942, F4942, F4942, F4942, F4942, F4942]
abbrev A4942_35 : Array Bool := #[F4942, T4942, F4942, F4942, T4942, T4942, F4942, F4942, F4942, F4942, F4942, F4942, F4942, F4942]
abbrev A4942_36 : Array Bool := #[F4942, T4942, F4942, F4942, T4942, T4942, F4942, T4942, F4942, F4942, F4942, F4942, F4942, F4942]
abbrev A4942_37 : Array Bool := #[T4942, T4942, F4942, F4942, T4942, T4942, F4942, T4942, F4942, F4942, F4942, F4942, F4942, F4942]
abbrev A4942_38 : Array Bool := #[T4942, T4942, T4942, F4942, T4942, T4942, F4942, T4942, F4942, F4942, F4942, F4942, F4942, F4942]
abbrev A4942_39 : Array Bool := #[T4942, T4942, T4942, T4942, T4942, T4942, F4942, T4942, F4942, F4942, F4942, F4942, F4942, F4942]
abbrev A4942_40 : Array Bool := #[T4942, T4942, T4942, T4942, T4942, T4942, T4942, T4942, F4942, F4942, F4942, F4942, F4942, F4942]
abbrev A4942_41 : Array Bool := #[T4942, T4942, T4942, T4942, T4942, T4942, T4942, T4942, T4942, F4942, F4942, F4942, F4942, F4942]
abbrev A4942_42 : Array Bool := #[T4942, T4942, T4942, T4942, T4942, T4942, T4942, T4942, T4942, T4942, F4942, F4942, F4942, F4942]
abbrev A4942_43 : Array Bool := #[T4942, T4942, T4942, T4942, T4942, T4942, T4942, T4942, T4942, T4942, T4942, F4942, F4942, F4942]
abbrev A4942_44 : Array Bool := #[T4942, T4942, T4942, T4942, T4942, T4942, T4942, T4942, T4942, T4942, T4942, T4942, T4942, F4942]
abbrev A4942_45 : Array Bool := #[T4942, T4942, T4942, T4942, T4942, T4942, T4942, T4942, T4942, T4942, T4942, T4942, F4942, F4942]
abbrev A4942_46 : Array Bool := #[T4942, T4942, T4942, T4942, T4942, T4942, T4942, T4942, T4942, T4942, T4942, F4942, T4942, F4942]
abbrev A4942_47 : Array Bool := #[T4942, T4942, T4942, T4942, T4942, T4942, T4942, T4942, T4942, T4942, T4942, T4942, T4942, T4942]
theorem qgsolve_0 {p : Prop} (h : p := by repeat (first | (with_reducible first | exact HB.out | apply below_alloc | apply pw_below_drewN | apply below_drew1 | refine below_set ?_ GE180.out | refine below_set ?_ GE187.out | refine below_set ?_ GE188.out) | exact HB.out)) : p := h
theorem qgsolve_1 {p : Prop} (h : p := by (with_reducible repeat (first | refine blk_drewN ?_ _ | refine blk_drew ?_ | refine blk_alloc ?_ _)); exact BK180.out) : p := h
theorem qgsolve_2 {p : Prop} (h : p := by repeat (first | (with_reducible first | exact HB.out | apply below_alloc | apply pw_below_drewN | apply below_drew1 | refine below_set ?_ GE180.out | refine below_set ?_ GE187.out | refine below_set ?_ GE188.out | refine below_set ?_ GE204.out) | exact HB.out)) : p := h
theorem qgsolve_3 {p : Prop} (h : p := by (with_reducible repeat (first | refine blk_drewN ?_ _ | refine blk_drew ?_ | refine blk_alloc ?_ _)); exact BK187.out) : p := h
theorem qgsolve_4 {p : Prop} (h : p := by (with_reducible repeat (first | refine blk_drewN ?_ _ | refine blk_drew ?_ | refine blk_alloc ?_ _)); exact BK188.out) : p := h
theorem qgsolve_5 {p : Prop} (h : p := by (with_reducible repeat (first | apply Kd.R_alloc | apply Kd.R_drewN | apply Kd.R_drew)); exact HO_9.out) : p := h
theorem qgsolve_6 {p : Prop} (h : p := by repeat (first | (with_reducible first | exact HB.out | apply below_alloc | apply pw_below_drewN | apply below_drew1 | refine below_set ?_ GE180.out) | exact HB.out)) : p := h
theorem qgsolve_7 {p : Prop} (h : p := by (with_reducible repeat (first | apply Kd.R_alloc | apply Kd.R_drewN | apply Kd.R_drew)); exact HO_188000.out) : p := h
theorem qgsolve_8 {p : Prop} (h : p := by (with_reducible repeat (first | apply Kd.N_alloc | apply Kd.N_drewN | apply Kd.N_drew)); exact HO_181000.out) : p := h
theorem qgsolve_9 {p : Prop} (h : p := by first | exact Kd.own_blk (Kd.N_away HO_181000.out (fun _ hk => hk.2.2.2.2.2.2)) | (rw [add_block]; exact Kd.own_blk (Kd.N_away HO_181000.out (fun _ hk => hk.2.2.2.2.2.2))) | (show (Addr.add _ _).block ≠ _; rw [add_block]; exact Kd.own_blk (Kd.N_away HO_181000.out (fun _ hk => hk.2.2.2.2.2.2))) | (dsimp only; exact Kd.own_blk (Kd.N_away HO_181000.out (fun _ hk => hk.2.2.2.2.2.2)))) : p := h
theorem qgsolve_10 {p : Prop} (h : p := by repeat (first | (with_reducible first | exact HB.out | apply below_alloc | apply pw_below_drewN | apply below_drew1) | exact HB.out)) : p := h
theorem qgsolve_11 {p : Prop} (h : p := by (with_reducible repeat (first | apply Kd.V_alloc | apply Kd.V_drewN | apply Kd.V_drew)); exact HO_189001.out) : p := h
theorem qgsolve_12 {p : Prop} (h : p := by first | rfl | (simp; done) | (simp [*]; done)) : p := h
theorem qgsolve_13 {p : Prop} (h : p := by repeat (first | (with_reducible exact HR198_1.out) | (with_reducible refine Kd.C_alloc ?_ _) | (with_reducible refine Kd.C_drewN ?_ _) | (with_reducible refine Kd.C_drew ?_) | exact HR198_1.out)) : p := h
theorem qgsolve_14 {p : Prop} (h : p := by (with_reducible repeat (first | refine blk_drewN ?_ _ | refine blk_drew ?_ | refine blk_alloc ?_ _)); refine blk_put (cs := #[.slice none 0 0]) ?_ 0 _ rfl; (with_reducible repeat (first | refine blk_drewN ?_ _ | refine blk_drew ?_ | refine blk_alloc ?_ _)); exact BK187.out) : p := h
theorem qgsolve_15 {p : Prop} (h : p := by (with_reducible repeat (first | refine blk_drewN ?_ _ | refine blk_drew ?_ | refine blk_alloc ?_ _)); refine blk_far ?_ NB180_187.out _; (with_reducible repeat (first | refine blk_drewN ?_ _ | refine blk_drew ?_ | refine blk_alloc ?_ _)); exact BK180.out) : p := h
theorem qgsolve_16 {p : Prop} (h : p := by first | (with_reducible assumption) | assumption) : p := h
theorem qgsolve_17 {p : Prop} (h : p := by (with_reducible repeat (first | refine blk_drewN ?_ _ | refine blk_drew ?_ | refine blk_alloc ?_ _)); refine blk_put (cs := #[.int .i64 t200, .slice none 0 0]) ?_ 1 _ rfl; (with_reducible repeat (first | refine blk_drewN ?_ _ | refine blk_drew ?_ | refine blk_alloc ?_ _)); refine blk_put (cs := #[.int .i64 0, .slice none 0 0]) ?_ 0 _ rfl; (with_reducible repeat (first | refine blk_drewN ?_ _ | refine blk_drew ?_ | refine blk_alloc ?_ _)); exact BK204.out) : p := h
theorem qgsolve_18 {p : Prop} (h : p := by (with_reducible repeat (first | refine blk_drewN ?_ _ | refine blk_drew ?_ | refine blk_alloc ?_ _)); exact BK204.out) : p := h
theorem qgsolve_19 {p : Prop} (h : p := by (with_reducible repeat (first | refine blk_drewN ?_ _ | refine blk_drew ?_ | refine blk_alloc ?_ _)); refine blk_far ?_ NB180_204.out _; (with_reducible repeat (first | refine blk_drewN ?_ _ | refine blk_drew ?_ | refine blk_alloc ?_ _)); refine blk_far ?_ NB180_204.out _; (with_reducible repeat (first | refine blk_drewN ?_ _ | refine blk_drew ?_ | refine blk_alloc ?_ _)); exact BK180.out) : p := h
theorem qgsolve_20 {p : Prop} (h : p := by (with_reducible repeat (first | refine blk_drewN ?_ _ | refine blk_drew ?_ | refine blk_alloc ?_ _)); refine blk_far ?_ NB187_204.out _; (with_reducible repeat (first | refine blk_drewN ?_ _ | refine blk_drew ?_ | refine blk_alloc ?_ _)); refine blk_far ?_ NB187_204.out _; (with_reducible repeat (first | refine blk_drewN ?_ _ | refine blk_drew ?_ | refine blk_alloc ?_ _)); exact BK187.out) : p := h
theorem qgsolve_21 {p : Prop} (h : p := by (with_reducible repeat (first | refine blk_drewN ?_ _ | refine blk_drew ?_ | refine blk_alloc ?_ _)); refine blk_far ?_ NB188_204.out _; (with_reducible repeat (first | refine blk_drewN ?_ _ | refine blk_drew ?_ | refine blk_alloc ?_ _)); refine blk_far ?_ NB188_204.out _; (with_reducible repeat (first | refine blk_drewN ?_ _ | refine blk_drew ?_ | refine blk_alloc ?_ _)); exact BK188.out) : p := h
theorem qgsolve_22 {p : Prop} (h : p := by repeat (first | (with_reducible first | exact HB.out | apply below_alloc | apply pw_below_drewN | apply below_drew1 | refine below_set ?_ GE180.out | refine below_set ?_ GE187.out) | exact HB.out)) : p := h
theorem qgsolve_23 {p : Prop} (h : p := by (with_reducible repeat (first | apply Kd.V_alloc | apply Kd.V_drewN | apply Kd.V_drew)); exact (Kd.V_mono (Kd.V_far (p := ⟨gb204, 1, none⟩) (Kd.V_far (p := ⟨gb204, 0, none⟩) (Kd.V_mono HO_189001.out (fun k_ hk => (⟨hk, hk.2.2.2.2.2.2.2⟩ : _ ∧ k_ ≠ gb204))) (fun _ hk => hk.2) (.int .i64 t200)) (fun _ hk => hk.2) (.slice Ao43 t201.length co43)) (fun _ h_ => h_.1))) : p := h
theorem qgsolve_24 {p : Prop} (h : p := by (with_reducible repeat (first | apply Kd.V_alloc | apply Kd.V_drewN | apply Kd.V_drew)); exact (Kd.V_mono (Kd.V_far (p := ⟨gb204, 1, none⟩) (Kd.V_far (p := ⟨gb204, 0, none⟩) (Kd.V_mono HO203.out (fun k_ hk => (⟨hk, hk.2.2.2.2.2.2.2⟩ : _ ∧ k_ ≠ gb204))) (fun _ hk => hk.2) (.int .i64 t200)) (fun _ hk => hk.2) (.slice Ao43 t201.length co43)) (fun _ h_ => h_.1))) : p := h
theorem qgsolve_25 {p : Prop} (h : p := by first | exact Kd.own_blk (Kd.R_ne HO_188000.out BK204.out (by decide)) | (rw [add_block]; exact Kd.own_blk (Kd.R_ne HO_188000.out BK204.out (by decide))) | (show (Addr.add _ _).block ≠ _; rw [add_block]; exact Kd.own_blk (Kd.R_ne HO_188000.out BK204.out (by decide))) | (dsimp only; exact Kd.own_blk (Kd.R_ne HO_188000.out BK204.out (by decide)))) : p := h
theorem qgsolve_26 {p : Prop} (h : p := by (with_reducible repeat (first | apply Kd.V_alloc | apply Kd.V_drewN | apply Kd.V_drew)); exact HL198_1.out) : p := h
theorem qgsolve_27 {p : Prop} (h : p := by (with_reducible repeat (first | apply Kd.V_alloc | apply Kd.V_drewN | apply Kd.V_drew)); exact Kd.V_mono HO_189001.out (fun _ hk => ⟨hk.1.1, ⟨hk.1.2.2.1, ⟨hk.1.2.2.2.1, ⟨hk.1.2.1, ⟨hk.1.2.2.2.2.1, ⟨hk.1.2.2.2.2.2.1, ⟨hk.1.2.2.2.2.2.2, hk.2⟩⟩⟩⟩⟩⟩⟩)) : p := h
theorem qgsolve_28 {p : Prop} (h : p := by (try simp only [List.map_toArray, List.map_cons, List.map_nil]); first | done | rfl | (simp only [List.length_drop, List.length_take]; rfl)) : p := h
theorem qgsolve_29 {p : Prop} (h : p := by (with_reducible repeat (first | apply Kd.V_alloc | apply Kd.V_drewN | apply Kd.V_drew)); exact Kd.V_mono HL198_1.out (fun _ hk => ⟨hk.1.1.1, ⟨hk.1.2, ⟨hk.1.1.2.2.1, ⟨hk.1.1.2.1, ⟨hk.1.1.2.2.2.1, ⟨hk.1.1.2.2.2.2.1, ⟨hk.1.1.2.2.2.2.2, hk.2⟩⟩⟩⟩⟩⟩⟩)) : p := h
theorem qgsolve_30 {p : Prop} (h : p := by (with_reducible repeat (first | apply Kd.N_alloc | apply Kd.N_drewN | apply Kd.N_drew)); exact Kd.N_mono HO_181000.out (fun _ hk => ⟨hk.1.1, ⟨hk.1.2.2.1, ⟨hk.1.2.1, ⟨hk.1.2.2.2.1, ⟨hk.1.2.2.2.2.1, ⟨hk.1.2.2.2.2.2, hk.2⟩⟩⟩⟩⟩⟩)) : p := h
theorem qgsolve_31 {p : Prop} (h : p := by first | (go_simp; done) | (go_simp; rfl)) : p := h
/-! ### segmentation_solve: function 35 -/
mutual
def segmentation_solve.l0 : Nat → List Int → Int → Bool → List Int → Int → Int → List (S108) → Option ((List (S108)) × Int)
 | 0, _, _, _, _, _, _, _ => none
 | k + 1, x0, x1, x2, x9, x10, x11, x181000 => if x11 ≤ (x0.length : Int) then ((segmentation_costs.f k x0 x11).bind fun t184 => (segmentation_solve.l1 k x0 x1 x2 x9 x10 x11 (x9.length : Int) 0 x181000 t184 0 ([] : List Int))) else (some (x181000, x10))
def segmentation_solve.l1 : Nat → List Int → Int → Bool → List Int → Int → Int → Int → Int → List (S108) → List Int → Int → List Int → Option ((List (S108)) × Int)
 | 0, _, _, _, _, _, _, _, _, _, _, _, _ => none
 | k + 1, x0, x1, x2, x9, x10, x11, x32, x33, x181000, x188000, x189000, x189001 => if x33 < x32 then (if 0 ≤ x33 then (if x33 < (x9.length : Int) then (if x33 > 0 then (if 0 ≤ (rd x9 x33) then (if (rd x9 x33) < (x181000.length : Int) then (if (rd x9 x33) < (x188000.length : Int) then (segmentation_solve.j2 k x0 x1 x2 x9 (wrap64 (x10 + 1)) x11 x33 (rd x9 x33) x32 x33 (decide ((wrap64 ((wrap64 (((rd_T108 x181000 (rd x9 x33)).f0) + x1)) + (rd x188000 (rd x9 x33)))) > x189000)) x181000 x188000 x189000 x189001) else (none)) else (none)) else (none)) else (segmentation_solve.j2 k x0 x1 x2 x9 (wrap64 (x10 + 1)) x11 x33 (rd x9 x33) x32 x33 false x181000 x188000 x189000 x189001)) else (none)) else (none)) else (if x181000.length < 4398046511104 then (if x2 = true then (none) else (if x9.length < 17592186044416 then (segmentation_solve.l0 k x0 x1 x2 (x9 ++ [x11]) x10 (wrap64 (x11 + 1)) (x181000 ++ [(⟨x189000, x189001⟩ : S108)])) else (none))) else (none))
def segmentation_solve.j2 : Nat → List Int → Int → Bool → List Int → Int → Int → Int → Int → Int → Int → Bool → List (S108) → List Int → Int → List Int → Option ((List (S108)) × Int)
 | 0, _, _, _, _, _, _, _, _, _, _, _, _, _, _, _ => none
 | k + 1, x0, x1, x2, x9, x10, x11, x14, x15, x32, x33, x58, x181000, x188000, x189000, x189001 => if x58 = true then (segmentation_solve.l1 k x0 x1 x2 x9 x10 x11 x32 (wrap64 (x33 + 1)) x181000 x188000 x189000 x189001) else (if 0 ≤ x15 then (if x15 < (x181000.length : Int) then (if x15 < (x188000.length : Int) then ((segmentation_best_after.f ((rd_T108 x181000 x15).f0) ((rd_T108 x181000 x15).f1) x15 (wrap64 (x1 + (rd x188000 x15)))).bind fun bt200 => (if x14 = 0 then (segmentation_solve.j3 k x0 x1 x2 x9 x10 x11 x32 x33 true x181000 x188000 x189000 x189001 bt200.1 bt200.2) else ((segmentation_best_better.f k bt200.1 bt200.2 x189000 x189001).bind fun t205 => (segmentation_solve.j3 k x0 x1 x2 x9 x10 x11 x32 x33 t205 x181000 x188000 x189000 x189001 bt200.1 bt200.2)))) else (none)) else (none)) else (none))
def segmentation_solve.j3 : Nat → List Int → Int → Bool → List Int → Int → Int → Int → Int → Bool → List (S108) → List Int → Int → List Int → Int → List Int → Option ((List (S108)) × Int)
 | 0, _, _, _, _, _, _, _, _, _, _, _, _, _, _, _ => none
 | k + 1, x0, x1, x2, x9, x10, x11, x32, x33, x77, x181000, x188000, x189000, x189001, x205000, x205001 => if x77 = true then (segmentation_solve.l1 k x0 x1 x2 x9 x10 x11 x32 (wrap64 (x33 + 1)) x181000 x188000 x205000 x205001) else (segmentation_solve.l1 k x0 x1 x2 x9 x10 x11 x32 (wrap64 (x33 + 1)) x181000 x188000 x189000 x189001)
end
def segmentation_solve.f (k : Nat) (l0 : List Int) (a1 : Int) (a2 : Bool) : Option ((List (S108)) × Int) := segmentation_solve.l0 k l0 a1 a2 (([0] : List Int)) 0 1 (([(⟨wrap64 (-a1), ([] : List Int)⟩ : S108)] : List (S108)))
theorem segmentation_solve.mono_l : ∀ k, (∀ y0 y1 y2 y3 y4 y5 y6, LeO (segmentation_solve.l0 k y0 y1 y2 y3 y4 y5 y6) (segmentation_solve.l0 (k + 1) y0 y1 y2 y3 y4 y5 y6)) ∧ (∀ y0 y1 y2 y3 y4 y5 y6 y7 y8 y9 y10 y11, LeO (segmentation_solve.l1 k y0 y1 y2 y3 y4 y5 y6 y7 y8 y9 y10 y11) (segmentation_solve.l1 (k + 1) y0 y1 y2 y3 y4 y5 y6 y7 y8 y9 y10 y11)) ∧ (∀ y0 y1 y2 y3 y4 y5 y6 y7 y8 y9 y10 y11 y12 y13 y14, LeO (segmentation_solve.j2 k y0 y1 y2 y3 y4 y5 y6 y7 y8 y9 y10 y11 y12 y13 y14) (segmentation_solve.j2 (k + 1) y0 y1 y2 y3 y4 y5 y6 y7 y8 y9 y10 y11 y12 y13 y14)) ∧ (∀ y0 y1 y2 y3 y4 y5 y6 y7 y8 y9 y10 y11 y12 y13 y14, LeO (segmentation_solve.j3 k y0 y1 y2 y3 y4 y5 y6 y7 y8 y9 y10 y11 y12 y13 y14) (segmentation_solve.j3 (k + 1) y0 y1 y2 y3 y4 y5 y6 y7 y8 y9 y10 y11 y12 y13 y14))
 | 0 => ⟨fun _ _ _ _ _ _ _ r h => by simp [segmentation_solve.l0] at h, fun _ _ _ _ _ _ _ _ _ _ _ _ r h => by simp [segmentation_solve.l1] at h, fun _ _ _ _ _ _ _ _ _ _ _ _ _ _ _ r h => by simp [segmentation_solve.j2] at h, fun _ _ _ _ _ _ _ _ _ _ _ _ _ _ _ r h => by simp [segmentation_solve.j3] at h⟩
 | k + 1 => by
  obtain ⟨ih0, ih1, ih2, ih3⟩ := segmentation_solve.mono_l k
  refine ⟨?_, ?_, ?_, ?_⟩
  ·intro y0 y1 y2 y3 y4 y5 y6
   unfold segmentation_solve.l0
   repeat' first
   | (with_reducible exact ih0 _ _ _ _ _ _ _)
   | (with_reducible exact ih1 _ _ _ _ _ _ _ _ _ _ _ _)
   | (with_reducible exact ih2 _ _ _ _ _ _ _ _ _ _ _ _ _ _ _)
   | (with_reducible exact ih3 _ _ _ _ _ _ _ _ _ _ _ _ _ _ _)
   | (with_reducible exact segmentation_best_better.mono _ _ _ _ _)
   | (with_reducible exact segmentation_costs.mono _ _ _)
   | (with_reducible exact LeO.refl _)
   | (with_reducible exact LeO.none _)
   | (with_reducible refine LeO.ite ?_ ?_)
   | (with_reducible refine LeO.bind ?_ (fun _ => ?_))
   | exact ih0 _ _ _ _ _ _ _
   | exact ih1 _ _ _ _ _ _ _ _ _ _ _ _
   | exact ih2 _ _ _ _ _ _ _ _ _ _ _ _ _ _ _
   | exact ih3 _ _ _ _ _ _ _ _ _ _ _ _ _ _ _
   | exact segmentation_best_better.mono _ _ _ _ _
   | exact segmentation_costs.mono _ _ _
   | exact LeO.none _
   | refine LeO.ite ?_ ?_
   | refine LeO.bind ?_ (fun _ => ?_)
  ·intro y0 y1 y2 y3 y4 y5 y6 y7 y8 y9 y10 y11
   unfold segmentation_solve.l1
   repeat' first
   | (with_reducible exact ih0 _ _ _ _ _ _ _)
   | (with_reducible exact ih1 _ _ _ _ _ _ _ _ _ _ _ _)
   | (with_reducible exact ih2 _ _ _ _ _ _ _ _ _ _ _ _ _ _ _)
   | (with_reducible exact ih3 _ _ _ _ _ _ _ _ _ _ _ _ _ _ _)
   | (with_reducible exact segmentation_best_better.mono _ _ _ _ _)
   | (with_reducible exact segmentation_costs.mono _ _ _)
   | (with_reducible exact LeO.refl _)
   | (with_reducible exact LeO.none _)
   | (with_reducible refine LeO.ite ?_ ?_)
   | (with_reducible refine LeO.bind ?_ (fun _ => ?_))
   | exact ih0 _ _ _ _ _ _ _
   | exact ih1 _ _ _ _ _ _ _ _ _ _ _ _
   | exact ih2 _ _ _ _ _ _ _ _ _ _ _ _ _ _ _
   | exact ih3 _ _ _ _ _ _ _ _ _ _ _ _ _ _ _
   | exact segmentation_best_better.mono _ _ _ _ _
   | exact segmentation_costs.mono _ _ _
   | exact LeO.none _
   | refine LeO.ite ?_ ?_
   | refine LeO.bind ?_ (fun _ => ?_)
  ·intro y0 y1 y2 y3 y4 y5 y6 y7 y8 y9 y10 y11 y12 y13 y14
   unfold segmentation_solve.j2
   repeat' first
   | (with_reducible exact ih0 _ _ _ _ _ _ _)
   | (with_reducible exact ih1 _ _ _ _ _ _ _ _ _ _ _ _)
   | (with_reducible exact ih2 _ _ _ _ _ _ _ _ _ _ _ _ _ _ _)
   | (with_reducible exact ih3 _ _ _ _ _ _ _ _ _ _ _ _ _ _ _)
   | (with_reducible exact segmentation_best_better.mono _ _ _ _ _)
   | (with_reducible exact segmentation_costs.mono _ _ _)
   | (with_reducible exact LeO.refl _)
   | (with_reducible exact LeO.none _)
   | (with_reducible refine LeO.ite ?_ ?_)
   | (with_reducible refine LeO.bind ?_ (fun _ => ?_))
   | exact ih0 _ _ _ _ _ _ _
   | exact ih1 _ _ _ _ _ _ _ _ _ _ _ _
   | exact ih2 _ _ _ _ _ _ _ _ _ _ _ _ _ _ _
   | exact ih3 _ _ _ _ _ _ _ _ _ _ _ _ _ _ _
   | exact segmentation_best_better.mono _ _ _ _ _
   | exact segmentation_costs.mono _ _ _
   | exact LeO.none _
   | refine LeO.ite ?_ ?_
   | refine LeO.bind ?_ (fun _ => ?_)
  ·intro y0 y1 y2 y3 y4 y5 y6 y7 y8 y9 y10 y11 y12 y13 y14
   unfold segmentation_solve.j3
   repeat' first
   | (with_reducible exact ih0 _ _ _ _ _ _ _)
   | (with_reducible exact ih1 _ _ _ _ _ _ _ _ _ _ _ _)
   | (with_reducible exact ih2 _ _ _ _ _ _ _ _ _ _ _ _ _ _ _)
   | (with_reducible exact ih3 _ _ _ _ _ _ _ _ _ _ _ _ _ _ _)
   | (with_reducible exact segmentation_best_better.mono _ _ _ _ _)
   | (with_reducible exact segmentation_costs.mono _ _ _)
   | (with_reducible exact LeO.refl _)
   | (with_reducible exact LeO.none _)
   | (with_reducible refine LeO.ite ?_ ?_)
   | (with_reducible refine LeO.bind ?_ (fun _ => ?_))
   | exact ih0 _ _ _ _ _ _ _
   | exact ih1 _ _ _ _ _ _ _ _ _ _ _ _
   | exact ih2 _ _ _ _ _ _ _ _ _ _ _ _ _ _ _
   | exact ih3 _ _ _ _ _ _ _ _ _ _ _ _ _ _ _
   | exact segmentation_best_better.mono _ _ _ _ _
   | exact segmentation_costs.mono _ _ _
   | exact LeO.none _
   | refine LeO.ite ?_ ?_
   | refine LeO.bind ?_ (fun _ => ?_)
theorem segmentation_solve.mono : ∀ a0 a1 a2 k, LeO (segmentation_solve.f k a0 a1 a2) (segmentation_solve.f (k + 1) a0 a1 a2) := by
 intro a0 a1 a2 k
 obtain ⟨ih0, ih1, ih2, ih3⟩ := segmentation_solve.mono_l k
 unfold segmentation_solve.f
 repeat' first
   | (with_reducible exact ih0 _ _ _ _ _ _ _)
   | (with_reducible exact ih1 _ _ _ _ _ _ _ _ _ _ _ _)
   | (with_reducible exact ih2 _ _ _ _ _ _ _ _ _ _ _ _ _ _ _)
   | (with_reducible exact ih3 _ _ _ _ _ _ _ _ _ _ _ _ _ _ _)
   | (with_reducible exact segmentation_best_better.mono _ _ _ _ _)
   | (with_reducible exact segmentation_costs.mono _ _ _)
   | (with_reducible exact LeO.refl _)
   | (with_reducible exact LeO.none _)
   | (with_reducible refine LeO.ite ?_ ?_)
   | (with_reducible refine LeO.bind ?_ (fun _ => ?_))
   | exact ih0 _ _ _ _ _ _ _
   | exact ih1 _ _ _ _ _ _ _ _ _ _ _ _
   | exact ih2 _ _ _ _ _ _ _ _ _ _ _ _ _ _ _
   | exact ih3 _ _ _ _ _ _ _ _ _ _ _ _ _ _ _
   | exact segmentation_best_better.mono _ _ _ _ _
   | exact segmentation_costs.mono _ _ _
   | exact LeO.none _
   | refine LeO.ite ?_ ?_
   | refine LeO.bind ?_ (fun _ => ?_)
def segmentation_solve.T13 : Bool × List (List Nat × List Nat) := (true, [([], []), ([0], [0]), ([1], [1]), ([2], [2]), ([2], [2]), ([3, 4, 2], [2, 3, 4]), ([5, 2], [2, 5]), ([6, 2], [2, 6]), ([2], [2]), ([7, 8, 2], [2, 7, 8]), ([2], [2]), ([2], [2]), ([10, 11, 2], [2, 10, 11]), ([12, 2], [2, 12]), ([9, 13, 2], [2, 9, 13]), ([2], [2]), ([15, 2], [2, 15]), ([14, 16, 2], [2, 14, 16]), ([2, 17], [2, 17])])
def segmentation_solve.B13 : List Nat := [0, 1, 3, 7, 7, 31, 63, 127, 7, 511, 7, 7, 3079, 7175, 16383, 7, 32775, 131071, 262143]
theorem segmentation_solve.tab13 : rtab .any (opsOf Try.f35 13) = segmentation_solve.T13 := by kernel_rfl
theorem segmentation_solve.bits13 : waitsOk segmentation_solve.T13.2 segmentation_solve.B13 = true := by kernel_rfl
def segmentation_solve.T14 : Bool × List (List Nat × List Nat) := (true, [([], []), ([], []), ([0, 1], [0, 1]), ([2], [2]), ([], []), ([], []), ([], []), ([], []), ([6, 7], [6, 7]), ([8], [8]), ([5, 9], [5, 9]), ([3, 4, 10], [3, 4, 10]), ([], []), ([12, 11, 11, 0, 1, 2, 3, 4, 5, 6, 7, 8, 9, 10, 11, 12], [11, 12])])
def segmentation_solve.B14 : List Nat := [0, 0, 3, 7, 0, 0, 0, 0, 192, 448, 992, 2047, 0, 8191]
theorem segmentation_solve.tab14 : rtab .any (opsOf Try.f35 14) = segmentation_solve.T14 := by kernel_rfl
theorem segmentation_solve.bits14 : waitsOk segmentation_solve.T14.2 segmentation_solve.B14 = true := by kernel_rfl
set_option maxHeartbeats 8000000 in
set_option maxRecDepth 100000 in
theorem segmentation_solve.calls (k : Nat) (A0 : Option Addr) (c0 : Nat) (l0 : List Int) (a1 : Int) (a2 : Bool) (r1 : List (S108)) (r2 : Int) (w : World) (hr0 : Kd.C (Kd.int .i64) w A0 l0.length l0) (hc0 : l0.length ≤ c0) (h : segmentation_solve.f k l0 a1 a2 = some (r1, r2)) :
  Calls Try.prog 35 #[.slice A0 l0.length c0, .int .i64 a1, .bool a2] w fun e w' => ∃ v0_ : Value, e = .returned (.tuple #[v0_, .int .i64 r2]) ∧ Kd.N k108 108 w' w.heap.size (fun k_ => (w.heap.size ≤ k_)) v0_ r1 ∧ Below w.heap.size w w' := by
 have hu108 := Try.underlying108
 have hu76 := Try.underlying76
 have hu26 := Try.underlying26
 have HR0 := Aside0.mk hr0
 have HC0 := Aside0.mk hc0
 clear hr0 hc0
 have HB := Aside0.mk (Below.refl w.heap.size w)
 have H : (segmentation_solve.l0 k l0 a1 a2 (([0] : List Int)) 0 1 (([(⟨wrap64 (-a1), ([] : List Int)⟩ : S108)] : List (S108)))) = some (r1, r2) := h
 clear h
 obtain ⟨y177, hy177⟩ : ∃ y_ : List (S108), y_ = (([(⟨wrap64 (-a1), ([] : List Int)⟩ : S108)] : List (S108))) := ⟨_, rfl⟩
 replace H : (segmentation_solve.l0 k l0 a1 a2 (([0] : List Int)) 0 1 y177) = some (r1, r2) := by first | (rw [hy177]; with_reducible exact H) | (have H2_ := (Option.bind_some _ _).symm.trans H; rw [hy177]; with_reducible exact H2_) | (have H2_ := (Option.bind_some _ _).symm.trans H; with_reducible exact H2_) | with_reducible exact H | (rw [hy177]; exact H) | exact H
 have Ny177 := Aside0.mk hy177
 clear hy177
 obtain ⟨y181, hy181⟩ : ∃ y_ : List Int, y_ = (([0] : List Int)) := ⟨_, rfl⟩
 replace H : (segmentation_solve.l0 k l0 a1 a2 y181 0 1 y177) = some (r1, r2) := by first | (rw [hy181]; with_reducible exact H) | (have H2_ := (Option.bind_some _ _).symm.trans H; rw [hy181]; with_reducible exact H2_) | (have H2_ := (Option.bind_some _ _).symm.trans H; with_reducible exact H2_) | with_reducible exact H | (rw [hy181]; exact H) | exact H
 have Ny181 := Aside0.mk hy181
 clear hy181
 have H' := Aside0.mk H
 clear H
 go_enter Try.func35, Try.ntmps35
 go_wp2_with (first | ((with_reducible refine gate_dst (N := 20) rfl ?_); refine Kd.N_lit k108 _ 108 ?hg (N' := 20) ?hd (xs := ([(⟨wrap64 (-a1), ([] : List Int)⟩ : S108)] : List (S108))) (inner := [.int .i64 (wrap64 (-a1)), .slice none 0 0]) (ok := (fun k_ => (w.heap.size ≤ k_))) (okp := (fun k_ => (w.heap.size ≤ k_))) ?hr ?hp (fun _ hk => hk) ((show ∀ k_, w.heap.size ≤ k_ → (fun k_ => (w.heap.size ≤ k_)) k_ from fun k_ hk => (Nat.le_trans (below_size qgsolve_10) hk)) _ (Nat.le_refl _)) (Below.refl _ _) (Nat.le_refl _) (by simp) ?_; (case hd => rfl); (case hg => rfl); (case hr => exact qgsolve_31); (case hp => exact (Reps.c2 (show Kd.FK k108 _ _ (⟨wrap64 (-a1), ([] : List Int)⟩ : S108) [.int .i64 (wrap64 (-a1)), .slice none 0 0] from (k108_mkF _ _ (⟨wrap64 (-a1), ([] : List Int)⟩ : S108) (Nat.le_refl _) (Kd.F_nil _ _ _))) (Reps.none _ _))); intro v178 w4 ho5 hb hg_ hnew_; clear hg_ hnew_; (first | rw [← Ny177.out] at ho5 | (simp only [Int.reduceToNat] at ho5; rw [← Ny177.out] at ho5)); have n0_ := Aside0.mk (Kd.N_lower ho5 (below_size qgsolve_10)); have n1_ := Aside0.mk (below_step qgsolve_10 hb); clear HB; have HO179 := n0_; have HB := n1_; clear n0_ n1_; clear hb ho5) | ((with_reducible refine gate_dst (N := 8) rfl ?_); refine box_event ?hg (N := 8) ?hd (cs := #[.slice none 0 0]) (t := 76) ?hr ?_; (case hd => rfl); (case hg => rfl); (case hr => exact qgsolve_31); intro gb180 hg w6 hbox hb; have n0_ := Aside0.mk (Kd.N_below (Kd.N_elderB (by (with_reducible repeat (first | apply Kd.N_alloc | apply Kd.N_drewN | apply Kd.N_drew)); exact HO179.out) gb180 (Nat.le_of_eq hg.symm)) hb); have n1_ := Aside0.mk (below_step qgsolve_10 hb); have n2_ := Aside0.mk (hbox); have n3_ := Aside0.mk ((by rw [hg]; exact (below_size qgsolve_10) : w.heap.size ≤ gb180)); have n4_ := Aside0.mk ((by rw [hg]; exact (below_size qgsolve_10) : w.heap.size ≤ gb180)); clear HO179; clear HB; have HO179 := n0_; have HB := n1_; have BK180 := n2_; have GW180 := n3_; have GE180 := n4_; clear n0_ n1_ n2_ n3_ n4_; clear hb hbox hg; obtain ⟨Ao7, co7, eo7⟩ := Kd.N_slice HO179.out; subst eo7; have hcz8_0 : w6.cell? ⟨gb180, 0, none⟩ = some (.slice none 0 0) := (blk_cell BK180.out 0).trans rfl; have hfz8_0 := blk_frozen BK180.out 0) | ((with_reducible refine gate_dst (N := 21) rfl ?_); refine Kd.R_lit (Kd.int .i64) _ 3 ?hg (N := 21) ?hd (xs := ([0] : List Int)) (inner := [.int .i64 0]) (ok := fun _ => True) (okp := fun _ => True) ?hr ?hp (fun _ hk => hk) trivial (Below.refl _ _) (Nat.le_refl _) (by simp) ?_; (case hd => rfl); (case hg => rfl); (case hr => exact qgsolve_31); (case hp => exact (Reps.one (show Kd.M (Kd.int .i64) _ _ _ 0 [.int .i64 0] from rfl) (Reps.none _ _))); intro v182 w9 ho10 hb hg_ hnew_; clear hg_ hnew_; (first | rw [← Ny181.out] at ho10 | (simp only [Int.reduceToNat] at ho10; rw [← Ny181.out] at ho10)); have n0_ := Aside0.mk (Kd.N_elder' (by (with_reducible repeat (first | apply Kd.N_alloc | apply Kd.N_drewN | apply Kd.N_drew)); exact (Kd.N_mono (Kd.N_far (p := ⟨gb180, 0, none⟩) (Kd.N_mono HO179.out (fun k_ hk => (⟨hk, hk.2⟩ : _ ∧ k_ ≠ gb180))) (fun _ hk => hk.2) (.slice Ao7 y177.length co7)) (fun _ h_ => h_.1))) (Kd.R_base ho10) hb); have n1_ := Aside0.mk (Kd.R_lower (Kd.R_newM (M := fun k_ => (w.heap.size ≤ k_)) ho10 (below_size qgsolve_6) (fun k_ h_ => h_)) (below_size qgsolve_6)); have n2_ := Aside0.mk (blk_below (g := gb180) (o := .cells #[.slice Ao7 y177.length co7] 76 (0, 0)) (by (with_reducible repeat (first | refine blk_drewN ?_ _ | refine blk_drew ?_ | refine blk_alloc ?_ _)); refine blk_put (cs := #[.slice none 0 0]) ?_ 0 _ rfl; (with_reducible repeat (first | refine blk_drewN ?_ _ | refine blk_drew ?_ | refine blk_alloc ?_ _)); exact BK180.out) hb); have n3_ := Aside0.mk (below_step qgsolve_6 hb); clear HO179; clear BK180; clear HB; have HO179 := n0_; have HO183 := n1_; have BK180 := n2_; have HB := n3_; clear n0_ n1_ n2_ n3_; clear hb ho10))
 go_loopg [9, 10, 11] k (fun kq v9 v10 v11 w' => ∃ (x9_1 : List Int) (x10_1 : Int) (x11_1 : Int) (x181000_1 : List (S108)) (u181000 : Value), v10 = .int .i64 x10_1 ∧ v11 = .int .i64 x11_1 ∧ Aside0 (segmentation_solve.l0 kq l0 a1 a2 x9_1 x10_1 x11_1 x181000_1 = some (r1, r2)) ∧ Aside0 (kq ≤ k) ∧ Aside0 (Kd.R (Kd.int .i64) 3 w' w.heap.size (fun k_ => (w.heap.size ≤ k_)) v9 x9_1) ∧ Aside0 (Kd.N k108 108 w' w.heap.size (fun k_ => (w.heap.size ≤ k_) ∧ some k_ ≠ (v9 : Value).ownBlock ∧ k_ ≠ gb180) u181000 x181000_1) ∧ Aside0 (w'.heap[gb180]? = some (.cells #[u181000] 76 (0, 0))) ∧ Aside0 (Below w.heap.size w w'))
 case atStart => exact ⟨(y181), (0), (1), (y177), (.slice Ao7 y177.length co7), qgsolve_12, qgsolve_12, H', ⟨Nat.le_refl _⟩, ⟨by (with_reducible repeat (first | apply Kd.R_alloc | apply Kd.R_drewN | apply Kd.R_drew)); exact Kd.R_mono HO183.out (fun _ hk => hk.1)⟩, ⟨by (with_reducible repeat (first | apply Kd.N_alloc | apply Kd.N_drewN | apply Kd.N_drew)); exact Kd.N_mono HO179.out (fun _ hk => ⟨hk.1.1, ⟨hk.2, hk.1.2⟩⟩)⟩, ⟨qgsolve_1⟩, ⟨qgsolve_6⟩⟩
 clear H'
 try clear c2
 try clear p2
 try clear c3
 try clear p6
 try clear hcz8_0
 try clear hfz8_0
 obtain ⟨x9_1, x10_1, x11_1, x181000_1, u181000, rfl, rfl, HA, HK1, HO_9, HO_181000, BK180, HB⟩ := hrel
 cases gk with
 | zero => exact absurd HA.out (by simp [segmentation_solve.l0])
 | succ k1 =>
  have H := HA.out
  clear HA
  simp only [segmentation_solve.l0] at H
  by_cases c11 : x11_1 ≤ (l0.length : Int)
  rotate_left
  ·rw [if_neg c11] at H
   have c11b0 : decide (x11_1 ≤ (l0.length : Int)) = false := decide_eq_false c11
   clear c11
   simp only [Option.some.injEq, Prod.mk.injEq] at H
   obtain ⟨rfl, rfl⟩ := H
   have hcz77_0 : wr.cell? ⟨gb180, 0, none⟩ = some (u181000) := (blk_cell BK180.out 0).trans rfl
   have hfz77_0 := blk_frozen BK180.out 0
   go_wp2
   go_ret2
   exact ⟨_, by first | rfl | (simp [errW_none, errW_some] <;> rfl) | (simp [*, errW_none, errW_some] <;> rfl), by (with_reducible repeat (first | apply Kd.N_alloc | apply Kd.N_drewN | apply Kd.N_drew)); exact Kd.N_mono HO_181000.out (fun _ hk => hk.1), qgsolve_6⟩
  rw [if_pos c11] at H
  have c11b0 : decide (x11_1 ≤ (l0.length : Int)) = true := decide_eq_true c11
  clear c11
  replace H := Option.bind_eq_some_iff.mp H
  obtain ⟨t184, A120, H⟩ := H
  replace H : (segmentation_solve.l1 k1 l0 a1 a2 x9_1 x10_1 x11_1 (x9_1.length : Int) 0 x181000_1 t184 0 ([] : List Int)) = some (r1, r2) := H
  have A12 := Aside0.mk A120
  clear A120
  have H' := Aside0.mk H
  clear H
  go_wp2_with (first | ((with_reducible refine gate_callee (f := 60) rfl ?_); refine goesL_ (some 30) rfl rfl Try.func60 (by kernel_rfl) rfl #[.slice A0 l0.length c0, .int .i64 x11_1] rfl qgsolve_28 ?_; (with_reducible refine (segmentation_costs.calls k1 _ _ l0 x11_1 t184 _ ?side1 ?side2 A12.out).mono ?_); (case side1 => repeat (first | exact (Kd.C_below HR0.out HB.out) | (with_reducible refine Kd.C_alloc ?_ _) | (with_reducible refine Kd.C_drewN ?_ _) | (with_reducible refine Kd.C_drew ?_))); (case side2 => exact HC0.out); rintro e w13 ⟨v185, rfl, ho0, hb⟩; refine ⟨_, rfl, ?_⟩; have n0_ := Aside0.mk (Kd.R_elder' qgsolve_5 (Kd.R_base ho0) hb); have n1_ := Aside0.mk (Kd.N_elder' qgsolve_8 (Kd.R_base ho0) hb); have n2_ := Aside0.mk (Kd.R_lower (Kd.R_new' (Kd.R_newM (M := fun k_ => (w.heap.size ≤ k_)) ho0 (below_size qgsolve_6) (fun k_ h_ => h_)) (Kd.R_lt qgsolve_5)) (below_size qgsolve_6)); have n3_ := Aside0.mk (blk_below (g := gb180) (o := .cells #[u181000] 76 (0, 0)) qgsolve_1 hb); have n4_ := Aside0.mk (below_step qgsolve_6 hb); clear HO_9; clear HO_181000; clear BK180; clear HB; have HO_9 := n0_; have HO_181000 := n1_; have HO186 := n2_; have BK180 := n3_; have HB := n4_; clear n0_ n1_ n2_ n3_ n4_; (try clear hb); (try clear hb2); (try clear hk); (try clear hi); (try clear ho0)) | ((with_reducible refine gate_dst (N := 12) rfl ?_); refine box_event ?hg (N := 12) ?hd (cs := #[.slice none 0 0]) (t := 26) ?hr ?_; (case hd => rfl); (case hg => rfl); (case hr => exact qgsolve_31); intro gb187 hg w14 hbox hb; have n0_ := Aside0.mk (Kd.R_below qgsolve_5 hb); have n1_ := Aside0.mk (Kd.N_below (Kd.N_elderB qgsolve_8 gb187 (Nat.le_of_eq hg.symm)) hb); have n2_ := Aside0.mk (Kd.R_below (by (with_reducible repeat (first | apply Kd.R_alloc | apply Kd.R_drewN | apply Kd.R_drew)); exact HO186.out) hb); have n3_ := Aside0.mk (blk_below (g := gb180) (o := .cells #[u181000] 76 (0, 0)) qgsolve_1 hb); have n4_ := Aside0.mk (below_step qgsolve_6 hb); have n5_ := Aside0.mk (hbox); have n6_ := Aside0.mk ((by rw [hg]; exact (below_size qgsolve_6) : w.heap.size ≤ gb187)); have n7_ := Aside0.mk ((by rw [hg]; exact (below_size qgsolve_6) : w.heap.size ≤ gb187)); have n8_ := Aside0.mk ((by rw [hg]; exact Nat.ne_of_lt (blk_lt (g := gb180) (o := .cells #[u181000] 76 (0, 0)) qgsolve_1) : gb180 ≠ gb187)); have n9_ := Aside0.mk ((by rw [hg]; exact Nat.ne_of_gt (blk_lt (g := gb180) (o := .cells #[u181000] 76 (0, 0)) qgsolve_1) : gb187 ≠ gb180)); clear HO_9; clear HO_181000; clear HO186; clear BK180; clear HB; have HO_9 := n0_; have HO_181000 := n1_; have HO186 := n2_; have BK180 := n3_; have HB := n4_; have BK187 := n5_; have GW187 := n6_; have GE187 := n7_; have NB180_187 := n8_; have NB187_180 := n9_; clear n0_ n1_ n2_ n3_ n4_ n5_ n6_ n7_ n8_ n9_; clear hb hbox hg; obtain ⟨Ao15, co15, eo15⟩ := Kd.R_slice HO186.out; subst eo15; have hnb16 := NB187_180.out; have hnc16 := NB180_187.out; have hcz17_0 : w14.cell? ⟨gb187, 0, none⟩ = some (.slice none 0 0) := (blk_cell BK187.out 0).trans rfl; have hfz17_0 := blk_frozen BK187.out 0) | ((with_reducible refine gate_dst (N := 13) rfl ?_); refine box_event ?hg (N := 13) ?hd (cs := #[.int .i64 0, .slice none 0 0]) (t := 108) ?hr ?_; (case hd => rfl); (case hg => rfl); (case hr => exact qgsolve_31); intro gb188 hg w18 hbox hb; have n0_ := Aside0.mk (Kd.R_below (by (with_reducible repeat (first | apply Kd.R_alloc | apply Kd.R_drewN | apply Kd.R_drew)); exact (Kd.R_mono (Kd.R_far (p := ⟨gb187, 0, none⟩) (Kd.R_types HO_9.out BK187.out (by decide)) (fun _ hk => hk.2) (.slice Ao15 t184.length co15)) (fun _ h_ => h_.1))) hb); have n1_ := Aside0.mk (Kd.N_below (Kd.N_elderB (by (with_reducible repeat (first | apply Kd.N_alloc | apply Kd.N_drewN | apply Kd.N_drew)); exact (Kd.N_mono (Kd.N_far (p := ⟨gb187, 0, none⟩) (Kd.N_mono HO_181000.out (fun k_ hk => (⟨hk, hk.2⟩ : _ ∧ k_ ≠ gb187))) (fun _ hk => hk.2) (.slice Ao15 t184.length co15)) (fun _ h_ => h_.1))) gb188 (Nat.le_of_eq hg.symm)) hb); have n2_ := Aside0.mk (Kd.R_below (by (with_reducible repeat (first | apply Kd.R_alloc | apply Kd.R_drewN | apply Kd.R_drew)); exact (Kd.R_mono (Kd.R_far (p := ⟨gb187, 0, none⟩) (Kd.R_types HO186.out BK187.out (by decide)) (fun _ hk => hk.2) (.slice Ao15 t184.length co15)) (fun _ h_ => h_.1))) hb); have n3_ := Aside0.mk (blk_below (g := gb180) (o := .cells #[u181000] 76 (0, 0)) qgsolve_15 hb); have n4_ := Aside0.mk (blk_below (g := gb187) (o := .cells #[.slice Ao15 t184.length co15] 26 (0, 0)) qgsolve_14 hb); have n5_ := Aside0.mk (below_step qgsolve_22 hb); have n6_ := Aside0.mk (hbox); have n7_ := Aside0.mk ((by rw [hg]; exact (below_size qgsolve_22) : w.heap.size ≤ gb188)); have n8_ := Aside0.mk ((by rw [hg]; exact (below_size qgsolve_22) : w.heap.size ≤ gb188)); have n9_ := Aside0.mk ((by rw [hg]; exact Nat.ne_of_lt (blk_lt (g := gb180) (o := .cells #[u181000] 76 (0, 0)) qgsolve_15) : gb180 ≠ gb188)); have n10_ := Aside0.mk ((by rw [hg]; exact Nat.ne_of_gt (blk_lt (g := gb180) (o := .cells #[u181000] 76 (0, 0)) qgsolve_15) : gb188 ≠ gb180)); have n11_ := Aside0.mk ((by rw [hg]; exact Nat.ne_of_lt (blk_lt (g := gb187) (o := .cells #[.slice Ao15 t184.length co15] 26 (0, 0)) qgsolve_14) : gb187 ≠ gb188)); have n12_ := Aside0.mk ((by rw [hg]; exact Nat.ne_of_gt (blk_lt (g := gb187) (o := .cells #[.slice Ao15 t184.length co15] 26 (0, 0)) qgsolve_14) : gb188 ≠ gb187)); clear HO_9; clear HO_181000; clear HO186; clear BK180; clear BK187; clear HB; have HO_9 := n0_; have HO_181000 := n1_; have HO186 := n2_; have BK180 := n3_; have BK187 := n4_; have HB := n5_; have BK188 := n6_; have GW188 := n7_; have GE188 := n8_; have NB180_188 := n9_; have NB188_180 := n10_; have NB187_188 := n11_; have NB188_187 := n12_; clear n0_ n1_ n2_ n3_ n4_ n5_ n6_ n7_ n8_ n9_ n10_ n11_ n12_; clear hb hbox hg; obtain ⟨Ao19, co19, eo19⟩ := Kd.R_slice HO_9.out; subst eo19))
  go_loopg [10, 33] k1 (fun kq v10 v33 w' => ∃ (x10_2 : Int) (x33_2 : Int) (x189000_2 : Int) (x189001_2 : List Int) (u189001 : Value), v10 = .int .i64 x10_2 ∧ v33 = .int .i64 x33_2 ∧ Aside0 (segmentation_solve.l1 kq l0 a1 a2 x9_1 x10_2 x11_1 (x9_1.length : Int) x33_2 x181000_1 t184 x189000_2 x189001_2 = some (r1, r2)) ∧ Aside0 (kq ≤ k1) ∧ Aside0 (Kd.R (Kd.int .i64) 3 w' w.heap.size (fun k_ => (w.heap.size ≤ k_) ∧ some k_ ≠ ((.slice Ao15 t184.length co15) : Value).ownBlock) (.slice Ao19 x9_1.length co19) x9_1) ∧ Aside0 (Kd.N k108 108 w' w.heap.size (fun k_ => (w.heap.size ≤ k_) ∧ some k_ ≠ ((.slice Ao19 x9_1.length co19) : Value).ownBlock ∧ some k_ ≠ ((.slice Ao15 t184.length co15) : Value).ownBlock ∧ k_ ≠ gb180 ∧ k_ ≠ gb187 ∧ k_ ≠ gb188) u181000 x181000_1) ∧ Aside0 (Kd.R (Kd.int .i64) 3 w' w.heap.size (fun k_ => (w.heap.size ≤ k_) ∧ some k_ ≠ ((.slice Ao19 x9_1.length co19) : Value).ownBlock) (.slice Ao15 t184.length co15) t184) ∧ Aside0 (Kd.V (Kd.int .i64) 3 w' w.heap.size (fun k_ => (w.heap.size ≤ k_) ∧ some k_ ≠ ((.slice Ao19 x9_1.length co19) : Value).ownBlock ∧ some k_ ≠ (u181000 : Value).ownBlock ∧ some k_ ≠ ((.slice Ao15 t184.length co15) : Value).ownBlock ∧ k_ ≠ gb180 ∧ k_ ≠ gb187 ∧ k_ ≠ gb188) u189001 x189001_2) ∧ Aside0 (w'.heap[gb180]? = some (.cells #[u181000] 76 (0, 0))) ∧ Aside0 (w'.heap[gb187]? = some (.cells #[(.slice Ao15 t184.length co15)] 26 (0, 0))) ∧ Aside0 (w'.heap[gb188]? = some (.cells #[.int .i64 x189000_2, u189001] 108 (0, 0))) ∧ Aside0 (Below w.heap.size w w'))
  case atStart => exact ⟨(x10_1), (0), (0), (([] : List Int)), (.slice none 0 0), qgsolve_12, qgsolve_12, H', ⟨Nat.le_refl _⟩, ⟨qgsolve_5⟩, ⟨by (with_reducible repeat (first | apply Kd.N_alloc | apply Kd.N_drewN | apply Kd.N_drew)); exact Kd.N_mono HO_181000.out (fun _ hk => ⟨hk.1.1.1.1, ⟨hk.1.1.1.2.1, ⟨hk.1.1.2, ⟨hk.1.1.1.2.2, ⟨hk.1.2, hk.2⟩⟩⟩⟩⟩)⟩, ⟨by (with_reducible repeat (first | apply Kd.R_alloc | apply Kd.R_drewN | apply Kd.R_drew)); exact Kd.R_mono HO186.out (fun _ hk => ⟨hk.1.1, hk.2⟩)⟩, ⟨(by exact Kd.V_nil _ _ _ _ _)⟩, ⟨qgsolve_1⟩, ⟨qgsolve_3⟩, ⟨qgsolve_4⟩, ⟨qgsolve_0⟩⟩
  clear H'
  try clear c1
  try clear c2
  try clear p2
  try clear c3
  try clear c6
  try clear p6
  try clear c11
  try clear c11b0
  try clear c16
  try clear hcz17_0
  try clear hcz8_0
  try clear hfz17_0
  try clear hfz8_0
  try clear p2
  try clear p6
  obtain ⟨x10_2, x33_2, x189000_2, x189001_2, u189001, rfl, rfl, HA, HK2, HO_9, HO_181000, HO_188000, HO_189001, BK180, BK187, BK188, HB⟩ := hrel
  cases gk with
  | zero => exact absurd HA.out (by simp [segmentation_solve.l1])
  | succ k2 =>
   have H := HA.out
   clear HA
   simp only [segmentation_solve.l1] at H
   by_cases c20 : x33_2 < (x9_1.length : Int)
   rotate_left
   ·rw [if_neg c20] at H
    have c20b0 : decide (x33_2 < (x9_1.length : Int)) = false := decide_eq_false c20
    clear c20
    by_cases c64 : x181000_1.length < 4398046511104
    rotate_left
    ·rw [if_neg c64] at H
     exact absurd H (by simp)
    rw [if_pos c64] at H
    have LMc64 := Aside0.mk c64
    clear c64
    obtain ⟨y189, hy189⟩ : ∃ y_ : List (S108), y_ = (x181000_1 ++ [(⟨x189000_2, x189001_2⟩ : S108)]) := ⟨_, rfl⟩
    replace H : (if a2 = true then (none) else (if x9_1.length < 17592186044416 then (segmentation_solve.l0 k2 l0 a1 a2 (x9_1 ++ [x11_1]) x10_2 (wrap64 (x11_1 + 1)) y189) else (none))) = some (r1, r2) := by first | (rw [hy189]; with_reducible exact H) | (have H2_ := (Option.bind_some _ _).symm.trans H; rw [hy189]; with_reducible exact H2_) | (have H2_ := (Option.bind_some _ _).symm.trans H; with_reducible exact H2_) | with_reducible exact H | (rw [hy189]; exact H) | exact H
    have Ny189 := Aside0.mk hy189
    clear hy189
    by_cases c65 : a2 = true
    ·subst c65
     have H1 : (none) = some (r1, r2) := by rw [if_pos rfl] at H; exact H
     clear H
     have H := H1
     clear H1
     exact absurd H (by simp)
    replace c65 := Bool.eq_false_iff.mpr c65
    subst c65
    have H1 : (if x9_1.length < 17592186044416 then (segmentation_solve.l0 k2 l0 a1 false (x9_1 ++ [x11_1]) x10_2 (wrap64 (x11_1 + 1)) y189) else (none)) = some (r1, r2) := by rw [if_neg (show ¬ (false = true) by decide)] at H; exact H
    clear H
    have H := H1
    clear H1
    by_cases c66 : x9_1.length < 17592186044416
    rotate_left
    ·rw [if_neg c66] at H
     exact absurd H (by simp)
    rw [if_pos c66] at H
    have LMc66 := Aside0.mk c66
    clear c66
    obtain ⟨y192, hy192⟩ : ∃ y_ : List Int, y_ = (x9_1 ++ [x11_1]) := ⟨_, rfl⟩
    replace H : (segmentation_solve.l0 k2 l0 a1 false y192 x10_2 (wrap64 (x11_1 + 1)) y189) = some (r1, r2) := by first | (rw [hy192]; with_reducible exact H) | (have H2_ := (Option.bind_some _ _).symm.trans H; rw [hy192]; with_reducible exact H2_) | (have H2_ := (Option.bind_some _ _).symm.trans H; with_reducible exact H2_) | with_reducible exact H | (rw [hy192]; exact H) | exact H
    have Ny192 := Aside0.mk hy192
    clear hy192
    have H' := Aside0.mk H
    clear H
    have hnb67 := NB180_187.out
    have hnc67 := NB187_180.out
    have hnb68 := NB180_188.out
    have hnc68 := NB188_180.out
    have hcz69_0 : wr.cell? ⟨gb180, 0, none⟩ = some (u181000) := (blk_cell BK180.out 0).trans rfl
    have hfz69_0 := blk_frozen BK180.out 0
    have hnb70 := NB188_187.out
    have hnc70 := NB187_188.out
    have hcz71_0 : wr.cell? ⟨gb188, 0, none⟩ = some (.int .i64 x189000_2) := (blk_cell BK188.out 0).trans rfl
    have hcz71_1 : wr.cell? ⟨gb188, 1, none⟩ = some (u189001) := (blk_cell BK188.out 1).trans rfl
    have hfz71_0 := blk_frozen BK188.out 0
    have hfz71_1 := blk_frozen BK188.out 1
    obtain ⟨Ao73, co73, eo73⟩ := Kd.V_slice HO_189001.out
    subst eo73
    go_wp2_with (first | ((with_reducible refine gate_builtin (b := .append) (xs := #[.tmp 80, .tmp 82]) rfl ?_); at_builtin; refine Kd.N_append k108 (w0 := w) w.heap.size rfl (.tmp 80) (.tmp 82) 76 108 (.agg #[(.int .i64 0), (.slice none 0 0)]) 32 rfl Try.underlying76 info108 rfl (by decide) (by omega) u181000 x181000_1 (⟨x189000_2, x189001_2⟩ : S108) [.int .i64 x189000_2, .slice Ao73 x189001_2.length co73] (fun k_ => (w.heap.size ≤ k_) ∧ some k_ ≠ (.slice Ao19 x9_1.length co19 : Value).ownBlock ∧ some k_ ≠ (.slice Ao15 t184.length co15 : Value).ownBlock ∧ k_ ≠ gb180 ∧ k_ ≠ gb187 ∧ k_ ≠ gb188) (fun k_ => ((fun k_ => (w.heap.size ≤ k_) ∧ some k_ ≠ (.slice Ao19 x9_1.length co19 : Value).ownBlock ∧ some k_ ≠ (.slice Ao15 t184.length co15 : Value).ownBlock ∧ k_ ≠ gb180 ∧ k_ ≠ gb187 ∧ k_ ≠ gb188)) k_ ∧ some k_ ≠ (u181000 : Value).ownBlock) rfl rfl ?aP (fun _ hk => hk) ?aF ?aO ?aB ?aS ?aL ?_; (case aP => exact (k108_mkF _ _ (⟨x189000_2, x189001_2⟩ : S108) (Kd.V_reads' (Kd.V_mono (ok' := (fun k_ => ((fun k_ => (w.heap.size ≤ k_) ∧ some k_ ≠ (.slice Ao19 x9_1.length co19 : Value).ownBlock ∧ some k_ ≠ (.slice Ao15 t184.length co15 : Value).ownBlock ∧ k_ ≠ gb180 ∧ k_ ≠ gb187 ∧ k_ ≠ gb188)) k_ ∧ some k_ ≠ (u181000 : Value).ownBlock)) (HO_189001.out) (fun k_ hk => ⟨⟨hk.1, ⟨hk.2.1, ⟨hk.2.2.2.1, ⟨hk.2.2.2.2.1, ⟨hk.2.2.2.2.2.1, hk.2.2.2.2.2.2⟩⟩⟩⟩⟩, hk.2.2.1⟩))).2.1 (Kd.V_F (Kd.V_mono (ok' := (fun k_ => ((fun k_ => (w.heap.size ≤ k_) ∧ some k_ ≠ (.slice Ao19 x9_1.length co19 : Value).ownBlock ∧ some k_ ≠ (.slice Ao15 t184.length co15 : Value).ownBlock ∧ k_ ≠ gb180 ∧ k_ ≠ gb187 ∧ k_ ≠ gb188)) k_ ∧ some k_ ≠ (u181000 : Value).ownBlock)) (HO_189001.out) (fun k_ hk => ⟨⟨hk.1, ⟨hk.2.1, ⟨hk.2.2.2.1, ⟨hk.2.2.2.2.1, ⟨hk.2.2.2.2.2.1, hk.2.2.2.2.2.2⟩⟩⟩⟩⟩, hk.2.2.1⟩))))); (case aB => exact qgsolve_0); (case aF => exact (fun k_ hk => ⟨(Nat.le_trans (below_size qgsolve_0) hk), Kd.fresh' (Kd.R_lt qgsolve_5) k_ hk, Kd.fresh' (Kd.R_lt qgsolve_7) k_ hk, Kd.freshB (g := gb180) (o := .cells #[u181000] 76 (0, 0)) qgsolve_1 k_ hk, Kd.freshB (g := gb187) (o := .cells #[.slice Ao15 t184.length co15] 26 (0, 0)) qgsolve_3 k_ hk, Kd.freshB (g := gb188) (o := .cells #[.int .i64 x189000_2, .slice Ao73 x189001_2.length co73] 108 (0, 0)) qgsolve_4 k_ hk⟩)); (case aO => exact qgsolve_8); (case aS => exact (below_size qgsolve_0)); (case aL => have := LMc64.out; omega); intro v190 w72 ho hb hg hat; rw [← Ny189.out] at ho; have n0_ := Aside0.mk (Kd.R_over' qgsolve_5 (Kd.N_typed qgsolve_8) (by decide) hg); have n1_ := Aside0.mk (Kd.R_over' qgsolve_7 (Kd.N_typed qgsolve_8) (by decide) hg); have n2_ := Aside0.mk (Kd.V_afterv (ok := (fun k_ => (w.heap.size ≤ k_) ∧ some k_ ≠ (.slice Ao19 x9_1.length co19 : Value).ownBlock ∧ some k_ ≠ (.slice Ao15 t184.length co15 : Value).ownBlock ∧ k_ ≠ gb180 ∧ k_ ≠ gb187 ∧ k_ ≠ gb188)) (by (with_reducible repeat (first | apply Kd.V_alloc | apply Kd.V_drewN | apply Kd.V_drew)); exact Kd.V_mono HO_189001.out (fun _ hk => ⟨⟨hk.1, ⟨hk.2.1, ⟨hk.2.2.2.1, ⟨hk.2.2.2.2.1, ⟨hk.2.2.2.2.2.1, hk.2.2.2.2.2.2⟩⟩⟩⟩⟩, hk.2.2.1⟩)) hg hat); have n3_ := Aside0.mk (blk_grown (g := gb180) (o := .cells #[u181000] 76 (0, 0)) qgsolve_1 hg (Kd.N_ne HO_181000.out BK180.out (by decide))); have n4_ := Aside0.mk (blk_grown (g := gb187) (o := .cells #[.slice Ao15 t184.length co15] 26 (0, 0)) qgsolve_3 hg (Kd.N_ne HO_181000.out BK187.out (by decide))); have n5_ := Aside0.mk (blk_grown (g := gb188) (o := .cells #[.int .i64 x189000_2, .slice Ao73 x189001_2.length co73] 108 (0, 0)) qgsolve_4 hg (Kd.N_away HO_181000.out (fun _ hk => hk.2.2.2.2.2))); have n6_ := Aside0.mk (hb); have n7_ := Aside0.mk (ho); clear HO_9; clear HO_188000; clear HO_189001; clear BK180; clear BK187; clear BK188; clear HB; clear HO_181000; have HO_9 := n0_; have HO_188000 := n1_; have HO_189001 := n2_; have BK180 := n3_; have BK187 := n4_; have BK188 := n5_; have HB := n6_; have HO191 := n7_; clear n0_ n1_ n2_ n3_ n4_ n5_ n6_ n7_; clear ho hb hg hat; obtain ⟨Ao74, co74, eo74⟩ := Kd.N_slice HO191.out; subst eo74; have hcz75_0 : w72.cell? ⟨gb180, 0, none⟩ = some (u181000) := (blk_cell BK180.out 0).trans rfl; have hfz75_0 := blk_frozen BK180.out 0) | ((with_reducible refine gate_builtin (b := .append) (xs := #[.tmp 88, .tmp 90]) rfl ?_); at_builtin; refine Kd.R_append (Kd.int .i64) (w0 := w) w.heap.size rfl (.tmp 88) (.tmp 90) 26 3 (.int .i64 0) 8 rfl Try.underlying26 info3 rfl (by decide) (by omega) (.slice Ao19 x9_1.length co19) x9_1 x11_1 [.int .i64 x11_1] (fun k_ => (w.heap.size ≤ k_) ∧ some k_ ≠ (.slice Ao15 t184.length co15 : Value).ownBlock) (fun _ => False) rfl qgsolve_31 ?aP (fun _ hk => hk.elim) ?aF ?aO ?aB ?aS ?aL ?_; (case aP => exact rfl); (case aB => exact qgsolve_0); (case aF => exact (fun k_ hk => ⟨(Nat.le_trans (below_size qgsolve_0) hk), Kd.fresh' (Kd.R_lt (by (with_reducible repeat (first | apply Kd.R_alloc | apply Kd.R_drewN | apply Kd.R_drew)); exact (Kd.R_mono (Kd.R_far (p := ⟨gb180, 0, none⟩) (Kd.R_types HO_188000.out BK180.out (by decide)) (fun _ hk => hk.2) (.slice Ao74 y189.length co74)) (fun _ h_ => h_.1)))) k_ hk⟩)); (case aO => exact (by (with_reducible repeat (first | apply Kd.R_alloc | apply Kd.R_drewN | apply Kd.R_drew)); exact Kd.R_mono (Kd.R_far (p := ⟨gb180, 0, none⟩) (Kd.R_types HO_9.out BK180.out (by decide)) (fun _ hk => hk.2) (.slice Ao74 y189.length co74)) (fun _ hk => ⟨hk.1.1, hk.1.2⟩))); (case aS => exact (below_size qgsolve_0)); (case aL => have := LMc66.out; omega); intro v193 w76 ho hb hg hat; rw [← Ny192.out] at ho; have n0_ := Aside0.mk (Kd.R_after (ok := (fun k_ => (w.heap.size ≤ k_))) (by (with_reducible repeat (first | apply Kd.R_alloc | apply Kd.R_drewN | apply Kd.R_drew)); exact Kd.R_mono (Kd.R_far (p := ⟨gb180, 0, none⟩) (Kd.R_types HO_188000.out BK180.out (by decide)) (fun _ hk => hk.2) (.slice Ao74 y189.length co74)) (fun _ hk => ⟨hk.1.1, hk.1.2⟩)) hg hat); have n1_ := Aside0.mk (Kd.V_afterv (ok := (fun k_ => (w.heap.size ≤ k_) ∧ some k_ ≠ (.slice Ao15 t184.length co15 : Value).ownBlock ∧ some k_ ≠ (.slice Ao74 y189.length co74 : Value).ownBlock ∧ k_ ≠ gb180 ∧ k_ ≠ gb187 ∧ k_ ≠ gb188)) (by (with_reducible repeat (first | apply Kd.V_alloc | apply Kd.V_drewN | apply Kd.V_drew)); exact Kd.V_mono (Kd.V_far (p := ⟨gb180, 0, none⟩) (Kd.V_mono HO_189001.out (fun k_ hk => (⟨hk, hk.1.2.2.2.1⟩ : _ ∧ k_ ≠ gb180))) (fun _ hk => hk.2) (.slice Ao74 y189.length co74)) (fun _ hk => ⟨⟨hk.1.1.1, ⟨hk.1.1.2.2.1, ⟨hk.1.2, ⟨hk.1.1.2.2.2.1, ⟨hk.1.1.2.2.2.2.1, hk.1.1.2.2.2.2.2⟩⟩⟩⟩⟩, hk.1.1.2.1⟩)) hg hat); have n2_ := Aside0.mk (blk_grown (g := gb180) (o := .cells #[.slice Ao74 y189.length co74] 76 (0, 0)) (by (with_reducible repeat (first | refine blk_drewN ?_ _ | refine blk_drew ?_ | refine blk_alloc ?_ _)); refine blk_put (cs := #[u181000]) ?_ 0 _ rfl; (with_reducible repeat (first | refine blk_drewN ?_ _ | refine blk_drew ?_ | refine blk_alloc ?_ _)); exact BK180.out) hg (Kd.R_ne HO_9.out BK180.out (by decide))); have n3_ := Aside0.mk (blk_grown (g := gb187) (o := .cells #[.slice Ao15 t184.length co15] 26 (0, 0)) (by (with_reducible repeat (first | refine blk_drewN ?_ _ | refine blk_drew ?_ | refine blk_alloc ?_ _)); refine blk_far ?_ NB187_180.out _; (with_reducible repeat (first | refine blk_drewN ?_ _ | refine blk_drew ?_ | refine blk_alloc ?_ _)); exact BK187.out) hg (Kd.R_ne HO_9.out BK187.out (by decide))); have n4_ := Aside0.mk (blk_grown (g := gb188) (o := .cells #[.int .i64 x189000_2, .slice Ao73 x189001_2.length co73] 108 (0, 0)) (by (with_reducible repeat (first | refine blk_drewN ?_ _ | refine blk_drew ?_ | refine blk_alloc ?_ _)); refine blk_far ?_ NB188_180.out _; (with_reducible repeat (first | refine blk_drewN ?_ _ | refine blk_drew ?_ | refine blk_alloc ?_ _)); exact BK188.out) hg (Kd.R_ne HO_9.out BK188.out (by decide))); have n5_ := Aside0.mk (Kd.N_afterv (ok := (fun k_ => (w.heap.size ≤ k_) ∧ some k_ ≠ (.slice Ao15 t184.length co15 : Value).ownBlock ∧ k_ ≠ gb180 ∧ k_ ≠ gb187 ∧ k_ ≠ gb188)) (by (with_reducible repeat (first | apply Kd.N_alloc | apply Kd.N_drewN | apply Kd.N_drew)); exact Kd.N_mono (Kd.N_far (p := ⟨gb180, 0, none⟩) (Kd.N_mono HO191.out (fun k_ hk => (⟨hk, hk.2.2.2.1⟩ : _ ∧ k_ ≠ gb180))) (fun _ hk => hk.2) (.slice Ao74 y189.length co74)) (fun _ hk => ⟨⟨hk.1.1, ⟨hk.1.2.2.1, ⟨hk.1.2.2.2.1, ⟨hk.1.2.2.2.2.1, hk.1.2.2.2.2.2⟩⟩⟩⟩, hk.1.2.1⟩)) hg hat); have n6_ := Aside0.mk (hb); have n7_ := Aside0.mk (ho); clear HO_188000; clear HO_189001; clear BK180; clear BK187; clear BK188; clear HO191; clear HB; clear HO_9; have HO_188000 := n0_; have HO_189001 := n1_; have BK180 := n2_; have BK187 := n3_; have BK188 := n4_; have HO191 := n5_; have HB := n6_; have HO194 := n7_; clear n0_ n1_ n2_ n3_ n4_ n5_ n6_ n7_; clear ho hb hg hat))
    go_roundg k2
    case measure => have := HK1.out; have := HK2.out; omega
    case rel => exact ⟨(y192), (x10_2), (wrap64 (x11_1 + 1)), (y189), (.slice Ao74 y189.length co74), qgsolve_12, qgsolve_12, H', ⟨by have := HK1.out; have := HK2.out; omega⟩, ⟨by (with_reducible repeat (first | apply Kd.R_alloc | apply Kd.R_drewN | apply Kd.R_drew)); exact Kd.R_mono HO194.out (fun _ hk => hk.1)⟩, ⟨by (with_reducible repeat (first | apply Kd.N_alloc | apply Kd.N_drewN | apply Kd.N_drew)); exact Kd.N_mono HO191.out (fun _ hk => ⟨hk.1.1, ⟨hk.2, hk.1.2.2.1⟩⟩)⟩, ⟨qgsolve_1⟩, ⟨qgsolve_0⟩⟩
   rw [if_pos c20] at H
   have c20b0 : decide (x33_2 < (x9_1.length : Int)) = true := decide_eq_true c20
   clear c20
   by_cases c21 : 0 ≤ x33_2
   rotate_left
   ·rw [if_neg c21] at H
    exact absurd H (by simp)
   rw [if_pos c21] at H
   have c21b0 : decide (0 ≤ x33_2) = true := decide_eq_true c21
   clear c21
   by_cases c22 : x33_2 < (x9_1.length : Int)
   rotate_left
   ·rw [if_neg c22] at H
    exact absurd H (by simp)
   rw [if_pos c22] at H
   have c22b0 : decide (x33_2 < (x9_1.length : Int)) = true := decide_eq_true c22
   clear c22
   have HC23 := Aside0.mk H
   clear H
   have p195 : 0 ≤ (x33_2 : Int) := of_decide_eq_true qgsolve_16
   have q195 : x33_2 < (x9_1.length : Int) := of_decide_eq_true qgsolve_16
   obtain ⟨ad195, e195, hx195_0⟩ := Kd.at_int (Kd.R_reads' HO_9.out).2.2 x33_2 p195 q195
   cases e195
   replace p195 := eq_true p195
   replace q195 := eq_true q195
   go_upto_region 13 with (fail)
   go_cut [58] (fun v58 wc => ∃ (kq : Nat) (x58_22 : Bool), v58 = .bool x58_22 ∧ Aside0 (segmentation_solve.j2 kq l0 a1 a2 x9_1 (wrap64 (x10_2 + 1)) x11_1 x33_2 (rd x9_1 x33_2) (x9_1.length : Int) x33_2 x58_22 x181000_1 t184 x189000_2 x189001_2 = some (r1, r2)) ∧ Aside0 (kq ≤ k2) ∧ Aside0 (Kd.R (Kd.int .i64) 3 wc w.heap.size (fun k_ => (w.heap.size ≤ k_) ∧ some k_ ≠ ((.slice Ao15 t184.length co15) : Value).ownBlock) (.slice (some ad195) x9_1.length co19) x9_1) ∧ Aside0 (Kd.N k108 108 wc w.heap.size (fun k_ => (w.heap.size ≤ k_) ∧ some k_ ≠ ((.slice (some ad195) x9_1.length co19) : Value).ownBlock ∧ some k_ ≠ ((.slice Ao15 t184.length co15) : Value).ownBlock ∧ k_ ≠ gb180 ∧ k_ ≠ gb187 ∧ k_ ≠ gb188) u181000 x181000_1) ∧ Aside0 (Kd.R (Kd.int .i64) 3 wc w.heap.size (fun k_ => (w.heap.size ≤ k_) ∧ some k_ ≠ ((.slice (some ad195) x9_1.length co19) : Value).ownBlock) (.slice Ao15 t184.length co15) t184) ∧ Aside0 (Kd.V (Kd.int .i64) 3 wc w.heap.size (fun k_ => (w.heap.size ≤ k_) ∧ some k_ ≠ ((.slice (some ad195) x9_1.length co19) : Value).ownBlock ∧ some k_ ≠ (u181000 : Value).ownBlock ∧ some k_ ≠ ((.slice Ao15 t184.length co15) : Value).ownBlock ∧ k_ ≠ gb180 ∧ k_ ≠ gb187 ∧ k_ ≠ gb188) u189001 x189001_2) ∧ Aside0 (wc.heap[gb180]? = some (.cells #[u181000] 76 (0, 0))) ∧ Aside0 (wc.heap[gb187]? = some (.cells #[(.slice Ao15 t184.length co15)] 26 (0, 0))) ∧ Aside0 (wc.heap[gb188]? = some (.cells #[.int .i64 x189000_2, u189001] 108 (0, 0))) ∧ Aside0 (Below w.heap.size w wc))
   case first =>
    have H := HC23.out
    clear HC23
    by_cases c24 : x33_2 > 0
    rotate_left
    ·rw [if_neg c24] at H
     have c24b0 : decide (0 < x33_2) = false := decide_eq_false c24
     clear c24
     (first | rw [c24b0] | (simp only [i64_w, i32_w]; rw [c24b0]) | skip)
     have H' := Aside0.mk H
     clear H
     try go_wp2
     have n0_ := Aside0.mk (Kd.R_drew HO_9.out)
     have n1_ := Aside0.mk (Kd.N_drew HO_181000.out)
     have n2_ := Aside0.mk (Kd.R_drew HO_188000.out)
     have n3_ := Aside0.mk (Kd.V_drew HO_189001.out)
     have n4_ := Aside0.mk (blk_drew BK180.out)
     have n5_ := Aside0.mk (blk_drew BK187.out)
     have n6_ := Aside0.mk (blk_drew BK188.out)
     have n7_ := Aside0.mk (below_drew1 HB.out)
     clear HO_9
     clear HO_181000
     clear HO_188000
     clear HO_189001
     clear BK180
     clear BK187
     clear BK188
     clear HB
     have HO_9 := n0_
     have HO_181000 := n1_
     have HO_188000 := n2_
     have HO_189001 := n3_
     have BK180 := n4_
     have BK187 := n5_
     have BK188 := n6_
     have HB := n7_
     clear n0_ n1_ n2_ n3_ n4_ n5_ n6_ n7_
     refine start_ (n := 19) (S := fun w' => True) (ds := []) A4942_0 (by kernel_rfl) rfl rfl trivial (fun hHeld => ?_); refine with_tabW segmentation_solve.tab13 segmentation_solve.bits13 (fun HT_ HW_ => ?_)
     generalize wr.drew = w30 at HO_9 HO_181000 HO_188000 HO_189001 BK180 BK187 BK188 HB hHeld ⊢
     refine pA_ 0 40 A4942_1 HT_ ?_
     refine pA_ 1 41 A4942_2 HT_ ?_
     refine pA_ 2 42 A4942_3 HT_ ?_
     refine pB_ 3 43 A4942_4 HT_ ?_
     refine pB_ 4 44 A4942_5 HT_ ?_
     refine pB_ 5 45 A4942_6 HT_ ?_
     refine pB_ 6 46 A4942_7 HT_ ?_
     refine pB_ 7 47 A4942_8 HT_ ?_
     refine pB_ 8 48 A4942_9 HT_ ?_
     refine pB_ 9 49 A4942_10 HT_ ?_
     refine pB_ 10 50 A4942_11 HT_ ?_
     refine pB_ 11 51 A4942_12 HT_ ?_
     refine pB_ 12 52 A4942_13 HT_ ?_
     refine pB_ 13 53 A4942_14 HT_ ?_
     refine pB_ 14 54 A4942_15 HT_ ?_
     refine pB_ 15 55 A4942_16 HT_ ?_
     refine pB_ 16 56 A4942_17 HT_ ?_
     refine pB_ 17 57 A4942_18 HT_ ?_
     refine pA_ 18 58 A4942_19 HT_ ?_
     refine done_ (done_of HT_.out (by kernel_rfl)) ?_
     try go_wp2
     go_meet
     case rel => exact ⟨_, (false), qgsolve_12, H', ⟨by have := HK1.out; have := HK2.out; first | omega | exact Nat.le_refl _⟩, ⟨qgsolve_5⟩, ⟨qgsolve_8⟩, ⟨qgsolve_7⟩, ⟨qgsolve_11⟩, ⟨qgsolve_1⟩, ⟨qgsolve_3⟩, ⟨qgsolve_4⟩, ⟨qgsolve_0⟩⟩
    rw [if_pos c24] at H
    have c24b0 : decide (0 < x33_2) = true := decide_eq_true c24
    clear c24
    (first | rw [c24b0] | (simp only [i64_w, i32_w]; rw [c24b0]) | skip)
    by_cases c25 : 0 ≤ (rd x9_1 x33_2)
    rotate_left
    ·rw [if_neg c25] at H
     exact absurd H (by simp)
    rw [if_pos c25] at H
    have c25b0 : decide (0 ≤ (rd x9_1 x33_2)) = true := decide_eq_true c25
    clear c25
    by_cases c26 : (rd x9_1 x33_2) < (x181000_1.length : Int)
    rotate_left
    ·rw [if_neg c26] at H
     exact absurd H (by simp)
    rw [if_pos c26] at H
    have c26b0 : decide ((rd x9_1 x33_2) < (x181000_1.length : Int)) = true := decide_eq_true c26
    clear c26
    by_cases c27 : (rd x9_1 x33_2) < (t184.length : Int)
    rotate_left
    ·rw [if_neg c27] at H
     exact absurd H (by simp)
    rw [if_pos c27] at H
    have c27b0 : decide ((rd x9_1 x33_2) < (t184.length : Int)) = true := decide_eq_true c27
    clear c27
    have H' := Aside0.mk H
    clear H
    try go_wp2
    have n0_ := Aside0.mk (Kd.R_drew HO_9.out)
    have n1_ := Aside0.mk (Kd.N_drew HO_181000.out)
    have n2_ := Aside0.mk (Kd.R_drew HO_188000.out)
    have n3_ := Aside0.mk (Kd.V_drew HO_189001.out)
    have n4_ := Aside0.mk (blk_drew BK180.out)
    have n5_ := Aside0.mk (blk_drew BK187.out)
    have n6_ := Aside0.mk (blk_drew BK188.out)
    have n7_ := Aside0.mk (below_drew1 HB.out)
    clear HO_9
    clear HO_181000
    clear HO_188000
    clear HO_189001
    clear BK180
    clear BK187
    clear BK188
    clear HB
    have HO_9 := n0_
    have HO_181000 := n1_
    have HO_188000 := n2_
    have HO_189001 := n3_
    have BK180 := n4_
    have BK187 := n5_
    have BK188 := n6_
    have HB := n7_
    clear n0_ n1_ n2_ n3_ n4_ n5_ n6_ n7_
    obtain ⟨Ao29, co29, eo29⟩ := Kd.N_slice HO_181000.out
    (first | subst eo29 | (injection eo29 with f1_ f2_ f3_; have f4_ := f1_.symm; have f5_ := f3_.symm; clear f1_ f2_ f3_; subst f4_; subst f5_))
    have p196 : 0 ≤ ((rd x9_1 x33_2) : Int) := of_decide_eq_true qgsolve_16
    have q196 : (rd x9_1 x33_2) < (x181000_1.length : Int) := of_decide_eq_true qgsolve_16
    obtain ⟨ad196, A196_1, c196_1, e196, hx196_0, hx196_1, hl196_1, hi196_1⟩ := at_T108 (Kd.N_reads' HO_181000.out).2.2 (rd x9_1 x33_2) p196 q196
    cases e196
    obtain ⟨ce196, hce196, hMe196, hcc196⟩ := Kd.N_get HO_181000.out z108 (rd x9_1 x33_2) p196 (by first | exact q196 | exact of_decide_eq_true qgsolve_16 | (have e_ := (Kd.N_reads' HO_181000.out).1; omega))
    obtain ⟨ua196_1, uc196_1, rfl, ul196_1, ge196_1⟩ := k108_openF hMe196
    have hv196_1 := hcc196 1 _ rfl
    rw [add_field _ _ 1 (by omega)] at hv196_1
    replace hv196_1 := Option.some.inj (hv196_1.symm.trans hx196_1)
    injection hv196_1 with hva_ hvn_ hvc_
    rw [hva_] at ge196_1
    rw [hvc_] at ul196_1
    have HL196_1 := Aside0.mk (show Kd.V (Kd.int .i64) 3 _ w.heap.size _ _ ((rd_T108 x181000_1 (rd x9_1 x33_2)).f1) from Kd.V_mk ul196_1 ge196_1)
    clear hva_ hvn_ hvc_ ge196_1 ul196_1
    clear hcc196 hce196
    have HR196_1 := Aside0.mk hi196_1
    have HC196_1 := Aside0.mk hl196_1
    clear hi196_1 hl196_1
    replace p196 := eq_true p196
    replace q196 := eq_true q196
    have p197 : 0 ≤ ((rd x9_1 x33_2) : Int) := of_decide_eq_true qgsolve_16
    have q197 : (rd x9_1 x33_2) < (t184.length : Int) := of_decide_eq_true qgsolve_16
    obtain ⟨ad197, e197, hx197_0⟩ := Kd.at_int (Kd.R_reads' HO_188000.out).2.2 (rd x9_1 x33_2) p197 q197
    cases e197
    replace p197 := eq_true p197
    replace q197 := eq_true q197
    refine start_ (n := 19) (S := fun w' => w'.cell? ⟨gb180, 0, none⟩ = some (.slice (some ad196) x181000_1.length co29) ∧ w'.cell? ⟨gb187, 0, none⟩ = some (.slice (some ad197) t184.length co15) ∧ w'.cell? ⟨gb188, 0, none⟩ = some (.int .i64 x189000_2) ∧ w'.cell? ⟨gb188, 1, none⟩ = some (u189001) ∧ w'.cell? (ad196.add (((rd x9_1 x33_2)).toNat * 2)) = some (.int .i64 ((rd_T108 x181000_1 (rd x9_1 x33_2)).f0)) ∧ w'.cell? ⟨(ad196.add (((rd x9_1 x33_2)).toNat * 2)).block, (ad196.add (((rd x9_1 x33_2)).toNat * 2)).off + 1, none⟩ = some (.slice A196_1 ((rd_T108 x181000_1 (rd x9_1 x33_2)).f1).length c196_1) ∧ w'.cell? (ad197.add ((rd x9_1 x33_2)).toNat) = some (.int .i64 (rd t184 (rd x9_1 x33_2)))) (ds := []) A4942_0 (by kernel_rfl) rfl rfl ⟨(blk_cell BK180.out 0).trans rfl, (blk_cell BK187.out 0).trans rfl, (blk_cell BK188.out 0).trans rfl, (blk_cell BK188.out 1).trans rfl, hx196_0, hx196_1, hx197_0⟩ (fun hHeld => ?_); refine with_tabW segmentation_solve.tab13 segmentation_solve.bits13 (fun HT_ HW_ => ?_)
    generalize wr.drew = w28 at HO_9 HO_181000 HO_188000 HO_189001 BK180 BK187 BK188 HB HL196_1 HR196_1 hx196_0 hx196_1 hx197_0 hHeld ⊢
    refine pA_ 0 40 A4942_1 HT_ ?_
    refine pA_ 1 41 A4942_2 HT_ ?_
    refine pA_ 2 42 A4942_3 HT_ ?_
    refine pA_ 4 44 A4942_20 HT_ ?_
    refine pA_ 8 48 A4942_21 HT_ ?_
    refine pA_ 11 51 A4942_22 HT_ ?_
    refine pA_ 15 55 A4942_23 HT_ ?_
    refine take_ (i := 3) (N := some 43) (v := ?_) (a' := ?_) A4942_24 rfl rfl (take_ofW HT_.out HW_.out (by kernel_rfl)) (fun _ _ _ h => h) (Or.inl ⟨by rfl, ?_⟩) hHeld ?_ ?_
    rotate_left
    ·rintro w' ⟨s0, s1, s2, s3, s4, s5, s6⟩
     go_simp
     with_reducible rfl
    rotate_left
    ·simp only [Act.put, List.setIfInBounds_toArray, List.set_cons_zero, List.set_cons_succ, i64_w, i32_w]
     rfl
    refine pA_ 5 45 A4942_25 HT_ ?_
    refine pA_ 6 46 A4942_26 HT_ ?_
    refine take_ (i := 7) (N := some 47) (v := ?_) (a' := ?_) A4942_27 rfl rfl (take_ofW HT_.out HW_.out (by kernel_rfl)) (fun _ _ _ h => h) (Or.inl ⟨by rfl, ?_⟩) hHeld ?_ ?_
    rotate_left
    ·rintro w' ⟨s0, s1, s2, s3, s4, s5, s6⟩
     go_simp
     with_reducible rfl
    rotate_left
    ·simp only [Act.put, List.setIfInBounds_toArray, List.set_cons_zero, List.set_cons_succ, i64_w, i32_w]
     rfl
    refine pA_ 9 49 A4942_28 HT_ ?_
    refine take_ (i := 10) (N := some 50) (v := ?_) (a' := ?_) A4942_29 rfl rfl (take_ofW HT_.out HW_.out (by kernel_rfl)) (fun _ _ _ h => h) (Or.inl ⟨by rfl, ?_⟩) hHeld ?_ ?_
    rotate_left
    ·rintro w' ⟨s0, s1, s2, s3, s4, s5, s6⟩
     go_simp
     with_reducible rfl
    rotate_left
    ·simp only [Act.put, List.setIfInBounds_toArray, List.set_cons_zero, List.set_cons_succ, i64_w, i32_w]
     rfl
    refine pA_ 12 52 A4942_30 HT_ ?_
    refine take_ (i := 13) (N := some 53) (v := ?_) (a' := ?_) A4942_31 rfl rfl (take_ofW HT_.out HW_.out (by kernel_rfl)) (fun _ _ _ h => h) (Or.inl ⟨by rfl, ?_⟩) hHeld ?_ ?_
    rotate_left
    ·rintro w' ⟨s0, s1, s2, s3, s4, s5, s6⟩
     go_simp
     with_reducible rfl
    rotate_left
    ·simp only [Act.put, List.setIfInBounds_toArray, List.set_cons_zero, List.set_cons_succ, i64_w, i32_w]
     rfl
    refine pA_ 14 54 A4942_16 HT_ ?_
    refine take_ (i := 16) (N := some 56) (v := ?_) (a' := ?_) A4942_17 rfl rfl (take_ofW HT_.out HW_.out (by kernel_rfl)) (fun _ _ _ h => h) (Or.inl ⟨by rfl, ?_⟩) hHeld ?_ ?_
    rotate_left
    ·rintro w' ⟨s0, s1, s2, s3, s4, s5, s6⟩
     go_simp
     with_reducible rfl
    rotate_left
    ·simp only [Act.put, List.setIfInBounds_toArray, List.set_cons_zero, List.set_cons_succ, i64_w, i32_w]
     rfl
    refine pA_ 17 57 A4942_18 HT_ ?_
    refine pA_ 18 58 A4942_19 HT_ ?_
    refine done_ (done_of HT_.out (by kernel_rfl)) ?_
    try go_wp2
    go_meet
    case rel => exact ⟨_, (decide ((wrap64 ((wrap64 (((rd_T108 x181000_1 (rd x9_1 x33_2)).f0) + a1)) + (rd t184 (rd x9_1 x33_2)))) > x189000_2)), qgsolve_12, H', ⟨by have := HK1.out; have := HK2.out; first | omega | exact Nat.le_refl _⟩, ⟨qgsolve_5⟩, ⟨qgsolve_8⟩, ⟨qgsolve_7⟩, ⟨qgsolve_11⟩, ⟨qgsolve_1⟩, ⟨qgsolve_3⟩, ⟨qgsolve_4⟩, ⟨qgsolve_0⟩⟩
   clear HC23
   try clear c1
   try clear p1
   try clear q1
   try clear hx1
   try clear c2
   try clear p2
   try clear c3
   try clear c6
   try clear p6
   try clear c11
   try clear c11b0
   try clear c16
   try clear c19
   try clear p19
   try clear q19
   try clear hx19
   try clear c20
   try clear c20b0
   try clear c21
   try clear c21b0
   try clear c22
   try clear c22b0
   try clear c24
   try clear c24b0
   try clear c25
   try clear c25b0
   try clear c26
   try clear c26b0
   try clear c27
   try clear c27b0
   try clear hcz17_0
   try clear hcz8_0
   try clear hfz17_0
   try clear hfz8_0
   try clear hx195_0
   try clear hx196_0
   try clear hx196_1
   try clear hx197_0
   try clear p195
   try clear p196
   try clear p197
   try clear p2
   try clear p6
   try clear q195
   try clear q196
   try clear q197
   obtain ⟨kq, x58_22, rfl, HA, HJ22, HO_9, HO_181000, HO_188000, HO_189001, BK180, BK187, BK188, HB⟩ := hcut
   cases kq with
   | zero => exact absurd HA.out (by simp [segmentation_solve.j2])
   | succ kj22 =>
    have H := HA.out
    clear HA
    simp only [segmentation_solve.j2] at H
    by_cases c31 : x58_22 = true
    ·subst c31
     have H1 : (segmentation_solve.l1 kj22 l0 a1 a2 x9_1 (wrap64 (x10_2 + 1)) x11_1 (x9_1.length : Int) (wrap64 (x33_2 + 1)) x181000_1 t184 x189000_2 x189001_2) = some (r1, r2) := by rw [if_pos rfl] at H; exact H
     clear H
     have H := H1
     clear H1
     have H' := Aside0.mk H
     clear H
     go_wp2
     go_roundg kj22
     case measure => have := HK1.out; have := HK2.out; have := HJ22.out; omega
     case rel => exact ⟨((wrap64 (x10_2 + 1))), (wrap64 (x33_2 + 1)), (x189000_2), (x189001_2), (u189001), qgsolve_12, qgsolve_12, H', ⟨by have := HK1.out; have := HK2.out; have := HJ22.out; omega⟩, ⟨qgsolve_5⟩, ⟨qgsolve_8⟩, ⟨qgsolve_7⟩, ⟨qgsolve_11⟩, ⟨qgsolve_1⟩, ⟨qgsolve_3⟩, ⟨qgsolve_4⟩, ⟨qgsolve_0⟩⟩
    replace c31 := Bool.eq_false_iff.mpr c31
    subst c31
    have H1 : (if 0 ≤ (rd x9_1 x33_2) then (if (rd x9_1 x33_2) < (x181000_1.length : Int) then (if (rd x9_1 x33_2) < (t184.length : Int) then ((segmentation_best_after.f ((rd_T108 x181000_1 (rd x9_1 x33_2)).f0) ((rd_T108 x181000_1 (rd x9_1 x33_2)).f1) (rd x9_1 x33_2) (wrap64 (a1 + (rd t184 (rd x9_1 x33_2))))).bind fun bt200 => (if x33_2 = 0 then (segmentation_solve.j3 kj22 l0 a1 a2 x9_1 (wrap64 (x10_2 + 1)) x11_1 (x9_1.length : Int) x33_2 true x181000_1 t184 x189000_2 x189001_2 bt200.1 bt200.2) else ((segmentation_best_better.f kj22 bt200.1 bt200.2 x189000_2 x189001_2).bind fun t205 => (segmentation_solve.j3 kj22 l0 a1 a2 x9_1 (wrap64 (x10_2 + 1)) x11_1 (x9_1.length : Int) x33_2 t205 x181000_1 t184 x189000_2 x189001_2 bt200.1 bt200.2)))) else (none)) else (none)) else (none)) = some (r1, r2) := by rw [if_neg (show ¬ (false = true) by decide)] at H; exact H
    clear H
    have H := H1
    clear H1
    by_cases c32 : 0 ≤ (rd x9_1 x33_2)
    rotate_left
    ·rw [if_neg c32] at H
     exact absurd H (by simp)
    rw [if_pos c32] at H
    have c32b0 : decide (0 ≤ (rd x9_1 x33_2)) = true := decide_eq_true c32
    clear c32
    by_cases c33 : (rd x9_1 x33_2) < (x181000_1.length : Int)
    rotate_left
    ·rw [if_neg c33] at H
     exact absurd H (by simp)
    rw [if_pos c33] at H
    have c33b0 : decide ((rd x9_1 x33_2) < (x181000_1.length : Int)) = true := decide_eq_true c33
    clear c33
    by_cases c34 : (rd x9_1 x33_2) < (t184.length : Int)
    rotate_left
    ·rw [if_neg c34] at H
     exact absurd H (by simp)
    rw [if_pos c34] at H
    have c34b0 : decide ((rd x9_1 x33_2) < (t184.length : Int)) = true := decide_eq_true c34
    clear c34
    replace H := Option.bind_eq_some_iff.mp H
    obtain ⟨⟨t200, t201⟩, A350, H⟩ := H
    replace H : (if x33_2 = 0 then (segmentation_solve.j3 kj22 l0 a1 a2 x9_1 (wrap64 (x10_2 + 1)) x11_1 (x9_1.length : Int) x33_2 true x181000_1 t184 x189000_2 x189001_2 t200 t201) else ((segmentation_best_better.f kj22 t200 t201 x189000_2 x189001_2).bind fun t205 => (segmentation_solve.j3 kj22 l0 a1 a2 x9_1 (wrap64 (x10_2 + 1)) x11_1 (x9_1.length : Int) x33_2 t205 x181000_1 t184 x189000_2 x189001_2 t200 t201))) = some (r1, r2) := H
    have A35 := Aside0.mk A350
    clear A350
    have HC36 := Aside0.mk H
    clear H
    try go_wp2
    have n0_ := Aside0.mk (Kd.R_drew HO_9.out)
    have n1_ := Aside0.mk (Kd.N_drew HO_181000.out)
    have n2_ := Aside0.mk (Kd.R_drew HO_188000.out)
    have n3_ := Aside0.mk (Kd.V_drew HO_189001.out)
    have n4_ := Aside0.mk (blk_drew BK180.out)
    have n5_ := Aside0.mk (blk_drew BK187.out)
    have n6_ := Aside0.mk (blk_drew BK188.out)
    have n7_ := Aside0.mk (below_drew1 HB.out)
    clear HO_9
    clear HO_181000
    clear HO_188000
    clear HO_189001
    clear BK180
    clear BK187
    clear BK188
    clear HB
    have HO_9 := n0_
    have HO_181000 := n1_
    have HO_188000 := n2_
    have HO_189001 := n3_
    have BK180 := n4_
    have BK187 := n5_
    have BK188 := n6_
    have HB := n7_
    clear n0_ n1_ n2_ n3_ n4_ n5_ n6_ n7_
    obtain ⟨Ao38, co38, eo38⟩ := Kd.N_slice HO_181000.out
    (first | subst eo38 | (injection eo38 with f1_ f2_ f3_; have f4_ := f1_.symm; have f5_ := f3_.symm; clear f1_ f2_ f3_; subst f4_; subst f5_))
    have p198 : 0 ≤ ((rd x9_1 x33_2) : Int) := of_decide_eq_true qgsolve_16
    have q198 : (rd x9_1 x33_2) < (x181000_1.length : Int) := of_decide_eq_true qgsolve_16
    obtain ⟨ad198, A198_1, c198_1, e198, hx198_0, hx198_1, hl198_1, hi198_1⟩ := at_T108 (Kd.N_reads' HO_181000.out).2.2 (rd x9_1 x33_2) p198 q198
    cases e198
    obtain ⟨ce198, hce198, hMe198, hcc198⟩ := Kd.N_get HO_181000.out z108 (rd x9_1 x33_2) p198 (by first | exact q198 | exact of_decide_eq_true qgsolve_16 | (have e_ := (Kd.N_reads' HO_181000.out).1; omega))
    obtain ⟨ua198_1, uc198_1, rfl, ul198_1, ge198_1⟩ := k108_openF hMe198
    have hv198_1 := hcc198 1 _ rfl
    rw [add_field _ _ 1 (by omega)] at hv198_1
    replace hv198_1 := Option.some.inj (hv198_1.symm.trans hx198_1)
    injection hv198_1 with hva_ hvn_ hvc_
    rw [hva_] at ge198_1
    rw [hvc_] at ul198_1
    have HL198_1 := Aside0.mk (show Kd.V (Kd.int .i64) 3 _ w.heap.size _ _ ((rd_T108 x181000_1 (rd x9_1 x33_2)).f1) from Kd.V_mk ul198_1 ge198_1)
    clear hva_ hvn_ hvc_ ge198_1 ul198_1
    clear hcc198 hce198
    have HR198_1 := Aside0.mk hi198_1
    have HC198_1 := Aside0.mk hl198_1
    clear hi198_1 hl198_1
    replace p198 := eq_true p198
    replace q198 := eq_true q198
    have p199 : 0 ≤ ((rd x9_1 x33_2) : Int) := of_decide_eq_true qgsolve_16
    have q199 : (rd x9_1 x33_2) < (t184.length : Int) := of_decide_eq_true qgsolve_16
    obtain ⟨ad199, e199, hx199_0⟩ := Kd.at_int (Kd.R_reads' HO_188000.out).2.2 (rd x9_1 x33_2) p199 q199
    cases e199
    replace p199 := eq_true p199
    replace q199 := eq_true q199
    refine start_ (n := 14) (S := fun w' => w'.cell? ⟨gb180, 0, none⟩ = some (.slice (some ad198) x181000_1.length co38) ∧ w'.cell? ⟨gb187, 0, none⟩ = some (.slice (some ad199) t184.length co15) ∧ w'.cell? (ad198.add (((rd x9_1 x33_2)).toNat * 2)) = some (.int .i64 ((rd_T108 x181000_1 (rd x9_1 x33_2)).f0)) ∧ w'.cell? ⟨(ad198.add (((rd x9_1 x33_2)).toNat * 2)).block, (ad198.add (((rd x9_1 x33_2)).toNat * 2)).off + 1, none⟩ = some (.slice A198_1 ((rd_T108 x181000_1 (rd x9_1 x33_2)).f1).length c198_1) ∧ w'.cell? (ad199.add ((rd x9_1 x33_2)).toNat) = some (.int .i64 (rd t184 (rd x9_1 x33_2)))) (ds := []) A4942_32 (by kernel_rfl) rfl rfl ⟨(blk_cell BK180.out 0).trans rfl, (blk_cell BK187.out 0).trans rfl, hx198_0, hx198_1, hx199_0⟩ (fun hHeld => ?_); refine with_tabW segmentation_solve.tab14 segmentation_solve.bits14 (fun HT_ HW_ => ?_)
    generalize wc.drew = w37 at HO_9 HO_181000 HO_188000 HO_189001 BK180 BK187 BK188 HB HL198_1 HR198_1 hx198_0 hx198_1 hx199_0 hHeld ⊢
    refine pA_ 1 60 A4942_33 HT_ ?_
    refine pA_ 4 63 A4942_34 HT_ ?_
    refine pA_ 5 64 A4942_35 HT_ ?_
    refine pA_ 7 66 A4942_36 HT_ ?_
    refine take_ (i := 0) (N := some 59) (v := ?_) (a' := ?_) A4942_37 rfl rfl (take_ofW HT_.out HW_.out (by kernel_rfl)) (fun _ _ _ h => h) (Or.inl ⟨by rfl, ?_⟩) hHeld ?_ ?_
    rotate_left
    ·rintro w' ⟨s0, s1, s2, s3, s4⟩
     go_simp
     with_reducible rfl
    rotate_left
    ·simp only [Act.put, List.setIfInBounds_toArray, List.set_cons_zero, List.set_cons_succ, i64_w, i32_w]
     rfl
    refine pA_ 2 61 A4942_38 HT_ ?_
    refine take_ (i := 3) (N := some 62) (v := ?_) (a' := ?_) A4942_39 rfl rfl (take_ofW HT_.out HW_.out (by kernel_rfl)) (fun _ _ _ h => h) (Or.inl ⟨by rfl, ?_⟩) hHeld ?_ ?_
    rotate_left
    ·rintro w' ⟨s0, s1, s2, s3, s4⟩
     go_simp
     with_reducible rfl
    rotate_left
    ·simp only [Act.put, List.setIfInBounds_toArray, List.set_cons_zero, List.set_cons_succ, i64_w, i32_w]
     rfl
    refine take_ (i := 6) (N := some 65) (v := ?_) (a' := ?_) A4942_40 rfl rfl (take_ofW HT_.out HW_.out (by kernel_rfl)) (fun _ _ _ h => h) (Or.inl ⟨by rfl, ?_⟩) hHeld ?_ ?_
    rotate_left
    ·rintro w' ⟨s0, s1, s2, s3, s4⟩
     go_simp
     with_reducible rfl
    rotate_left
    ·simp only [Act.put, List.setIfInBounds_toArray, List.set_cons_zero, List.set_cons_succ, i64_w, i32_w]
     rfl
    refine pA_ 8 67 A4942_41 HT_ ?_
    refine take_ (i := 9) (N := some 68) (v := ?_) (a' := ?_) A4942_42 rfl rfl (take_ofW HT_.out HW_.out (by kernel_rfl)) (fun _ _ _ h => h) (Or.inl ⟨by rfl, ?_⟩) hHeld ?_ ?_
    rotate_left
    ·rintro w' ⟨s0, s1, s2, s3, s4⟩
     go_simp
     with_reducible rfl
    rotate_left
    ·simp only [Act.put, List.setIfInBounds_toArray, List.set_cons_zero, List.set_cons_succ, i64_w, i32_w]
     rfl
    refine pA_ 10 69 A4942_43 HT_ ?_
    refine join_ (σ := Value × Nat) 1 A4942_44 (fun s_ => [(70, .agg #[.int .i64 t200, s_.1]), (16, .pointer (some ⟨s_.2, 0, none⟩))]) (fun s_ w' => (w'.cell? ⟨gb180, 0, none⟩ = some (.slice (some ad198) x181000_1.length co38) ∧ w'.cell? ⟨gb187, 0, none⟩ = some (.slice (some ad199) t184.length co15) ∧ w'.cell? (ad198.add (((rd x9_1 x33_2)).toNat * 2)) = some (.int .i64 ((rd_T108 x181000_1 (rd x9_1 x33_2)).f0)) ∧ w'.cell? ⟨(ad198.add (((rd x9_1 x33_2)).toNat * 2)).block, (ad198.add (((rd x9_1 x33_2)).toNat * 2)).off + 1, none⟩ = some (.slice A198_1 ((rd_T108 x181000_1 (rd x9_1 x33_2)).f1).length c198_1) ∧ w'.cell? (ad199.add ((rd x9_1 x33_2)).toNat) = some (.int .i64 (rd t184 (rd x9_1 x33_2)))) ∧ (Kd.V (Kd.int .i64) 3 w' w.heap.size (fun k_ => (w.heap.size ≤ k_) ∧ some k_ ≠ (.slice (some ad198) x181000_1.length co38 : Value).ownBlock ∧ some k_ ≠ (.slice (some ad199) t184.length co15 : Value).ownBlock ∧ some k_ ≠ (.slice (some ad195) x9_1.length co19 : Value).ownBlock ∧ k_ ≠ gb180 ∧ k_ ≠ gb187 ∧ k_ ≠ gb188 ∧ k_ ≠ s_.2) (.slice A198_1 ((rd_T108 x181000_1 (rd x9_1 x33_2)).f1).length c198_1) ((rd_T108 x181000_1 (rd x9_1 x33_2)).f1)) ∧ (Kd.V (Kd.int .i64) 3 w' w.heap.size (fun k_ => (w.heap.size ≤ k_) ∧ some k_ ≠ (.slice (some ad198) x181000_1.length co38 : Value).ownBlock ∧ some k_ ≠ (.slice (some ad199) t184.length co15 : Value).ownBlock ∧ some k_ ≠ (.slice (some ad195) x9_1.length co19 : Value).ownBlock ∧ k_ ≠ gb180 ∧ k_ ≠ gb187 ∧ k_ ≠ gb188 ∧ k_ ≠ s_.2) s_.1 t201) ∧ (Kd.N k108 108 w' w.heap.size (fun k_ => (w.heap.size ≤ k_) ∧ some k_ ≠ (.slice (some ad199) t184.length co15 : Value).ownBlock ∧ some k_ ≠ (.slice (some ad195) x9_1.length co19 : Value).ownBlock ∧ k_ ≠ gb180 ∧ k_ ≠ gb187 ∧ k_ ≠ gb188 ∧ k_ ≠ s_.2) (.slice (some ad198) x181000_1.length co38) x181000_1) ∧ (Kd.R (Kd.int .i64) 3 w' w.heap.size (fun k_ => (w.heap.size ≤ k_) ∧ some k_ ≠ (.slice (some ad195) x9_1.length co19 : Value).ownBlock) (.slice (some ad199) t184.length co15) t184) ∧ (Kd.V (Kd.int .i64) 3 w' w.heap.size (fun k_ => (w.heap.size ≤ k_) ∧ some k_ ≠ (.slice (some ad198) x181000_1.length co38 : Value).ownBlock ∧ some k_ ≠ (.slice (some ad199) t184.length co15 : Value).ownBlock ∧ some k_ ≠ (.slice (some ad195) x9_1.length co19 : Value).ownBlock ∧ k_ ≠ gb180 ∧ k_ ≠ gb187 ∧ k_ ≠ gb188 ∧ k_ ≠ s_.2) u189001 x189001_2) ∧ (Kd.R (Kd.int .i64) 3 w' w.heap.size (fun k_ => (w.heap.size ≤ k_) ∧ some k_ ≠ (.slice (some ad199) t184.length co15 : Value).ownBlock) (.slice (some ad195) x9_1.length co19) x9_1) ∧ (w'.heap[gb180]? = some (.cells #[.slice (some ad198) x181000_1.length co38] 76 (0, 0))) ∧ (w'.heap[gb187]? = some (.cells #[.slice (some ad199) t184.length co15] 26 (0, 0))) ∧ (w'.heap[gb188]? = some (.cells #[.int .i64 x189000_2, u189001] 108 (0, 0))) ∧ (w'.heap[s_.2]? = some (.cells #[.int .i64 0, .slice none 0 0] 108 (0, 0))) ∧ (w.heap.size ≤ s_.2) ∧ (w.heap.size ≤ s_.2) ∧ (gb180 ≠ s_.2) ∧ (s_.2 ≠ gb180) ∧ (gb187 ≠ s_.2) ∧ (s_.2 ≠ gb187) ∧ (gb188 ≠ s_.2) ∧ (s_.2 ≠ gb188) ∧ (Below w.heap.size w w')) ?_ ?_
    rotate_left
    ·intro hCont
     refine two_ (i := 11) (j := 12) (Ni := some 70) (Nj := some 16) A4942_45 A4942_46 rfl rfl rfl rfl (two_of HT_.out (by kernel_rfl)) (by decide) (by decide) (fun K hK => ?_) (fun K hK => ?_)
     ·skip
      refine goes_ Try.func61 (by kernel_rfl) rfl #[.agg #[.int .i64 ((rd_T108 x181000_1 (rd x9_1 x33_2)).f0), .slice A198_1 ((rd_T108 x181000_1 (rd x9_1 x33_2)).f1).length c198_1], .int .i64 (rd x9_1 x33_2), .int .i64 (wrap64 (a1 + (rd t184 (rd x9_1 x33_2))))] (by rfl) rfl rfl qgsolve_28 ?_
      with_reducible refine (segmentation_best_after.calls ((rd_T108 x181000_1 (rd x9_1 x33_2)).f0) (fun k_ => (((w.heap.size ≤ k_) ∧ (some k_ ≠ (.slice (some ad195) x9_1.length co19 : Value).ownBlock ∧ (some k_ ≠ (.slice (some ad199) t184.length co15 : Value).ownBlock ∧ (k_ ≠ gb180 ∧ (k_ ≠ gb187 ∧ k_ ≠ gb188))))) ∧ some k_ ≠ (.slice (some ad198) x181000_1.length co38 : Value).ownBlock)) _ _ ((rd_T108 x181000_1 (rd x9_1 x33_2)).f1) (rd x9_1 x33_2) (wrap64 (a1 + (rd t184 (rd x9_1 x33_2)))) t200 t201 _ ?side1 A35.out).mono ?_
      (case side1 => exact HL198_1.out)
      rintro e w39 ⟨v202, rfl, ho0, hb⟩
      have HS2_ := (hb.cell (World.block_lt_of_cell? _ _ (hHeld.2.2.1))).trans (hHeld.2.2.1)
      have HS3_ := (hb.cell (World.block_lt_of_cell? _ _ (hHeld.2.2.2.1))).trans (hHeld.2.2.2.1)
      have HS4_ := (hb.cell (World.block_lt_of_cell? _ _ (hHeld.2.2.2.2))).trans (hHeld.2.2.2.2)
      refine ⟨_, rfl, ?_⟩
      have n0_ := Aside0.mk (Kd.R_below qgsolve_5 hb)
      have n1_ := Aside0.mk (Kd.N_below qgsolve_8 hb)
      have n2_ := Aside0.mk (Kd.R_below qgsolve_7 hb)
      have n3_ := Aside0.mk (Kd.V_below qgsolve_11 hb)
      have n4_ := Aside0.mk (Kd.V_below qgsolve_26 hb)
      have n5_ := Aside0.mk (Kd.V_lower (Kd.V_mono (ok' := fun k_ => (w.heap.size ≤ k_) ∧ some k_ ≠ (.slice (some ad195) x9_1.length co19 : Value).ownBlock ∧ some k_ ≠ (.slice (some ad198) x181000_1.length co38 : Value).ownBlock ∧ some k_ ≠ (.slice (some ad199) t184.length co15 : Value).ownBlock ∧ k_ ≠ gb180 ∧ k_ ≠ gb187 ∧ k_ ≠ gb188) ho0 (fun k_ hk_ => ⟨Or.elim hk_ (fun hs_ => hs_.1.1) (fun hn_ => (Nat.le_trans (below_size qgsolve_0) hn_)), Or.elim hk_ (fun hs_ => hs_.1.2.1) (fun hn_ => (Kd.fresh' (Kd.R_lt qgsolve_5) k_ hn_)), Or.elim hk_ (fun hs_ => hs_.2) (fun hn_ => (Kd.fresh' (Kd.N_lt qgsolve_8) k_ hn_)), Or.elim hk_ (fun hs_ => hs_.1.2.2.1) (fun hn_ => (Kd.fresh' (Kd.R_lt qgsolve_7) k_ hn_)), Or.elim hk_ (fun hs_ => hs_.1.2.2.2.1) (fun hn_ => (Kd.freshB (g := gb180) (o := .cells #[.slice (some ad198) x181000_1.length co38] 76 (0, 0)) qgsolve_1 k_ hn_)), Or.elim hk_ (fun hs_ => hs_.1.2.2.2.2.1) (fun hn_ => (Kd.freshB (g := gb187) (o := .cells #[.slice (some ad199) t184.length co15] 26 (0, 0)) qgsolve_3 k_ hn_)), Or.elim hk_ (fun hs_ => hs_.1.2.2.2.2.2) (fun hn_ => (Kd.freshB (g := gb188) (o := .cells #[.int .i64 x189000_2, u189001] 108 (0, 0)) qgsolve_4 k_ hn_))⟩)) (below_size qgsolve_0))
      have n6_ := Aside0.mk (blk_below (g := gb180) (o := .cells #[.slice (some ad198) x181000_1.length co38] 76 (0, 0)) qgsolve_1 hb)
      have n7_ := Aside0.mk (blk_below (g := gb187) (o := .cells #[.slice (some ad199) t184.length co15] 26 (0, 0)) qgsolve_3 hb)
      have n8_ := Aside0.mk (blk_below (g := gb188) (o := .cells #[.int .i64 x189000_2, u189001] 108 (0, 0)) qgsolve_4 hb)
      have n9_ := Aside0.mk (Kd.C_below qgsolve_13 hb)
      have n10_ := Aside0.mk (below_step qgsolve_0 hb)
      clear HO_9
      clear HO_181000
      clear HO_188000
      clear HO_189001
      clear HL198_1
      clear BK180
      clear BK187
      clear BK188
      clear HR198_1
      clear HB
      have HO_9 := n0_
      have HO_181000 := n1_
      have HO_188000 := n2_
      have HO_189001 := n3_
      have HL198_1 := n4_
      have HO203 := n5_
      have BK180 := n6_
      have BK187 := n7_
      have BK188 := n8_
      have HR198_1 := n9_
      have HB := n10_
      clear n0_ n1_ n2_ n3_ n4_ n5_ n6_ n7_ n8_ n9_ n10_
      (try clear hb)
      (try clear hb2)
      (try clear hk)
      (try clear hi)
      (try clear ho0)
      refine hK.out _ _ ⟨(blk_cell BK180.out 0).trans rfl, (blk_cell BK187.out 0).trans rfl, HS2_, HS3_, HS4_⟩ (fun hHeld => ?_)
      clear hK K
      refine norm_ (a' := ?_) ?_ ?_
      rotate_left
      ·show Act.put _ (some 70) _ = _
       simp only [Act.put, List.setIfInBounds_toArray, List.set_cons_zero, List.set_cons_succ, i64_w, i32_w]
       rfl
      refine one_ (i := 12) (N := some 16) A4942_44 rfl rfl (one_of HT_.out (by kernel_rfl)) (by decide) (fun K hK => ?_)
      refine box_step ?hg (N := 16) ?hd (cs := #[.int .i64 0, .slice none 0 0]) (t := 108) ?hr ?_; (case hd => rfl); (case hg => rfl); (case hr => exact qgsolve_31)
      intro gb204 hg w40 hbox hb
      have HS2_ := (hb.cell (World.block_lt_of_cell? _ _ (hHeld.2.2.1))).trans (hHeld.2.2.1)
      have HS3_ := (hb.cell (World.block_lt_of_cell? _ _ (hHeld.2.2.2.1))).trans (hHeld.2.2.2.1)
      have HS4_ := (hb.cell (World.block_lt_of_cell? _ _ (hHeld.2.2.2.2))).trans (hHeld.2.2.2.2)
      have n0_ := Aside0.mk (Kd.R_below qgsolve_5 hb)
      have n1_ := Aside0.mk (Kd.N_below (Kd.N_elderB qgsolve_8 gb204 (Nat.le_of_eq hg.symm)) hb)
      have n2_ := Aside0.mk (Kd.R_below qgsolve_7 hb)
      have n3_ := Aside0.mk (Kd.V_below (Kd.V_elderB qgsolve_11 gb204 (Nat.le_of_eq hg.symm)) hb)
      have n4_ := Aside0.mk (Kd.V_below (Kd.V_elderB qgsolve_26 gb204 (Nat.le_of_eq hg.symm)) hb)
      have n5_ := Aside0.mk (Kd.V_below (Kd.V_elderB (by (with_reducible repeat (first | apply Kd.V_alloc | apply Kd.V_drewN | apply Kd.V_drew)); exact HO203.out) gb204 (Nat.le_of_eq hg.symm)) hb)
      have n6_ := Aside0.mk (blk_below (g := gb180) (o := .cells #[.slice (some ad198) x181000_1.length co38] 76 (0, 0)) qgsolve_1 hb)
      have n7_ := Aside0.mk (blk_below (g := gb187) (o := .cells #[.slice (some ad199) t184.length co15] 26 (0, 0)) qgsolve_3 hb)
      have n8_ := Aside0.mk (blk_below (g := gb188) (o := .cells #[.int .i64 x189000_2, u189001] 108 (0, 0)) qgsolve_4 hb)
      have n9_ := Aside0.mk (Kd.C_below qgsolve_13 hb)
      have n10_ := Aside0.mk (below_step qgsolve_0 hb)
      have n11_ := Aside0.mk (hbox)
      have n12_ := Aside0.mk ((by rw [hg]; exact (below_size qgsolve_0) : w.heap.size ≤ gb204))
      have n13_ := Aside0.mk ((by rw [hg]; exact (below_size qgsolve_0) : w.heap.size ≤ gb204))
      have n14_ := Aside0.mk ((by rw [hg]; exact Nat.ne_of_lt (blk_lt (g := gb180) (o := .cells #[.slice (some ad198) x181000_1.length co38] 76 (0, 0)) qgsolve_1) : gb180 ≠ gb204))
      have n15_ := Aside0.mk ((by rw [hg]; exact Nat.ne_of_gt (blk_lt (g := gb180) (o := .cells #[.slice (some ad198) x181000_1.length co38] 76 (0, 0)) qgsolve_1) : gb204 ≠ gb180))
      have n16_ := Aside0.mk ((by rw [hg]; exact Nat.ne_of_lt (blk_lt (g := gb187) (o := .cells #[.slice (some ad199) t184.length co15] 26 (0, 0)) qgsolve_3) : gb187 ≠ gb204))
      have n17_ := Aside0.mk ((by rw [hg]; exact Nat.ne_of_gt (blk_lt (g := gb187) (o := .cells #[.slice (some ad199) t184.length co15] 26 (0, 0)) qgsolve_3) : gb204 ≠ gb187))
      have n18_ := Aside0.mk ((by rw [hg]; exact Nat.ne_of_lt (blk_lt (g := gb188) (o := .cells #[.int .i64 x189000_2, u189001] 108 (0, 0)) qgsolve_4) : gb188 ≠ gb204))
      have n19_ := Aside0.mk ((by rw [hg]; exact Nat.ne_of_gt (blk_lt (g := gb188) (o := .cells #[.int .i64 x189000_2, u189001] 108 (0, 0)) qgsolve_4) : gb204 ≠ gb188))
      clear HO_9
      clear HO_181000
      clear HO_188000
      clear HO_189001
      clear HL198_1
      clear HO203
      clear BK180
      clear BK187
      clear BK188
      clear HR198_1
      clear HB
      have HO_9 := n0_
      have HO_181000 := n1_
      have HO_188000 := n2_
      have HO_189001 := n3_
      have HL198_1 := n4_
      have HO203 := n5_
      have BK180 := n6_
      have BK187 := n7_
      have BK188 := n8_
      have HR198_1 := n9_
      have HB := n10_
      have BK204 := n11_
      have GW204 := n12_
      have GE204 := n13_
      have NB180_204 := n14_
      have NB204_180 := n15_
      have NB187_204 := n16_
      have NB204_187 := n17_
      have NB188_204 := n18_
      have NB204_188 := n19_
      clear n0_ n1_ n2_ n3_ n4_ n5_ n6_ n7_ n8_ n9_ n10_ n11_ n12_ n13_ n14_ n15_ n16_ n17_ n18_ n19_
      clear hb hbox hg
      refine hK.out _ _ ⟨(blk_cell BK180.out 0).trans rfl, (blk_cell BK187.out 0).trans rfl, HS2_, HS3_, HS4_⟩ (fun hHeld => ?_)
      clear hK K
      refine norm_ (a' := ?_) ?_ ?_
      rotate_left
      ·show Act.put _ (some 16) _ = _
       simp only [Act.put, List.setIfInBounds_toArray, List.set_cons_zero, List.set_cons_succ, i64_w, i32_w]
       rfl
      exact norm_ (by simp only [putAll, Act.put, List.setIfInBounds_toArray, List.set_cons_zero, List.set_cons_succ]) (hCont (v202, gb204) _ ⟨hHeld, qgsolve_29, (by (with_reducible repeat (first | apply Kd.V_alloc | apply Kd.V_drewN | apply Kd.V_drew)); exact Kd.V_mono HO203.out (fun _ hk => ⟨hk.1.1, ⟨hk.1.2.2.1, ⟨hk.1.2.2.2.1, ⟨hk.1.2.1, ⟨hk.1.2.2.2.2.1, ⟨hk.1.2.2.2.2.2.1, ⟨hk.1.2.2.2.2.2.2, hk.2⟩⟩⟩⟩⟩⟩⟩)), qgsolve_30, qgsolve_7, qgsolve_27, qgsolve_5, qgsolve_1, qgsolve_3, qgsolve_4, qgsolve_18, GW204.out, GE204.out, NB180_204.out, NB204_180.out, NB187_204.out, NB204_187.out, NB188_204.out, NB204_188.out, qgsolve_2⟩)
     ·skip
      refine box_step ?hg (N := 16) ?hd (cs := #[.int .i64 0, .slice none 0 0]) (t := 108) ?hr ?_; (case hd => rfl); (case hg => rfl); (case hr => exact qgsolve_31)
      intro gb204 hg w39 hbox hb
      have HS2_ := (hb.cell (World.block_lt_of_cell? _ _ (hHeld.2.2.1))).trans (hHeld.2.2.1)
      have HS3_ := (hb.cell (World.block_lt_of_cell? _ _ (hHeld.2.2.2.1))).trans (hHeld.2.2.2.1)
      have HS4_ := (hb.cell (World.block_lt_of_cell? _ _ (hHeld.2.2.2.2))).trans (hHeld.2.2.2.2)
      have n0_ := Aside0.mk (Kd.R_below qgsolve_5 hb)
      have n1_ := Aside0.mk (Kd.N_below (Kd.N_elderB qgsolve_8 gb204 (Nat.le_of_eq hg.symm)) hb)
      have n2_ := Aside0.mk (Kd.R_below qgsolve_7 hb)
      have n3_ := Aside0.mk (Kd.V_below (Kd.V_elderB qgsolve_11 gb204 (Nat.le_of_eq hg.symm)) hb)
      have n4_ := Aside0.mk (Kd.V_below (Kd.V_elderB qgsolve_26 gb204 (Nat.le_of_eq hg.symm)) hb)
      have n5_ := Aside0.mk (blk_below (g := gb180) (o := .cells #[.slice (some ad198) x181000_1.length co38] 76 (0, 0)) qgsolve_1 hb)
      have n6_ := Aside0.mk (blk_below (g := gb187) (o := .cells #[.slice (some ad199) t184.length co15] 26 (0, 0)) qgsolve_3 hb)
      have n7_ := Aside0.mk (blk_below (g := gb188) (o := .cells #[.int .i64 x189000_2, u189001] 108 (0, 0)) qgsolve_4 hb)
      have n8_ := Aside0.mk (Kd.C_below qgsolve_13 hb)
      have n9_ := Aside0.mk (below_step qgsolve_0 hb)
      have n10_ := Aside0.mk (hbox)
      have n11_ := Aside0.mk ((by rw [hg]; exact (below_size qgsolve_0) : w.heap.size ≤ gb204))
      have n12_ := Aside0.mk ((by rw [hg]; exact (below_size qgsolve_0) : w.heap.size ≤ gb204))
      have n13_ := Aside0.mk ((by rw [hg]; exact Nat.ne_of_lt (blk_lt (g := gb180) (o := .cells #[.slice (some ad198) x181000_1.length co38] 76 (0, 0)) qgsolve_1) : gb180 ≠ gb204))
      have n14_ := Aside0.mk ((by rw [hg]; exact Nat.ne_of_gt (blk_lt (g := gb180) (o := .cells #[.slice (some ad198) x181000_1.length co38] 76 (0, 0)) qgsolve_1) : gb204 ≠ gb180))
      have n15_ := Aside0.mk ((by rw [hg]; exact Nat.ne_of_lt (blk_lt (g := gb187) (o := .cells #[.slice (some ad199) t184.length co15] 26 (0, 0)) qgsolve_3) : gb187 ≠ gb204))
      have n16_ := Aside0.mk ((by rw [hg]; exact Nat.ne_of_gt (blk_lt (g := gb187) (o := .cells #[.slice (some ad199) t184.length co15] 26 (0, 0)) qgsolve_3) : gb204 ≠ gb187))
      have n17_ := Aside0.mk ((by rw [hg]; exact Nat.ne_of_lt (blk_lt (g := gb188) (o := .cells #[.int .i64 x189000_2, u189001] 108 (0, 0)) qgsolve_4) : gb188 ≠ gb204))
      have n18_ := Aside0.mk ((by rw [hg]; exact Nat.ne_of_gt (blk_lt (g := gb188) (o := .cells #[.int .i64 x189000_2, u189001] 108 (0, 0)) qgsolve_4) : gb204 ≠ gb188))
      clear HO_9
      clear HO_181000
      clear HO_188000
      clear HO_189001
      clear HL198_1
      clear BK180
      clear BK187
      clear BK188
      clear HR198_1
      clear HB
      have HO_9 := n0_
      have HO_181000 := n1_
      have HO_188000 := n2_
      have HO_189001 := n3_
      have HL198_1 := n4_
      have BK180 := n5_
      have BK187 := n6_
      have BK188 := n7_
      have HR198_1 := n8_
      have HB := n9_
      have BK204 := n10_
      have GW204 := n11_
      have GE204 := n12_
      have NB180_204 := n13_
      have NB204_180 := n14_
      have NB187_204 := n15_
      have NB204_187 := n16_
      have NB188_204 := n17_
      have NB204_188 := n18_
      clear n0_ n1_ n2_ n3_ n4_ n5_ n6_ n7_ n8_ n9_ n10_ n11_ n12_ n13_ n14_ n15_ n16_ n17_ n18_
      clear hb hbox hg
      refine hK.out _ _ ⟨(blk_cell BK180.out 0).trans rfl, (blk_cell BK187.out 0).trans rfl, HS2_, HS3_, HS4_⟩ (fun hHeld => ?_)
      clear hK K
      refine norm_ (a' := ?_) ?_ ?_
      rotate_left
      ·show Act.put _ (some 16) _ = _
       simp only [Act.put, List.setIfInBounds_toArray, List.set_cons_zero, List.set_cons_succ, i64_w, i32_w]
       rfl
      refine one_ (i := 11) (N := some 70) A4942_44 rfl rfl (one_of HT_.out (by kernel_rfl)) (by decide) (fun K hK => ?_)
      refine goes_ Try.func61 (by kernel_rfl) rfl #[.agg #[.int .i64 ((rd_T108 x181000_1 (rd x9_1 x33_2)).f0), .slice A198_1 ((rd_T108 x181000_1 (rd x9_1 x33_2)).f1).length c198_1], .int .i64 (rd x9_1 x33_2), .int .i64 (wrap64 (a1 + (rd t184 (rd x9_1 x33_2))))] (by rfl) rfl rfl qgsolve_28 ?_
      with_reducible refine (segmentation_best_after.calls ((rd_T108 x181000_1 (rd x9_1 x33_2)).f0) (fun k_ => ((((w.heap.size ≤ k_) ∧ (some k_ ≠ (.slice (some ad195) x9_1.length co19 : Value).ownBlock ∧ (some k_ ≠ (.slice (some ad199) t184.length co15 : Value).ownBlock ∧ (k_ ≠ gb180 ∧ (k_ ≠ gb187 ∧ k_ ≠ gb188))))) ∧ some k_ ≠ (.slice (some ad198) x181000_1.length co38 : Value).ownBlock) ∧ k_ ≠ gb204)) _ _ ((rd_T108 x181000_1 (rd x9_1 x33_2)).f1) (rd x9_1 x33_2) (wrap64 (a1 + (rd t184 (rd x9_1 x33_2)))) t200 t201 _ ?side1 A35.out).mono ?_
      (case side1 => exact HL198_1.out)
      rintro e w40 ⟨v202, rfl, ho0, hb⟩
      have HS2_ := (hb.cell (World.block_lt_of_cell? _ _ (hHeld.2.2.1))).trans (hHeld.2.2.1)
      have HS3_ := (hb.cell (World.block_lt_of_cell? _ _ (hHeld.2.2.2.1))).trans (hHeld.2.2.2.1)
      have HS4_ := (hb.cell (World.block_lt_of_cell? _ _ (hHeld.2.2.2.2))).trans (hHeld.2.2.2.2)
      refine ⟨_, rfl, ?_⟩
      have n0_ := Aside0.mk (Kd.R_below qgsolve_5 hb)
      have n1_ := Aside0.mk (Kd.N_below qgsolve_8 hb)
      have n2_ := Aside0.mk (Kd.R_below qgsolve_7 hb)
      have n3_ := Aside0.mk (Kd.V_below qgsolve_11 hb)
      have n4_ := Aside0.mk (Kd.V_below qgsolve_26 hb)
      have n5_ := Aside0.mk (Kd.V_lower (Kd.V_mono (ok' := fun k_ => (w.heap.size ≤ k_) ∧ some k_ ≠ (.slice (some ad195) x9_1.length co19 : Value).ownBlock ∧ some k_ ≠ (.slice (some ad198) x181000_1.length co38 : Value).ownBlock ∧ some k_ ≠ (.slice (some ad199) t184.length co15 : Value).ownBlock ∧ k_ ≠ gb180 ∧ k_ ≠ gb187 ∧ k_ ≠ gb188 ∧ k_ ≠ gb204) ho0 (fun k_ hk_ => ⟨Or.elim hk_ (fun hs_ => hs_.1.1.1) (fun hn_ => (Nat.le_trans (below_size qgsolve_2) hn_)), Or.elim hk_ (fun hs_ => hs_.1.1.2.1) (fun hn_ => (Kd.fresh' (Kd.R_lt qgsolve_5) k_ hn_)), Or.elim hk_ (fun hs_ => hs_.1.2) (fun hn_ => (Kd.fresh' (Kd.N_lt qgsolve_8) k_ hn_)), Or.elim hk_ (fun hs_ => hs_.1.1.2.2.1) (fun hn_ => (Kd.fresh' (Kd.R_lt qgsolve_7) k_ hn_)), Or.elim hk_ (fun hs_ => hs_.1.1.2.2.2.1) (fun hn_ => (Kd.freshB (g := gb180) (o := .cells #[.slice (some ad198) x181000_1.length co38] 76 (0, 0)) qgsolve_1 k_ hn_)), Or.elim hk_ (fun hs_ => hs_.1.1.2.2.2.2.1) (fun hn_ => (Kd.freshB (g := gb187) (o := .cells #[.slice (some ad199) t184.length co15] 26 (0, 0)) qgsolve_3 k_ hn_)), Or.elim hk_ (fun hs_ => hs_.1.1.2.2.2.2.2) (fun hn_ => (Kd.freshB (g := gb188) (o := .cells #[.int .i64 x189000_2, u189001] 108 (0, 0)) qgsolve_4 k_ hn_)), Or.elim hk_ (fun hs_ => hs_.2) (fun hn_ => (Kd.freshB (g := gb204) (o := .cells #[.int .i64 0, .slice none 0 0] 108 (0, 0)) qgsolve_18 k_ hn_))⟩)) (below_size qgsolve_2))
      have n6_ := Aside0.mk (blk_below (g := gb180) (o := .cells #[.slice (some ad198) x181000_1.length co38] 76 (0, 0)) qgsolve_1 hb)
      have n7_ := Aside0.mk (blk_below (g := gb187) (o := .cells #[.slice (some ad199) t184.length co15] 26 (0, 0)) qgsolve_3 hb)
      have n8_ := Aside0.mk (blk_below (g := gb188) (o := .cells #[.int .i64 x189000_2, u189001] 108 (0, 0)) qgsolve_4 hb)
      have n9_ := Aside0.mk (Kd.C_below qgsolve_13 hb)
      have n10_ := Aside0.mk (blk_below (g := gb204) (o := .cells #[.int .i64 0, .slice none 0 0] 108 (0, 0)) qgsolve_18 hb)
      have n11_ := Aside0.mk (below_step qgsolve_2 hb)
      clear HO_9
      clear HO_181000
      clear HO_188000
      clear HO_189001
      clear HL198_1
      clear BK180
      clear BK187
      clear BK188
      clear HR198_1
      clear BK204
      clear HB
      have HO_9 := n0_
      have HO_181000 := n1_
      have HO_188000 := n2_
      have HO_189001 := n3_
      have HL198_1 := n4_
      have HO203 := n5_
      have BK180 := n6_
      have BK187 := n7_
      have BK188 := n8_
      have HR198_1 := n9_
      have BK204 := n10_
      have HB := n11_
      clear n0_ n1_ n2_ n3_ n4_ n5_ n6_ n7_ n8_ n9_ n10_ n11_
      (try clear hb)
      (try clear hb2)
      (try clear hk)
      (try clear hi)
      (try clear ho0)
      refine hK.out _ _ ⟨(blk_cell BK180.out 0).trans rfl, (blk_cell BK187.out 0).trans rfl, HS2_, HS3_, HS4_⟩ (fun hHeld => ?_)
      clear hK K
      refine norm_ (a' := ?_) ?_ ?_
      rotate_left
      ·show Act.put _ (some 70) _ = _
       simp only [Act.put, List.setIfInBounds_toArray, List.set_cons_zero, List.set_cons_succ, i64_w, i32_w]
       rfl
      exact norm_ (by simp only [putAll, Act.put, List.setIfInBounds_toArray, List.set_cons_zero, List.set_cons_succ]) (hCont (v202, gb204) _ ⟨hHeld, qgsolve_29, (by (with_reducible repeat (first | apply Kd.V_alloc | apply Kd.V_drewN | apply Kd.V_drew)); exact Kd.V_mono HO203.out (fun _ hk => ⟨hk.1, ⟨hk.2.2.1, ⟨hk.2.2.2.1, ⟨hk.2.1, ⟨hk.2.2.2.2.1, ⟨hk.2.2.2.2.2.1, ⟨hk.2.2.2.2.2.2.1, hk.2.2.2.2.2.2.2⟩⟩⟩⟩⟩⟩⟩)), qgsolve_30, qgsolve_7, qgsolve_27, qgsolve_5, qgsolve_1, qgsolve_3, qgsolve_4, qgsolve_18, GW204.out, GE204.out, NB180_204.out, NB204_180.out, NB187_204.out, NB204_187.out, NB188_204.out, NB204_188.out, qgsolve_2⟩)
    rintro ⟨v202, gb204⟩ w41 ⟨hS_, h0_, h1_, h2_, h3_, h4_, h5_, h6_, h7_, h8_, h9_, h10_, h11_, h12_, h13_, h14_, h15_, h16_, h17_, h18_⟩
    have n0_ : Aside0 (Kd.V (Kd.int .i64) 3 w41 w.heap.size (fun k_ => (w.heap.size ≤ k_) ∧ some k_ ≠ (.slice (some ad198) x181000_1.length co38 : Value).ownBlock ∧ some k_ ≠ (.slice (some ad199) t184.length co15 : Value).ownBlock ∧ some k_ ≠ (.slice (some ad195) x9_1.length co19 : Value).ownBlock ∧ k_ ≠ gb180 ∧ k_ ≠ gb187 ∧ k_ ≠ gb188 ∧ k_ ≠ gb204) (.slice A198_1 ((rd_T108 x181000_1 (rd x9_1 x33_2)).f1).length c198_1) ((rd_T108 x181000_1 (rd x9_1 x33_2)).f1)) := ⟨h0_⟩
    have n1_ : Aside0 (Kd.V (Kd.int .i64) 3 w41 w.heap.size (fun k_ => (w.heap.size ≤ k_) ∧ some k_ ≠ (.slice (some ad198) x181000_1.length co38 : Value).ownBlock ∧ some k_ ≠ (.slice (some ad199) t184.length co15 : Value).ownBlock ∧ some k_ ≠ (.slice (some ad195) x9_1.length co19 : Value).ownBlock ∧ k_ ≠ gb180 ∧ k_ ≠ gb187 ∧ k_ ≠ gb188 ∧ k_ ≠ gb204) v202 t201) := ⟨h1_⟩
    have n2_ : Aside0 (Kd.N k108 108 w41 w.heap.size (fun k_ => (w.heap.size ≤ k_) ∧ some k_ ≠ (.slice (some ad199) t184.length co15 : Value).ownBlock ∧ some k_ ≠ (.slice (some ad195) x9_1.length co19 : Value).ownBlock ∧ k_ ≠ gb180 ∧ k_ ≠ gb187 ∧ k_ ≠ gb188 ∧ k_ ≠ gb204) (.slice (some ad198) x181000_1.length co38) x181000_1) := ⟨h2_⟩
    have n3_ : Aside0 (Kd.R (Kd.int .i64) 3 w41 w.heap.size (fun k_ => (w.heap.size ≤ k_) ∧ some k_ ≠ (.slice (some ad195) x9_1.length co19 : Value).ownBlock) (.slice (some ad199) t184.length co15) t184) := ⟨h3_⟩
    have n4_ : Aside0 (Kd.V (Kd.int .i64) 3 w41 w.heap.size (fun k_ => (w.heap.size ≤ k_) ∧ some k_ ≠ (.slice (some ad198) x181000_1.length co38 : Value).ownBlock ∧ some k_ ≠ (.slice (some ad199) t184.length co15 : Value).ownBlock ∧ some k_ ≠ (.slice (some ad195) x9_1.length co19 : Value).ownBlock ∧ k_ ≠ gb180 ∧ k_ ≠ gb187 ∧ k_ ≠ gb188 ∧ k_ ≠ gb204) u189001 x189001_2) := ⟨h4_⟩
    have n5_ : Aside0 (Kd.R (Kd.int .i64) 3 w41 w.heap.size (fun k_ => (w.heap.size ≤ k_) ∧ some k_ ≠ (.slice (some ad199) t184.length co15 : Value).ownBlock) (.slice (some ad195) x9_1.length co19) x9_1) := ⟨h5_⟩
    have n6_ : Aside0 (w41.heap[gb180]? = some (.cells #[.slice (some ad198) x181000_1.length co38] 76 (0, 0))) := ⟨h6_⟩
    have n7_ : Aside0 (w41.heap[gb187]? = some (.cells #[.slice (some ad199) t184.length co15] 26 (0, 0))) := ⟨h7_⟩
    have n8_ : Aside0 (w41.heap[gb188]? = some (.cells #[.int .i64 x189000_2, u189001] 108 (0, 0))) := ⟨h8_⟩
    have n9_ : Aside0 (w41.heap[gb204]? = some (.cells #[.int .i64 0, .slice none 0 0] 108 (0, 0))) := ⟨h9_⟩
    have n10_ : Aside0 (w.heap.size ≤ gb204) := ⟨h10_⟩
    have n11_ : Aside0 (w.heap.size ≤ gb204) := ⟨h11_⟩
    have n12_ : Aside0 (gb180 ≠ gb204) := ⟨h12_⟩
    have n13_ : Aside0 (gb204 ≠ gb180) := ⟨h13_⟩
    have n14_ : Aside0 (gb187 ≠ gb204) := ⟨h14_⟩
    have n15_ : Aside0 (gb204 ≠ gb187) := ⟨h15_⟩
    have n16_ : Aside0 (gb188 ≠ gb204) := ⟨h16_⟩
    have n17_ : Aside0 (gb204 ≠ gb188) := ⟨h17_⟩
    have n18_ : Aside0 (Below w.heap.size w w41) := ⟨h18_⟩
    clear HO_9
    clear HO_181000
    clear HO_188000
    clear HO_189001
    clear BK180
    clear BK187
    clear BK188
    clear HB
    clear h0_ h1_ h2_ h3_ h4_ h5_ h6_ h7_ h8_ h9_ h10_ h11_ h12_ h13_ h14_ h15_ h16_ h17_ h18_
    have HL198_1 := n0_
    have HO203 := n1_
    have HO_181000 := n2_
    have HO_188000 := n3_
    have HO_189001 := n4_
    have HO_9 := n5_
    have BK180 := n6_
    have BK187 := n7_
    have BK188 := n8_
    have BK204 := n9_
    have GW204 := n10_
    have GE204 := n11_
    have NB180_204 := n12_
    have NB204_180 := n13_
    have NB187_204 := n14_
    have NB204_187 := n15_
    have NB188_204 := n16_
    have NB204_188 := n17_
    have HB := n18_
    clear n0_ n1_ n2_ n3_ n4_ n5_ n6_ n7_ n8_ n9_ n10_ n11_ n12_ n13_ n14_ n15_ n16_ n17_ n18_
    have hHeld : w41.cell? ⟨gb180, 0, none⟩ = some (.slice (some ad198) x181000_1.length co38) ∧ w41.cell? ⟨gb187, 0, none⟩ = some (.slice (some ad199) t184.length co15) ∧ w41.cell? (ad198.add (((rd x9_1 x33_2)).toNat * 2)) = some (.int .i64 ((rd_T108 x181000_1 (rd x9_1 x33_2)).f0)) ∧ w41.cell? ⟨(ad198.add (((rd x9_1 x33_2)).toNat * 2)).block, (ad198.add (((rd x9_1 x33_2)).toNat * 2)).off + 1, none⟩ = some (.slice A198_1 ((rd_T108 x181000_1 (rd x9_1 x33_2)).f1).length c198_1) ∧ w41.cell? (ad199.add ((rd x9_1 x33_2)).toNat) = some (.int .i64 (rd t184 (rd x9_1 x33_2))) := hS_
    obtain ⟨Ao43, co43, eo43⟩ := Kd.V_slice HO203.out
    (first | subst eo43 | (injection eo43 with f1_ f2_ f3_; have f4_ := f1_.symm; have f5_ := f3_.symm; clear f1_ f2_ f3_; subst f4_; subst f5_))
    refine norm_ (a' := ?_) ?_ ?_
    rotate_left
    ·simp only [putAll, Act.put, List.setIfInBounds_toArray, List.set_cons_zero, List.set_cons_succ]
     rfl
    refine one_ (i := 13) (N := none) A4942_47 rfl rfl (one_of HT_.out (by kernel_rfl)) (by decide) (fun K hK => ?_)
    have hs42 : w41.cell? ⟨gb204, 0, none⟩ = some (.int .i64 0) := (blk_cell BK204.out 0).trans rfl
    have hfs42 := blk_frozen BK204.out 0
    have hns42_0 := NB180_204.out
    have hns42_1 := NB187_204.out
    have hns42_2 := NB188_204.out
    have hms42_0 := NB204_180.out
    have hms42_1 := NB204_187.out
    have hms42_2 := NB204_188.out
    have hs44 : w41.cell? ⟨gb204, 1, none⟩ = some (.slice none 0 0) := (blk_cell BK204.out 1).trans rfl
    have hfs44 := blk_frozen BK204.out 1
    have hns44_0 := NB180_204.out
    have hns44_1 := NB187_204.out
    have hns44_2 := NB188_204.out
    have hms44_0 := NB204_180.out
    have hms44_1 := NB204_187.out
    have hms44_2 := NB204_188.out
    refine skip_ (w1 := ?_) (by rfl) rfl ?_ ?_
    rotate_left
    ·go_simp
     rfl
    refine hK.out _ _ ⟨((cell_far (p := ⟨gb204, _, none⟩) NB180_204.out _).trans (((cell_far (p := ⟨gb204, _, none⟩) NB180_204.out _).trans (hHeld.1)))), ((cell_far (p := ⟨gb204, _, none⟩) NB187_204.out _).trans (((cell_far (p := ⟨gb204, _, none⟩) NB187_204.out _).trans (hHeld.2.1)))), ((cell_far (p := ⟨gb204, _, none⟩) qgsolve_9 _).trans (((cell_far (p := ⟨gb204, _, none⟩) qgsolve_9 _).trans (hHeld.2.2.1)))), ((cell_far (p := ⟨gb204, _, none⟩) qgsolve_9 _).trans (((cell_far (p := ⟨gb204, _, none⟩) qgsolve_9 _).trans (hHeld.2.2.2.1)))), ((cell_far (p := ⟨gb204, _, none⟩) qgsolve_25 _).trans (((cell_far (p := ⟨gb204, _, none⟩) qgsolve_25 _).trans (hHeld.2.2.2.2))))⟩ (fun hHeld => ?_)
    clear hK K
    refine done_ (done_of HT_.out (by kernel_rfl)) ?_
    go_upto_region 15 with (fail)
    go_cut [77] (fun v77 wc => ∃ (kq : Nat) (x77_35 : Bool), v77 = .bool x77_35 ∧ Aside0 (segmentation_solve.j3 kq l0 a1 a2 x9_1 (wrap64 (x10_2 + 1)) x11_1 (x9_1.length : Int) x33_2 x77_35 x181000_1 t184 x189000_2 x189001_2 t200 t201 = some (r1, r2)) ∧ Aside0 (kq ≤ kj22) ∧ Aside0 (Kd.R (Kd.int .i64) 3 wc w.heap.size (fun k_ => (w.heap.size ≤ k_) ∧ some k_ ≠ ((.slice (some ad199) t184.length co15) : Value).ownBlock) (.slice (some ad195) x9_1.length co19) x9_1) ∧ Aside0 (Kd.N k108 108 wc w.heap.size (fun k_ => (w.heap.size ≤ k_) ∧ some k_ ≠ ((.slice (some ad195) x9_1.length co19) : Value).ownBlock ∧ some k_ ≠ ((.slice (some ad199) t184.length co15) : Value).ownBlock ∧ k_ ≠ gb180 ∧ k_ ≠ gb187 ∧ k_ ≠ gb188 ∧ k_ ≠ gb204) (.slice (some ad198) x181000_1.length co38) x181000_1) ∧ Aside0 (Kd.R (Kd.int .i64) 3 wc w.heap.size (fun k_ => (w.heap.size ≤ k_) ∧ some k_ ≠ ((.slice (some ad195) x9_1.length co19) : Value).ownBlock) (.slice (some ad199) t184.length co15) t184) ∧ Aside0 (Kd.V (Kd.int .i64) 3 wc w.heap.size (fun k_ => (w.heap.size ≤ k_) ∧ some k_ ≠ ((.slice (some ad195) x9_1.length co19) : Value).ownBlock ∧ some k_ ≠ ((.slice (some ad198) x181000_1.length co38) : Value).ownBlock ∧ some k_ ≠ ((.slice (some ad199) t184.length co15) : Value).ownBlock ∧ k_ ≠ gb180 ∧ k_ ≠ gb187 ∧ k_ ≠ gb188 ∧ k_ ≠ gb204) u189001 x189001_2) ∧ Aside0 (Kd.V (Kd.int .i64) 3 wc w.heap.size (fun k_ => (w.heap.size ≤ k_) ∧ some k_ ≠ ((.slice (some ad195) x9_1.length co19) : Value).ownBlock ∧ some k_ ≠ ((.slice (some ad198) x181000_1.length co38) : Value).ownBlock ∧ some k_ ≠ ((.slice (some ad199) t184.length co15) : Value).ownBlock ∧ k_ ≠ gb180 ∧ k_ ≠ gb187 ∧ k_ ≠ gb188 ∧ k_ ≠ gb204) (.slice Ao43 t201.length co43) t201) ∧ Aside0 (wc.heap[gb180]? = some (.cells #[(.slice (some ad198) x181000_1.length co38)] 76 (0, 0))) ∧ Aside0 (wc.heap[gb187]? = some (.cells #[(.slice (some ad199) t184.length co15)] 26 (0, 0))) ∧ Aside0 (wc.heap[gb188]? = some (.cells #[.int .i64 x189000_2, u189001] 108 (0, 0))) ∧ Aside0 (wc.heap[gb204]? = some (.cells #[.int .i64 t200, (.slice Ao43 t201.length co43)] 108 (0, 0))) ∧ Aside0 (Below w.heap.size w wc))
    case first =>
     have H := HC36.out
     clear HC36
     by_cases c45 : x33_2 = 0
     ·rw [if_pos c45] at H
      have c45b0 : (x33_2 == 0) = true := beq_iff_eq.mpr c45
      have c45b1 : (x33_2 != 0) = false := bne_eq_false_iff_eq.mpr c45
      clear c45
      (first | rw [c45b0] | (simp only [i64_w, i32_w]; rw [c45b0]) | skip)
      have H' := Aside0.mk H
      clear H
      go_wp2
      go_meet
      case rel => exact ⟨_, (true), qgsolve_12, H', ⟨by have := HK1.out; have := HK2.out; have := HJ22.out; first | omega | exact Nat.le_refl _⟩, ⟨by (with_reducible repeat (first | apply Kd.R_alloc | apply Kd.R_drewN | apply Kd.R_drew)); exact Kd.R_mono (Kd.R_far (p := ⟨gb204, 1, none⟩) (Kd.R_far (p := ⟨gb204, 0, none⟩) (Kd.R_types HO_9.out BK204.out (by decide)) (fun _ hk => hk.2) (.int .i64 t200)) (fun _ hk => hk.2) (.slice Ao43 t201.length co43)) (fun _ hk => ⟨hk.1.1, hk.1.2⟩)⟩, ⟨by (with_reducible repeat (first | apply Kd.N_alloc | apply Kd.N_drewN | apply Kd.N_drew)); exact Kd.N_mono (Kd.N_far (p := ⟨gb204, 1, none⟩) (Kd.N_far (p := ⟨gb204, 0, none⟩) (Kd.N_mono HO_181000.out (fun k_ hk => (⟨hk, hk.2.2.2.2.2.2⟩ : _ ∧ k_ ≠ gb204))) (fun _ hk => hk.2) (.int .i64 t200)) (fun _ hk => hk.2) (.slice Ao43 t201.length co43)) (fun _ hk => ⟨hk.1.1, ⟨hk.1.2.2.1, ⟨hk.1.2.1, ⟨hk.1.2.2.2.1, ⟨hk.1.2.2.2.2.1, ⟨hk.1.2.2.2.2.2.1, hk.1.2.2.2.2.2.2⟩⟩⟩⟩⟩⟩)⟩, ⟨by (with_reducible repeat (first | apply Kd.R_alloc | apply Kd.R_drewN | apply Kd.R_drew)); exact Kd.R_mono (Kd.R_far (p := ⟨gb204, 1, none⟩) (Kd.R_far (p := ⟨gb204, 0, none⟩) (Kd.R_types HO_188000.out BK204.out (by decide)) (fun _ hk => hk.2) (.int .i64 t200)) (fun _ hk => hk.2) (.slice Ao43 t201.length co43)) (fun _ hk => ⟨hk.1.1, hk.1.2⟩)⟩, ⟨by (with_reducible repeat (first | apply Kd.V_alloc | apply Kd.V_drewN | apply Kd.V_drew)); exact Kd.V_mono (Kd.V_far (p := ⟨gb204, 1, none⟩) (Kd.V_far (p := ⟨gb204, 0, none⟩) (Kd.V_mono HO_189001.out (fun k_ hk => (⟨hk, hk.2.2.2.2.2.2.2⟩ : _ ∧ k_ ≠ gb204))) (fun _ hk => hk.2) (.int .i64 t200)) (fun _ hk => hk.2) (.slice Ao43 t201.length co43)) (fun _ hk => ⟨hk.1.1, ⟨hk.1.2.2.2.1, ⟨hk.1.2.1, ⟨hk.1.2.2.1, ⟨hk.1.2.2.2.2.1, ⟨hk.1.2.2.2.2.2.1, ⟨hk.1.2.2.2.2.2.2.1, hk.1.2.2.2.2.2.2.2⟩⟩⟩⟩⟩⟩⟩)⟩, ⟨by (with_reducible repeat (first | apply Kd.V_alloc | apply Kd.V_drewN | apply Kd.V_drew)); exact Kd.V_mono (Kd.V_far (p := ⟨gb204, 1, none⟩) (Kd.V_far (p := ⟨gb204, 0, none⟩) (Kd.V_mono HO203.out (fun k_ hk => (⟨hk, hk.2.2.2.2.2.2.2⟩ : _ ∧ k_ ≠ gb204))) (fun _ hk => hk.2) (.int .i64 t200)) (fun _ hk => hk.2) (.slice Ao43 t201.length co43)) (fun _ hk => ⟨hk.1.1, ⟨hk.1.2.2.2.1, ⟨hk.1.2.1, ⟨hk.1.2.2.1, ⟨hk.1.2.2.2.2.1, ⟨hk.1.2.2.2.2.2.1, ⟨hk.1.2.2.2.2.2.2.1, hk.1.2.2.2.2.2.2.2⟩⟩⟩⟩⟩⟩⟩)⟩, ⟨qgsolve_19⟩, ⟨qgsolve_20⟩, ⟨qgsolve_21⟩, ⟨qgsolve_17⟩, ⟨qgsolve_2⟩⟩
     rw [if_neg c45] at H
     have c45b0 : (x33_2 == 0) = false := beq_eq_false_iff_ne.mpr c45
     have c45b1 : (x33_2 != 0) = true := bne_iff_ne.mpr c45
     (first | rw [c45b0] | (simp only [i64_w, i32_w]; rw [c45b0]) | skip)
     replace H := Option.bind_eq_some_iff.mp H
     obtain ⟨t205, A460, H⟩ := H
     replace H : (segmentation_solve.j3 kj22 l0 a1 a2 x9_1 (wrap64 (x10_2 + 1)) x11_1 (x9_1.length : Int) x33_2 t205 x181000_1 t184 x189000_2 x189001_2 t200 t201) = some (r1, r2) := H
     have A46 := Aside0.mk A460
     clear A460
     have H' := Aside0.mk H
     clear H
     have hnb47 := NB204_180.out
     have hnc47 := NB180_204.out
     have hnb48 := NB204_187.out
     have hnc48 := NB187_204.out
     have hnb49 := NB204_188.out
     have hnc49 := NB188_204.out
     have hcz50_0 : w41.cell? ⟨gb204, 0, none⟩ = some (.int .i64 0) := (blk_cell BK204.out 0).trans rfl
     have hcz50_1 : w41.cell? ⟨gb204, 1, none⟩ = some (.slice none 0 0) := (blk_cell BK204.out 1).trans rfl
     have hfz50_0 := blk_frozen BK204.out 0
     have hfz50_1 := blk_frozen BK204.out 1
     have hnb51 := NB188_180.out
     have hnc51 := NB180_188.out
     have hnb52 := NB188_187.out
     have hnc52 := NB187_188.out
     have hcz53_0 : w41.cell? ⟨gb188, 0, none⟩ = some (.int .i64 x189000_2) := (blk_cell BK188.out 0).trans rfl
     have hcz53_1 : w41.cell? ⟨gb188, 1, none⟩ = some (u189001) := (blk_cell BK188.out 1).trans rfl
     have hfz53_0 := blk_frozen BK188.out 0
     have hfz53_1 := blk_frozen BK188.out 1
     obtain ⟨Ao54, co54, eo54⟩ := Kd.V_slice HO_189001.out
     subst eo54
     go_wp2_with (first | (go_at_call 62; (with_reducible refine (segmentation_best_better.calls kj22 t200 _ _ t201 x189000_2 _ _ x189001_2 t205 _ ?side1 ?side2 ?side3 ?side4 A46.out).mono ?_); (case side1 => refine (Kd.V_reads' (e := 3) (base := w.heap.size) (ok := fun k_ => ((w.heap.size ≤ k_) ∧ (some k_ ≠ (.slice (some ad198) x181000_1.length co38 : Value).ownBlock ∧ (some k_ ≠ (.slice (some ad199) t184.length co15 : Value).ownBlock ∧ (some k_ ≠ (.slice (some ad195) x9_1.length co19 : Value).ownBlock ∧ (k_ ≠ gb180 ∧ (k_ ≠ gb187 ∧ (k_ ≠ gb188 ∧ k_ ≠ gb204)))))))) (n := t201.length) (c := co43) ?_).2.2; exact qgsolve_24); (case side2 => exact (Kd.V_reads' HO203.out).2.1); (case side3 => refine (Kd.V_reads' (e := 3) (base := w.heap.size) (ok := fun k_ => ((w.heap.size ≤ k_) ∧ (some k_ ≠ (.slice (some ad198) x181000_1.length co38 : Value).ownBlock ∧ (some k_ ≠ (.slice (some ad199) t184.length co15 : Value).ownBlock ∧ (some k_ ≠ (.slice (some ad195) x9_1.length co19 : Value).ownBlock ∧ (k_ ≠ gb180 ∧ (k_ ≠ gb187 ∧ (k_ ≠ gb188 ∧ k_ ≠ gb204)))))))) (n := x189001_2.length) (c := co54) ?_).2.2; exact qgsolve_23); (case side4 => exact (Kd.V_reads' HO_189001.out).2.1); rintro e w55 ⟨rfl, hb⟩; have n0_ := Aside0.mk (Kd.R_below (by (with_reducible repeat (first | apply Kd.R_alloc | apply Kd.R_drewN | apply Kd.R_drew)); exact (Kd.R_mono (Kd.R_far (p := ⟨gb204, 1, none⟩) (Kd.R_far (p := ⟨gb204, 0, none⟩) (Kd.R_types HO_9.out BK204.out (by decide)) (fun _ hk => hk.2) (.int .i64 t200)) (fun _ hk => hk.2) (.slice Ao43 t201.length co43)) (fun _ h_ => h_.1))) hb); have n1_ := Aside0.mk (Kd.N_below (by (with_reducible repeat (first | apply Kd.N_alloc | apply Kd.N_drewN | apply Kd.N_drew)); exact (Kd.N_mono (Kd.N_far (p := ⟨gb204, 1, none⟩) (Kd.N_far (p := ⟨gb204, 0, none⟩) (Kd.N_mono HO_181000.out (fun k_ hk => (⟨hk, hk.2.2.2.2.2.2⟩ : _ ∧ k_ ≠ gb204))) (fun _ hk => hk.2) (.int .i64 t200)) (fun _ hk => hk.2) (.slice Ao43 t201.length co43)) (fun _ h_ => h_.1))) hb); have n2_ := Aside0.mk (Kd.R_below (by (with_reducible repeat (first | apply Kd.R_alloc | apply Kd.R_drewN | apply Kd.R_drew)); exact (Kd.R_mono (Kd.R_far (p := ⟨gb204, 1, none⟩) (Kd.R_far (p := ⟨gb204, 0, none⟩) (Kd.R_types HO_188000.out BK204.out (by decide)) (fun _ hk => hk.2) (.int .i64 t200)) (fun _ hk => hk.2) (.slice Ao43 t201.length co43)) (fun _ h_ => h_.1))) hb); have n3_ := Aside0.mk (Kd.V_below qgsolve_23 hb); have n4_ := Aside0.mk (Kd.V_below (by (with_reducible repeat (first | apply Kd.V_alloc | apply Kd.V_drewN | apply Kd.V_drew)); exact (Kd.V_mono (Kd.V_far (p := ⟨gb204, 1, none⟩) (Kd.V_far (p := ⟨gb204, 0, none⟩) (Kd.V_mono HL198_1.out (fun k_ hk => (⟨hk, hk.2.2.2.2.2.2.2⟩ : _ ∧ k_ ≠ gb204))) (fun _ hk => hk.2) (.int .i64 t200)) (fun _ hk => hk.2) (.slice Ao43 t201.length co43)) (fun _ h_ => h_.1))) hb); have n5_ := Aside0.mk (Kd.V_below qgsolve_24 hb); have n6_ := Aside0.mk (blk_below (g := gb180) (o := .cells #[.slice (some ad198) x181000_1.length co38] 76 (0, 0)) qgsolve_19 hb); have n7_ := Aside0.mk (blk_below (g := gb187) (o := .cells #[.slice (some ad199) t184.length co15] 26 (0, 0)) qgsolve_20 hb); have n8_ := Aside0.mk (blk_below (g := gb188) (o := .cells #[.int .i64 x189000_2, .slice Ao54 x189001_2.length co54] 108 (0, 0)) qgsolve_21 hb); have n9_ := Aside0.mk (blk_below (g := gb204) (o := .cells #[.int .i64 t200, .slice Ao43 t201.length co43] 108 (0, 0)) qgsolve_17 hb); have n10_ := Aside0.mk (below_step qgsolve_2 hb); clear HO_9; clear HO_181000; clear HO_188000; clear HO_189001; clear HL198_1; clear HO203; clear BK180; clear BK187; clear BK188; clear BK204; clear HB; have HO_9 := n0_; have HO_181000 := n1_; have HO_188000 := n2_; have HO_189001 := n3_; have HL198_1 := n4_; have HO203 := n5_; have BK180 := n6_; have BK187 := n7_; have BK188 := n8_; have BK204 := n9_; have HB := n10_; clear n0_ n1_ n2_ n3_ n4_ n5_ n6_ n7_ n8_ n9_ n10_; (try clear hb); (try clear hb2); (try clear hk); (try clear hi)))
     go_meet
     case rel => exact ⟨_, (t205), qgsolve_12, H', ⟨by have := HK1.out; have := HK2.out; have := HJ22.out; first | omega | exact Nat.le_refl _⟩, ⟨qgsolve_5⟩, ⟨by (with_reducible repeat (first | apply Kd.N_alloc | apply Kd.N_drewN | apply Kd.N_drew)); exact Kd.N_mono HO_181000.out (fun _ hk => ⟨hk.1, ⟨hk.2.2.1, ⟨hk.2.1, ⟨hk.2.2.2.1, ⟨hk.2.2.2.2.1, ⟨hk.2.2.2.2.2.1, hk.2.2.2.2.2.2⟩⟩⟩⟩⟩⟩)⟩, ⟨qgsolve_7⟩, ⟨by (with_reducible repeat (first | apply Kd.V_alloc | apply Kd.V_drewN | apply Kd.V_drew)); exact Kd.V_mono HO_189001.out (fun _ hk => ⟨hk.1, ⟨hk.2.2.2.1, ⟨hk.2.1, ⟨hk.2.2.1, ⟨hk.2.2.2.2.1, ⟨hk.2.2.2.2.2.1, ⟨hk.2.2.2.2.2.2.1, hk.2.2.2.2.2.2.2⟩⟩⟩⟩⟩⟩⟩)⟩, ⟨by (with_reducible repeat (first | apply Kd.V_alloc | apply Kd.V_drewN | apply Kd.V_drew)); exact Kd.V_mono HO203.out (fun _ hk => ⟨hk.1, ⟨hk.2.2.2.1, ⟨hk.2.1, ⟨hk.2.2.1, ⟨hk.2.2.2.2.1, ⟨hk.2.2.2.2.2.1, ⟨hk.2.2.2.2.2.2.1, hk.2.2.2.2.2.2.2⟩⟩⟩⟩⟩⟩⟩)⟩, ⟨qgsolve_1⟩, ⟨qgsolve_3⟩, ⟨qgsolve_4⟩, ⟨qgsolve_18⟩, ⟨qgsolve_2⟩⟩
    clear HC36
    try clear c1
    try clear p1
    try clear q1
    try clear hx1
    try clear c2
    try clear p2
    try clear c3
    try clear c4
    try clear c5
    try clear c6
    try clear p6
    try clear c19
    try clear p19
    try clear q19
    try clear hx19
    try clear c20
    try clear c20b0
    try clear c21
    try clear c21b0
    try clear c22
    try clear c22b0
    try clear c24
    try clear c24b0
    try clear c25
    try clear c25b0
    try clear c26
    try clear c26b0
    try clear c27
    try clear c27b0
    try clear c31
    try clear c32
    try clear c32b0
    try clear c33
    try clear c33b0
    try clear c34
    try clear c34b0
    try clear c45
    try clear c45b0
    try clear c45b1
    try clear c47
    try clear c48
    try clear c49
    try clear c51
    try clear c52
    try clear hcz17_0
    try clear hcz50_0
    try clear hcz50_1
    try clear hcz53_0
    try clear hcz53_1
    try clear hcz8_0
    try clear hfz17_0
    try clear hfz50_0
    try clear hfz50_1
    try clear hfz53_0
    try clear hfz53_1
    try clear hfz8_0
    try clear hx195_0
    try clear hx196_0
    try clear hx196_1
    try clear hx197_0
    try clear hx198_0
    try clear hx198_1
    try clear hx199_0
    try clear p19
    try clear p195
    try clear p196
    try clear p197
    try clear p198
    try clear p199
    try clear p2
    try clear p6
    try clear q19
    try clear q195
    try clear q196
    try clear q197
    try clear q198
    try clear q199
    obtain ⟨kq, x77_35, rfl, HA, HJ35, HO_9, HO_181000, HO_188000, HO_189001, HO_205001, BK180, BK187, BK188, BK204, HB⟩ := hcut
    cases kq with
    | zero => exact absurd HA.out (by simp [segmentation_solve.j3])
    | succ kj35 =>
     have H := HA.out
     clear HA
     simp only [segmentation_solve.j3] at H
     by_cases c56 : x77_35 = true
     rotate_left
     ·replace c56 := Bool.eq_false_iff.mpr c56
      subst c56
      have H1 : (segmentation_solve.l1 kj35 l0 a1 a2 x9_1 (wrap64 (x10_2 + 1)) x11_1 (x9_1.length : Int) (wrap64 (x33_2 + 1)) x181000_1 t184 x189000_2 x189001_2) = some (r1, r2) := by rw [if_neg (show ¬ (false = true) by decide)] at H; exact H
      clear H
      have H := H1
      clear H1
      have H' := Aside0.mk H
      clear H
      go_wp2
      go_roundg kj35
      case measure => have := HK1.out; have := HK2.out; have := HJ22.out; have := HJ35.out; omega
      case rel => exact ⟨((wrap64 (x10_2 + 1))), (wrap64 (x33_2 + 1)), (x189000_2), (x189001_2), (u189001), qgsolve_12, qgsolve_12, H', ⟨by have := HK1.out; have := HK2.out; have := HJ22.out; have := HJ35.out; omega⟩, ⟨qgsolve_5⟩, ⟨by (with_reducible repeat (first | apply Kd.N_alloc | apply Kd.N_drewN | apply Kd.N_drew)); exact Kd.N_mono HO_181000.out (fun _ hk => ⟨hk.1, ⟨hk.2.1, ⟨hk.2.2.1, ⟨hk.2.2.2.1, ⟨hk.2.2.2.2.1, hk.2.2.2.2.2.1⟩⟩⟩⟩⟩)⟩, ⟨qgsolve_7⟩, ⟨by (with_reducible repeat (first | apply Kd.V_alloc | apply Kd.V_drewN | apply Kd.V_drew)); exact Kd.V_mono HO_189001.out (fun _ hk => ⟨hk.1, ⟨hk.2.1, ⟨hk.2.2.1, ⟨hk.2.2.2.1, ⟨hk.2.2.2.2.1, ⟨hk.2.2.2.2.2.1, hk.2.2.2.2.2.2.1⟩⟩⟩⟩⟩⟩)⟩, ⟨qgsolve_1⟩, ⟨qgsolve_3⟩, ⟨qgsolve_4⟩, ⟨qgsolve_2⟩⟩
     subst c56
     have H1 : (segmentation_solve.l1 kj35 l0 a1 a2 x9_1 (wrap64 (x10_2 + 1)) x11_1 (x9_1.length : Int) (wrap64 (x33_2 + 1)) x181000_1 t184 t200 t201) = some (r1, r2) := by rw [if_pos rfl] at H; exact H
     clear H
     have H := H1
     clear H1
     have H' := Aside0.mk H
     clear H
     have hnb57 := NB204_180.out
     have hnc57 := NB180_204.out
     have hnb58 := NB204_187.out
     have hnc58 := NB187_204.out
     have hnb59 := NB204_188.out
     have hnc59 := NB188_204.out
     have hcz60_0 : wc.cell? ⟨gb204, 0, none⟩ = some (.int .i64 t200) := (blk_cell BK204.out 0).trans rfl
     have hcz60_1 : wc.cell? ⟨gb204, 1, none⟩ = some (.slice Ao43 t201.length co43) := (blk_cell BK204.out 1).trans rfl
     have hfz60_0 := blk_frozen BK204.out 0
     have hfz60_1 := blk_frozen BK204.out 1
     have hnb61 := NB188_180.out
     have hnc61 := NB180_188.out
     have hnb62 := NB188_187.out
     have hnc62 := NB187_188.out
     have hcz63_0 : wc.cell? ⟨gb188, 0, none⟩ = some (.int .i64 x189000_2) := (blk_cell BK188.out 0).trans rfl
     have hcz63_1 : wc.cell? ⟨gb188, 1, none⟩ = some (u189001) := (blk_cell BK188.out 1).trans rfl
     have hfz63_0 := blk_frozen BK188.out 0
     have hfz63_1 := blk_frozen BK188.out 1
     go_wp2
     go_roundg kj35
     case measure => have := HK1.out; have := HK2.out; have := HJ22.out; have := HJ35.out; omega
     case rel => exact ⟨((wrap64 (x10_2 + 1))), (wrap64 (x33_2 + 1)), (t200), (t201), (.slice Ao43 t201.length co43), qgsolve_12, qgsolve_12, H', ⟨by have := HK1.out; have := HK2.out; have := HJ22.out; have := HJ35.out; omega⟩, ⟨by (with_reducible repeat (first | apply Kd.R_alloc | apply Kd.R_drewN | apply Kd.R_drew)); exact Kd.R_mono (Kd.R_far (p := ⟨gb188, 1, none⟩) (Kd.R_far (p := ⟨gb188, 0, none⟩) (Kd.R_types HO_9.out BK188.out (by decide)) (fun _ hk => hk.2) (.int .i64 t200)) (fun _ hk => hk.2) (.slice Ao43 t201.length co43)) (fun _ hk => ⟨hk.1.1, hk.1.2⟩)⟩, ⟨by (with_reducible repeat (first | apply Kd.N_alloc | apply Kd.N_drewN | apply Kd.N_drew)); exact Kd.N_mono (Kd.N_far (p := ⟨gb188, 1, none⟩) (Kd.N_far (p := ⟨gb188, 0, none⟩) (Kd.N_mono HO_181000.out (fun k_ hk => (⟨hk, hk.2.2.2.2.2.1⟩ : _ ∧ k_ ≠ gb188))) (fun _ hk => hk.2) (.int .i64 t200)) (fun _ hk => hk.2) (.slice Ao43 t201.length co43)) (fun _ hk => ⟨hk.1.1, ⟨hk.1.2.1, ⟨hk.1.2.2.1, ⟨hk.1.2.2.2.1, ⟨hk.1.2.2.2.2.1, hk.1.2.2.2.2.2.1⟩⟩⟩⟩⟩)⟩, ⟨by (with_reducible repeat (first | apply Kd.R_alloc | apply Kd.R_drewN | apply Kd.R_drew)); exact Kd.R_mono (Kd.R_far (p := ⟨gb188, 1, none⟩) (Kd.R_far (p := ⟨gb188, 0, none⟩) (Kd.R_types HO_188000.out BK188.out (by decide)) (fun _ hk => hk.2) (.int .i64 t200)) (fun _ hk => hk.2) (.slice Ao43 t201.length co43)) (fun _ hk => ⟨hk.1.1, hk.1.2⟩)⟩, ⟨by (with_reducible repeat (first | apply Kd.V_alloc | apply Kd.V_drewN | apply Kd.V_drew)); exact Kd.V_mono (Kd.V_far (p := ⟨gb188, 1, none⟩) (Kd.V_far (p := ⟨gb188, 0, none⟩) (Kd.V_mono HO_205001.out (fun k_ hk => (⟨hk, hk.2.2.2.2.2.2.1⟩ : _ ∧ k_ ≠ gb188))) (fun _ hk => hk.2) (.int .i64 t200)) (fun _ hk => hk.2) (.slice Ao43 t201.length co43)) (fun _ hk => ⟨hk.1.1, ⟨hk.1.2.1, ⟨hk.1.2.2.1, ⟨hk.1.2.2.2.1, ⟨hk.1.2.2.2.2.1, ⟨hk.1.2.2.2.2.2.1, hk.1.2.2.2.2.2.2.1⟩⟩⟩⟩⟩⟩)⟩, ⟨by (with_reducible repeat (first | refine blk_drewN ?_ _ | refine blk_drew ?_ | refine blk_alloc ?_ _)); refine blk_far ?_ NB180_188.out _; (with_reducible repeat (first | refine blk_drewN ?_ _ | refine blk_drew ?_ | refine blk_alloc ?_ _)); refine blk_far ?_ NB180_188.out _; (with_reducible repeat (first | refine blk_drewN ?_ _ | refine blk_drew ?_ | refine blk_alloc ?_ _)); exact BK180.out⟩, ⟨by (with_reducible repeat (first | refine blk_drewN ?_ _ | refine blk_drew ?_ | refine blk_alloc ?_ _)); refine blk_far ?_ NB187_188.out _; (with_reducible repeat (first | refine blk_drewN ?_ _ | refine blk_drew ?_ | refine blk_alloc ?_ _)); refine blk_far ?_ NB187_188.out _; (with_reducible repeat (first | refine blk_drewN ?_ _ | refine blk_drew ?_ | refine blk_alloc ?_ _)); exact BK187.out⟩, ⟨by (with_reducible repeat (first | refine blk_drewN ?_ _ | refine blk_drew ?_ | refine blk_alloc ?_ _)); refine blk_put (cs := #[.int .i64 t200, u189001]) ?_ 1 _ rfl; (with_reducible repeat (first | refine blk_drewN ?_ _ | refine blk_drew ?_ | refine blk_alloc ?_ _)); refine blk_put (cs := #[.int .i64 x189000_2, u189001]) ?_ 0 _ rfl; (with_reducible repeat (first | refine blk_drewN ?_ _ | refine blk_drew ?_ | refine blk_alloc ?_ _)); exact BK188.out⟩, ⟨qgsolve_2⟩⟩

end Go.Proofs.Ytcjgmofgfblmnaa.Q
