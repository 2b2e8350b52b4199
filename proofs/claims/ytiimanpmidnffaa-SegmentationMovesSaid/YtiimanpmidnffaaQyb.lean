-- The walk of SegmentationMoves. Laid by myprint.py (a program of this session's, over the kit's printer)
import Derived.Test.YtiimanpmidnffaaQx0
import Derived.Test.YtiimanpmidnffaaQx5
import Derived.Test.YtiimanpmidnffaaQx8
namespace Go.Proofs.Ytiimanpmidnffaa.Q
open Go.RowKit Go.Proofs.YtiimanpmidnffaaW.PrintWords Go.Proofs.YtiimanpmidnffaaW.PrintLast Go.Proofs.YtiimanpmidnffaaW.PrintMore
attribute [local go_sem] max2_int min2_int max_two min_two max_three min_three max_four min_four   -- for this text's walks alone
set_option linter.unusedVariables false
set_option linter.unusedSimpArgs false

abbrev T : Bool := true
abbrev F : Bool := false
theorem qyb_0 {p : Prop} (h : p := by refine (Kd.R_reads' (e := 3) (base := w.heap.size) (ok := fun k_ => ((((((((True ∧ some k_ ≠ (.slice Ao29 t394.length co29 : Value).ownBlock) ∧ some k_ ≠ (.slice Ao42 x9_1.length co42 : Value).ownBlock) ∧ some k_ ≠ (.slice Ao50 x10_1.length co50 : Value).ownBlock) ∧ some k_ ≠ (.slice Ao59 x11_1.length co59 : Value).ownBlock) ∧ some k_ ≠ (.slice Ao38 t415.length co38 : Value).ownBlock) ∧ some k_ ≠ (.slice Ao45 t421.length co45 : Value).ownBlock) ∧ some k_ ≠ (.slice Ao53 t427.length co53 : Value).ownBlock) ∧ some k_ ≠ (.slice Ao62 t433.length co62 : Value).ownBlock)) (n := t409.length) (c := co32) ?_).2.2; exact (by (with_reducible repeat (first | apply Kd.R_alloc | apply Kd.R_drewN | apply Kd.R_drew)); exact (Kd.R_mono (Kd.R_far (p := ⟨gb438, 1, none⟩) (Kd.R_far (p := ⟨gb438, 0, none⟩) (Kd.R_types HO411.out BK438.out (by decide)) (fun _ hk => hk.2) (.slice Ao62 t433.length co62)) (fun _ hk => hk.2) (.int .i64 t436)) (fun _ h_ => h_.1)))) : p := h
theorem qyb_1 {p : Prop} (h : p := by (with_reducible repeat (first | refine blk_drewN ?_ _ | refine blk_drew ?_ | refine blk_alloc ?_ _)); refine blk_put (cs := #[.slice Ao62 t433.length co62, .int .i64 0]) ?_ 1 _ rfl; (with_reducible repeat (first | refine blk_drewN ?_ _ | refine blk_drew ?_ | refine blk_alloc ?_ _)); refine blk_put (cs := #[.slice none 0 0, .int .i64 0]) ?_ 0 _ rfl; (with_reducible repeat (first | refine blk_drewN ?_ _ | refine blk_drew ?_ | refine blk_alloc ?_ _)); exact BK438.out) : p := h
theorem qyb_2 {p : Prop} (h : p := by refine (Kd.R_reads' (e := 3) (base := w.heap.size) (ok := fun k_ => ((((((((True ∧ some k_ ≠ (.slice Ao29 t394.length co29 : Value).ownBlock) ∧ some k_ ≠ (.slice Ao42 x9_1.length co42 : Value).ownBlock) ∧ some k_ ≠ (.slice Ao50 x10_1.length co50 : Value).ownBlock) ∧ some k_ ≠ (.slice Ao59 x11_1.length co59 : Value).ownBlock) ∧ some k_ ≠ (.slice Ao32 t409.length co32 : Value).ownBlock) ∧ some k_ ≠ (.slice Ao38 t415.length co38 : Value).ownBlock) ∧ some k_ ≠ (.slice Ao53 t427.length co53 : Value).ownBlock) ∧ some k_ ≠ (.slice Ao62 t433.length co62 : Value).ownBlock)) (n := t421.length) (c := co45) ?_).2.2; exact (by (with_reducible repeat (first | apply Kd.R_alloc | apply Kd.R_drewN | apply Kd.R_drew)); exact (Kd.R_mono (Kd.R_far (p := ⟨gb438, 1, none⟩) (Kd.R_far (p := ⟨gb438, 0, none⟩) (Kd.R_types HO423.out BK438.out (by decide)) (fun _ hk => hk.2) (.slice Ao62 t433.length co62)) (fun _ hk => hk.2) (.int .i64 t436)) (fun _ h_ => h_.1)))) : p := h
theorem qyb_3 {p : Prop} (h : p := by (with_reducible repeat (first | refine blk_drewN ?_ _ | refine blk_drew ?_ | refine blk_alloc ?_ _)); refine blk_far ?_ NB392_438.out _; (with_reducible repeat (first | refine blk_drewN ?_ _ | refine blk_drew ?_ | refine blk_alloc ?_ _)); refine blk_far ?_ NB392_438.out _; (with_reducible repeat (first | refine blk_drewN ?_ _ | refine blk_drew ?_ | refine blk_alloc ?_ _)); exact BK392.out) : p := h
theorem qyb_4 {p : Prop} (h : p := by (with_reducible repeat (first | refine blk_drewN ?_ _ | refine blk_drew ?_ | refine blk_alloc ?_ _)); refine blk_far ?_ NB414_438.out _; (with_reducible repeat (first | refine blk_drewN ?_ _ | refine blk_drew ?_ | refine blk_alloc ?_ _)); refine blk_far ?_ NB414_438.out _; (with_reducible repeat (first | refine blk_drewN ?_ _ | refine blk_drew ?_ | refine blk_alloc ?_ _)); exact BK414.out) : p := h
theorem qyb_5 {p : Prop} (h : p := by (with_reducible repeat (first | refine blk_drewN ?_ _ | refine blk_drew ?_ | refine blk_alloc ?_ _)); refine blk_far ?_ NB420_438.out _; (with_reducible repeat (first | refine blk_drewN ?_ _ | refine blk_drew ?_ | refine blk_alloc ?_ _)); refine blk_far ?_ NB420_438.out _; (with_reducible repeat (first | refine blk_drewN ?_ _ | refine blk_drew ?_ | refine blk_alloc ?_ _)); exact BK420.out) : p := h
theorem qyb_6 {p : Prop} (h : p := by (with_reducible repeat (first | refine blk_drewN ?_ _ | refine blk_drew ?_ | refine blk_alloc ?_ _)); refine blk_far ?_ NB426_438.out _; (with_reducible repeat (first | refine blk_drewN ?_ _ | refine blk_drew ?_ | refine blk_alloc ?_ _)); refine blk_far ?_ NB426_438.out _; (with_reducible repeat (first | refine blk_drewN ?_ _ | refine blk_drew ?_ | refine blk_alloc ?_ _)); exact BK426.out) : p := h
theorem qyb_7 {p : Prop} (h : p := by (with_reducible repeat (first | refine blk_drewN ?_ _ | refine blk_drew ?_ | refine blk_alloc ?_ _)); refine blk_far ?_ NB432_438.out _; (with_reducible repeat (first | refine blk_drewN ?_ _ | refine blk_drew ?_ | refine blk_alloc ?_ _)); refine blk_far ?_ NB432_438.out _; (with_reducible repeat (first | refine blk_drewN ?_ _ | refine blk_drew ?_ | refine blk_alloc ?_ _)); exact BK432.out) : p := h
theorem qyb_8 {p : Prop} (h : p := by (with_reducible repeat (first | apply Kd.R_alloc | apply Kd.R_drewN | apply Kd.R_drew)); exact Kd.R_mono (Kd.R_far (p := ⟨gb438, 1, none⟩) (Kd.R_far (p := ⟨gb438, 0, none⟩) (Kd.R_types HO411.out BK438.out (by decide)) (fun _ hk => hk.2) (.slice Ao62 t433.length co62)) (fun _ hk => hk.2) (.int .i64 t436)) (fun _ hk => ⟨hk.1.1.1.1.2, ⟨hk.1.1.1.2, ⟨hk.1.1.2, hk.1.2⟩⟩⟩)) : p := h
theorem qyb_9 {p : Prop} (h : p := by (with_reducible repeat (first | apply Kd.R_alloc | apply Kd.R_drewN | apply Kd.R_drew)); exact Kd.R_mono (Kd.R_far (p := ⟨gb438, 1, none⟩) (Kd.R_far (p := ⟨gb438, 0, none⟩) (Kd.R_types HO417.out BK438.out (by decide)) (fun _ hk => hk.2) (.slice Ao62 t433.length co62)) (fun _ hk => hk.2) (.int .i64 t436)) (fun _ hk => ⟨hk.1.1.1.1.2, ⟨hk.1.1.1.2, ⟨hk.1.1.2, hk.1.2⟩⟩⟩)) : p := h
theorem qyb_10 {p : Prop} (h : p := by (with_reducible repeat (first | apply Kd.R_alloc | apply Kd.R_drewN | apply Kd.R_drew)); exact Kd.R_mono (Kd.R_far (p := ⟨gb438, 1, none⟩) (Kd.R_far (p := ⟨gb438, 0, none⟩) (Kd.R_types HO423.out BK438.out (by decide)) (fun _ hk => hk.2) (.slice Ao62 t433.length co62)) (fun _ hk => hk.2) (.int .i64 t436)) (fun _ hk => ⟨hk.1.1.1.1.2, ⟨hk.1.1.1.2, ⟨hk.1.1.2, hk.1.2⟩⟩⟩)) : p := h
theorem qyb_11 {p : Prop} (h : p := by (with_reducible repeat (first | apply Kd.R_alloc | apply Kd.R_drewN | apply Kd.R_drew)); exact Kd.R_mono (Kd.R_far (p := ⟨gb438, 1, none⟩) (Kd.R_far (p := ⟨gb438, 0, none⟩) (Kd.R_types HO429.out BK438.out (by decide)) (fun _ hk => hk.2) (.slice Ao62 t433.length co62)) (fun _ hk => hk.2) (.int .i64 t436)) (fun _ hk => ⟨hk.1.1.1.1.2, ⟨hk.1.1.1.2, ⟨hk.1.1.2, hk.1.2⟩⟩⟩)) : p := h
theorem qyb_12 {p : Prop} (h : p := by (with_reducible repeat (first | apply Kd.R_alloc | apply Kd.R_drewN | apply Kd.R_drew)); exact Kd.R_mono (Kd.R_far (p := ⟨gb438, 1, none⟩) (Kd.R_far (p := ⟨gb438, 0, none⟩) (Kd.R_types HO435.out BK438.out (by decide)) (fun _ hk => hk.2) (.slice Ao62 t433.length co62)) (fun _ hk => hk.2) (.int .i64 t436)) (fun _ hk => ⟨hk.1.1.1.1.2, ⟨hk.1.1.1.2, ⟨hk.1.1.2, hk.1.2⟩⟩⟩)) : p := h
theorem qyb_13 {p : Prop} (h : p := by repeat (first | (with_reducible first | exact HB.out | apply below_alloc | apply pw_below_drewN | apply below_drew1 | refine below_set ?_ GE392.out | refine below_set ?_ GE414.out | refine below_set ?_ GE420.out | refine below_set ?_ GE426.out | refine below_set ?_ GE432.out | refine below_set ?_ GE438.out) | exact HB.out)) : p := h
theorem qyb_14 {p : Prop} (h : p := by repeat (first | (with_reducible first | exact HB.out | apply below_alloc | apply pw_below_drewN | apply below_drew1 | refine below_set ?_ GE392.out) | exact HB.out)) : p := h
theorem qyb_15 {p : Prop} (h : p := by (with_reducible repeat (first | refine blk_drewN ?_ _ | refine blk_drew ?_ | refine blk_alloc ?_ _)); exact BK392.out) : p := h
theorem qyb_16 {p : Prop} (h : p := by refine (Kd.R_reads' (e := 3) (base := w.heap.size) (ok := fun k_ => ((((((((True ∧ some k_ ≠ (.slice Ao29 t394.length co29 : Value).ownBlock) ∧ some k_ ≠ (.slice Ao42 x9_1.length co42 : Value).ownBlock) ∧ some k_ ≠ (.slice Ao50 x10_1.length co50 : Value).ownBlock) ∧ some k_ ≠ (.slice Ao59 x11_1.length co59 : Value).ownBlock) ∧ some k_ ≠ (.slice Ao32 t409.length co32 : Value).ownBlock) ∧ some k_ ≠ (.slice Ao38 t415.length co38 : Value).ownBlock) ∧ some k_ ≠ (.slice Ao45 t421.length co45 : Value).ownBlock) ∧ some k_ ≠ (.slice Ao62 t433.length co62 : Value).ownBlock)) (n := t427.length) (c := co53) ?_).2.2; exact (by (with_reducible repeat (first | apply Kd.R_alloc | apply Kd.R_drewN | apply Kd.R_drew)); exact (Kd.R_mono (Kd.R_far (p := ⟨gb438, 1, none⟩) (Kd.R_far (p := ⟨gb438, 0, none⟩) (Kd.R_types HO429.out BK438.out (by decide)) (fun _ hk => hk.2) (.slice Ao62 t433.length co62)) (fun _ hk => hk.2) (.int .i64 t436)) (fun _ h_ => h_.1)))) : p := h
theorem qyb_17 {p : Prop} (h : p := by (with_reducible repeat (first | refine blk_drewN ?_ _ | refine blk_drew ?_ | refine blk_alloc ?_ _)); exact BK414.out) : p := h
theorem qyb_18 {p : Prop} (h : p := by repeat (first | (with_reducible first | exact HB.out | apply below_alloc | apply pw_below_drewN | apply below_drew1 | refine below_set ?_ GE392.out | refine below_set ?_ GE414.out | refine below_set ?_ GE420.out | refine below_set ?_ GE426.out | refine below_set ?_ GE432.out) | exact HB.out)) : p := h
theorem qyb_19 {p : Prop} (h : p := by repeat (first | (with_reducible first | exact HB.out | apply below_alloc | apply pw_below_drewN | apply below_drew1 | refine below_set ?_ GE392.out | refine below_set ?_ GE414.out | refine below_set ?_ GE420.out | refine below_set ?_ GE426.out) | exact HB.out)) : p := h
theorem qyb_20 {p : Prop} (h : p := by (try simp only [List.map_toArray, List.map_cons, List.map_nil]); first | done | rfl | (simp only [List.length_drop, List.length_take]; rfl)) : p := h
theorem qyb_21 {p : Prop} (h : p := by (with_reducible repeat (first | refine blk_drewN ?_ _ | refine blk_drew ?_ | refine blk_alloc ?_ _)); exact BK420.out) : p := h
theorem qyb_22 {p : Prop} (h : p := by (with_reducible repeat (first | apply Kd.R_alloc | apply Kd.R_drewN | apply Kd.R_drew)); exact HO_7.out) : p := h
theorem qyb_23 {p : Prop} (h : p := by repeat (first | (with_reducible first | exact HB.out | apply below_alloc | apply pw_below_drewN | apply below_drew1 | refine below_set ?_ GE392.out | refine below_set ?_ GE414.out | refine below_set ?_ GE420.out) | exact HB.out)) : p := h
theorem qyb_24 {p : Prop} (h : p := by (with_reducible repeat (first | apply Kd.R_alloc | apply Kd.R_drewN | apply Kd.R_drew)); exact HO_11.out) : p := h
theorem qyb_25 {p : Prop} (h : p := by repeat (first | (with_reducible first | exact HB.out | apply below_alloc | apply pw_below_drewN | apply below_drew1 | refine below_set ?_ GE392.out | refine below_set ?_ GE414.out) | exact HB.out)) : p := h
theorem qyb_26 {p : Prop} (h : p := by (with_reducible repeat (first | apply Kd.R_alloc | apply Kd.R_drewN | apply Kd.R_drew)); exact HO_10.out) : p := h
theorem qyb_27 {p : Prop} (h : p := by (with_reducible repeat (first | apply Kd.R_alloc | apply Kd.R_drewN | apply Kd.R_drew)); exact HO_9.out) : p := h
theorem qyb_28 {p : Prop} (h : p := by (with_reducible repeat (first | apply Kd.R_alloc | apply Kd.R_drewN | apply Kd.R_drew)); exact (Kd.R_mono (Kd.R_far (p := ⟨gb426, 1, none⟩) (Kd.R_far (p := ⟨gb426, 0, none⟩) (Kd.R_types HO_10.out BK426.out (by decide)) (fun _ hk => hk.2) (.slice Ao45 t421.length co45)) (fun _ hk => hk.2) (.int .i64 t424)) (fun _ h_ => h_.1))) : p := h
theorem qyb_29 {p : Prop} (h : p := by (with_reducible repeat (first | apply Kd.R_alloc | apply Kd.R_drewN | apply Kd.R_drew)); exact (Kd.R_mono (Kd.R_far (p := ⟨gb432, 1, none⟩) (Kd.R_far (p := ⟨gb432, 0, none⟩) (Kd.R_types HO_11.out BK432.out (by decide)) (fun _ hk => hk.2) (.slice Ao53 t427.length co53)) (fun _ hk => hk.2) (.int .i64 t430)) (fun _ h_ => h_.1))) : p := h
theorem qyb_30 {p : Prop} (h : p := by (with_reducible repeat (first | apply Kd.R_alloc | apply Kd.R_drewN | apply Kd.R_drew)); exact (Kd.R_mono (Kd.R_far (p := ⟨gb414, 1, none⟩) (Kd.R_far (p := ⟨gb414, 0, none⟩) (Kd.R_types HO_7.out BK414.out (by decide)) (fun _ hk => hk.2) (.slice Ao32 t409.length co32)) (fun _ hk => hk.2) (.int .i64 t412)) (fun _ h_ => h_.1))) : p := h
theorem qyb_31 {p : Prop} (h : p := by (with_reducible repeat (first | apply Kd.R_alloc | apply Kd.R_drewN | apply Kd.R_drew)); exact (Kd.R_mono (Kd.R_far (p := ⟨gb420, 1, none⟩) (Kd.R_far (p := ⟨gb420, 0, none⟩) (Kd.R_types HO_9.out BK420.out (by decide)) (fun _ hk => hk.2) (.slice Ao38 t415.length co38)) (fun _ hk => hk.2) (.int .i64 t418)) (fun _ h_ => h_.1))) : p := h
theorem qyb_32 {p : Prop} (h : p := by repeat (first | (with_reducible first | exact HB.out | apply below_alloc | apply pw_below_drewN | apply below_drew1) | exact HB.out)) : p := h
theorem qyb_33 {p : Prop} (h : p := by (with_reducible repeat (first | refine blk_drewN ?_ _ | refine blk_drew ?_ | refine blk_alloc ?_ _)); exact BK426.out) : p := h
theorem qyb_34 {p : Prop} (h : p := by first | rfl | (simp; done) | (simp [*]; done)) : p := h
theorem qyb_35 {p : Prop} (h : p := by have := HK1.out; first | omega | exact Nat.le_refl _) : p := h
theorem qyb_36 {p : Prop} (h : p := by (with_reducible repeat (first | apply Kd.R_alloc | apply Kd.R_drewN | apply Kd.R_drew)); exact HO411.out) : p := h
theorem qyb_37 {p : Prop} (h : p := by (with_reducible repeat (first | apply Kd.R_alloc | apply Kd.R_drewN | apply Kd.R_drew)); exact (Kd.R_mono (Kd.R_far (p := ⟨gb414, 1, none⟩) (Kd.R_far (p := ⟨gb414, 0, none⟩) (Kd.R_types HO_10.out BK414.out (by decide)) (fun _ hk => hk.2) (.slice Ao32 t409.length co32)) (fun _ hk => hk.2) (.int .i64 t412)) (fun _ h_ => h_.1))) : p := h
theorem qyb_38 {p : Prop} (h : p := by (with_reducible repeat (first | apply Kd.R_alloc | apply Kd.R_drewN | apply Kd.R_drew)); exact (Kd.R_mono (Kd.R_far (p := ⟨gb414, 1, none⟩) (Kd.R_far (p := ⟨gb414, 0, none⟩) (Kd.R_types HO_11.out BK414.out (by decide)) (fun _ hk => hk.2) (.slice Ao32 t409.length co32)) (fun _ hk => hk.2) (.int .i64 t412)) (fun _ h_ => h_.1))) : p := h
theorem qyb_39 {p : Prop} (h : p := by (with_reducible repeat (first | apply Kd.R_alloc | apply Kd.R_drewN | apply Kd.R_drew)); exact (Kd.R_mono (Kd.R_far (p := ⟨gb414, 1, none⟩) (Kd.R_far (p := ⟨gb414, 0, none⟩) (Kd.R_types HO411.out BK414.out (by decide)) (fun _ hk => hk.2) (.slice Ao32 t409.length co32)) (fun _ hk => hk.2) (.int .i64 t412)) (fun _ h_ => h_.1))) : p := h
theorem qyb_40 {p : Prop} (h : p := by (with_reducible repeat (first | apply Kd.R_alloc | apply Kd.R_drewN | apply Kd.R_drew)); exact (Kd.R_mono (Kd.R_far (p := ⟨gb420, 1, none⟩) (Kd.R_far (p := ⟨gb420, 0, none⟩) (Kd.R_types HO_10.out BK420.out (by decide)) (fun _ hk => hk.2) (.slice Ao38 t415.length co38)) (fun _ hk => hk.2) (.int .i64 t418)) (fun _ h_ => h_.1))) : p := h
theorem qyb_41 {p : Prop} (h : p := by (with_reducible repeat (first | apply Kd.R_alloc | apply Kd.R_drewN | apply Kd.R_drew)); exact (Kd.R_mono (Kd.R_far (p := ⟨gb420, 1, none⟩) (Kd.R_far (p := ⟨gb420, 0, none⟩) (Kd.R_types HO_11.out BK420.out (by decide)) (fun _ hk => hk.2) (.slice Ao38 t415.length co38)) (fun _ hk => hk.2) (.int .i64 t418)) (fun _ h_ => h_.1))) : p := h
theorem qyb_42 {p : Prop} (h : p := by (with_reducible repeat (first | apply Kd.R_alloc | apply Kd.R_drewN | apply Kd.R_drew)); exact (Kd.R_mono (Kd.R_far (p := ⟨gb420, 1, none⟩) (Kd.R_far (p := ⟨gb420, 0, none⟩) (Kd.R_types HO411.out BK420.out (by decide)) (fun _ hk => hk.2) (.slice Ao38 t415.length co38)) (fun _ hk => hk.2) (.int .i64 t418)) (fun _ h_ => h_.1))) : p := h
theorem qyb_43 {p : Prop} (h : p := by (with_reducible repeat (first | apply Kd.R_alloc | apply Kd.R_drewN | apply Kd.R_drew)); exact (Kd.R_mono (Kd.R_far (p := ⟨gb420, 1, none⟩) (Kd.R_far (p := ⟨gb420, 0, none⟩) (Kd.R_types HO417.out BK420.out (by decide)) (fun _ hk => hk.2) (.slice Ao38 t415.length co38)) (fun _ hk => hk.2) (.int .i64 t418)) (fun _ h_ => h_.1))) : p := h
theorem qyb_44 {p : Prop} (h : p := by (with_reducible repeat (first | apply Kd.R_alloc | apply Kd.R_drewN | apply Kd.R_drew)); exact (Kd.R_mono (Kd.R_far (p := ⟨gb426, 1, none⟩) (Kd.R_far (p := ⟨gb426, 0, none⟩) (Kd.R_types HO_11.out BK426.out (by decide)) (fun _ hk => hk.2) (.slice Ao45 t421.length co45)) (fun _ hk => hk.2) (.int .i64 t424)) (fun _ h_ => h_.1))) : p := h
theorem qyb_45 {p : Prop} (h : p := by (with_reducible repeat (first | apply Kd.R_alloc | apply Kd.R_drewN | apply Kd.R_drew)); exact (Kd.R_mono (Kd.R_far (p := ⟨gb426, 1, none⟩) (Kd.R_far (p := ⟨gb426, 0, none⟩) (Kd.R_types HO411.out BK426.out (by decide)) (fun _ hk => hk.2) (.slice Ao45 t421.length co45)) (fun _ hk => hk.2) (.int .i64 t424)) (fun _ h_ => h_.1))) : p := h
theorem qyb_46 {p : Prop} (h : p := by (with_reducible repeat (first | apply Kd.R_alloc | apply Kd.R_drewN | apply Kd.R_drew)); exact (Kd.R_mono (Kd.R_far (p := ⟨gb426, 1, none⟩) (Kd.R_far (p := ⟨gb426, 0, none⟩) (Kd.R_types HO417.out BK426.out (by decide)) (fun _ hk => hk.2) (.slice Ao45 t421.length co45)) (fun _ hk => hk.2) (.int .i64 t424)) (fun _ h_ => h_.1))) : p := h
theorem qyb_47 {p : Prop} (h : p := by (with_reducible repeat (first | apply Kd.R_alloc | apply Kd.R_drewN | apply Kd.R_drew)); exact (Kd.R_mono (Kd.R_far (p := ⟨gb426, 1, none⟩) (Kd.R_far (p := ⟨gb426, 0, none⟩) (Kd.R_types HO423.out BK426.out (by decide)) (fun _ hk => hk.2) (.slice Ao45 t421.length co45)) (fun _ hk => hk.2) (.int .i64 t424)) (fun _ h_ => h_.1))) : p := h
theorem qyb_48 {p : Prop} (h : p := by (with_reducible repeat (first | apply Kd.R_alloc | apply Kd.R_drewN | apply Kd.R_drew)); exact (Kd.R_mono (Kd.R_far (p := ⟨gb432, 1, none⟩) (Kd.R_far (p := ⟨gb432, 0, none⟩) (Kd.R_types HO_10.out BK432.out (by decide)) (fun _ hk => hk.2) (.slice Ao53 t427.length co53)) (fun _ hk => hk.2) (.int .i64 t430)) (fun _ h_ => h_.1))) : p := h
theorem qyb_49 {p : Prop} (h : p := by (with_reducible repeat (first | apply Kd.R_alloc | apply Kd.R_drewN | apply Kd.R_drew)); exact (Kd.R_mono (Kd.R_far (p := ⟨gb432, 1, none⟩) (Kd.R_far (p := ⟨gb432, 0, none⟩) (Kd.R_types HO411.out BK432.out (by decide)) (fun _ hk => hk.2) (.slice Ao53 t427.length co53)) (fun _ hk => hk.2) (.int .i64 t430)) (fun _ h_ => h_.1))) : p := h
theorem qyb_50 {p : Prop} (h : p := by (with_reducible repeat (first | apply Kd.R_alloc | apply Kd.R_drewN | apply Kd.R_drew)); exact (Kd.R_mono (Kd.R_far (p := ⟨gb432, 1, none⟩) (Kd.R_far (p := ⟨gb432, 0, none⟩) (Kd.R_types HO417.out BK432.out (by decide)) (fun _ hk => hk.2) (.slice Ao53 t427.length co53)) (fun _ hk => hk.2) (.int .i64 t430)) (fun _ h_ => h_.1))) : p := h
theorem qyb_51 {p : Prop} (h : p := by (with_reducible repeat (first | apply Kd.R_alloc | apply Kd.R_drewN | apply Kd.R_drew)); exact (Kd.R_mono (Kd.R_far (p := ⟨gb432, 1, none⟩) (Kd.R_far (p := ⟨gb432, 0, none⟩) (Kd.R_types HO423.out BK432.out (by decide)) (fun _ hk => hk.2) (.slice Ao53 t427.length co53)) (fun _ hk => hk.2) (.int .i64 t430)) (fun _ h_ => h_.1))) : p := h
theorem qyb_52 {p : Prop} (h : p := by (with_reducible repeat (first | apply Kd.R_alloc | apply Kd.R_drewN | apply Kd.R_drew)); exact (Kd.R_mono (Kd.R_far (p := ⟨gb432, 1, none⟩) (Kd.R_far (p := ⟨gb432, 0, none⟩) (Kd.R_types HO429.out BK432.out (by decide)) (fun _ hk => hk.2) (.slice Ao53 t427.length co53)) (fun _ hk => hk.2) (.int .i64 t430)) (fun _ h_ => h_.1))) : p := h
theorem qyb_53 {p : Prop} (h : p := by (with_reducible repeat (first | apply Kd.R_alloc | apply Kd.R_drewN | apply Kd.R_drew)); exact (Kd.R_mono (Kd.R_far (p := ⟨gb414, 1, none⟩) (Kd.R_far (p := ⟨gb414, 0, none⟩) (Kd.R_types HO_9.out BK414.out (by decide)) (fun _ hk => hk.2) (.slice Ao32 t409.length co32)) (fun _ hk => hk.2) (.int .i64 t412)) (fun _ h_ => h_.1))) : p := h
theorem qyb_54 {p : Prop} (h : p := by (with_reducible repeat (first | apply Kd.R_alloc | apply Kd.R_drewN | apply Kd.R_drew)); exact (Kd.R_mono (Kd.R_far (p := ⟨gb420, 1, none⟩) (Kd.R_far (p := ⟨gb420, 0, none⟩) (Kd.R_types HO_7.out BK420.out (by decide)) (fun _ hk => hk.2) (.slice Ao38 t415.length co38)) (fun _ hk => hk.2) (.int .i64 t418)) (fun _ h_ => h_.1))) : p := h
theorem qyb_55 {p : Prop} (h : p := by (with_reducible repeat (first | apply Kd.R_alloc | apply Kd.R_drewN | apply Kd.R_drew)); exact (Kd.R_mono (Kd.R_far (p := ⟨gb426, 1, none⟩) (Kd.R_far (p := ⟨gb426, 0, none⟩) (Kd.R_types HO_7.out BK426.out (by decide)) (fun _ hk => hk.2) (.slice Ao45 t421.length co45)) (fun _ hk => hk.2) (.int .i64 t424)) (fun _ h_ => h_.1))) : p := h
theorem qyb_56 {p : Prop} (h : p := by (with_reducible repeat (first | apply Kd.R_alloc | apply Kd.R_drewN | apply Kd.R_drew)); exact (Kd.R_mono (Kd.R_far (p := ⟨gb426, 1, none⟩) (Kd.R_far (p := ⟨gb426, 0, none⟩) (Kd.R_types HO_9.out BK426.out (by decide)) (fun _ hk => hk.2) (.slice Ao45 t421.length co45)) (fun _ hk => hk.2) (.int .i64 t424)) (fun _ h_ => h_.1))) : p := h
theorem qyb_57 {p : Prop} (h : p := by (with_reducible repeat (first | apply Kd.R_alloc | apply Kd.R_drewN | apply Kd.R_drew)); exact (Kd.R_mono (Kd.R_far (p := ⟨gb432, 1, none⟩) (Kd.R_far (p := ⟨gb432, 0, none⟩) (Kd.R_types HO_7.out BK432.out (by decide)) (fun _ hk => hk.2) (.slice Ao53 t427.length co53)) (fun _ hk => hk.2) (.int .i64 t430)) (fun _ h_ => h_.1))) : p := h
theorem qyb_58 {p : Prop} (h : p := by (with_reducible repeat (first | apply Kd.R_alloc | apply Kd.R_drewN | apply Kd.R_drew)); exact (Kd.R_mono (Kd.R_far (p := ⟨gb432, 1, none⟩) (Kd.R_far (p := ⟨gb432, 0, none⟩) (Kd.R_types HO_9.out BK432.out (by decide)) (fun _ hk => hk.2) (.slice Ao53 t427.length co53)) (fun _ hk => hk.2) (.int .i64 t430)) (fun _ h_ => h_.1))) : p := h
theorem qyb_59 {p : Prop} (h : p := by (with_reducible repeat (first | apply Kd.R_alloc | apply Kd.R_drewN | apply Kd.R_drew)); exact HO417.out) : p := h
theorem qyb_60 {p : Prop} (h : p := by first | exact Kd.R_nil _ _ _ _ _ | exact Kd.N_nil _ _ _ _ _ | exact Kd.V_nil _ _ _ _ _ | exact Kd.Q_nil _ _ _ _ _ | exact Kd.S_nil _ _ _ _ _) : p := h
theorem qyb_61 {p : Prop} (h : p := by first | (with_reducible assumption) | assumption) : p := h
theorem qyb_62 {p : Prop} (h : p := by (with_reducible repeat (first | refine blk_drewN ?_ _ | refine blk_drew ?_ | refine blk_alloc ?_ _)); exact BK432.out) : p := h
theorem qyb_63 {p : Prop} (h : p := by (with_reducible repeat (first | apply Kd.R_alloc | apply Kd.R_drewN | apply Kd.R_drew)); exact HO423.out) : p := h
theorem qyb_64 {p : Prop} (h : p := by (with_reducible repeat (first | apply Kd.R_alloc | apply Kd.R_drewN | apply Kd.R_drew)); exact Kd.R_mono HO_7.out (fun _ hk => ⟨⟨hk.1.2, hk.2⟩, hk.1.1⟩)) : p := h
theorem qyb_65 {p : Prop} (h : p := by first | (go_simp; done) | (go_simp; rfl)) : p := h
theorem qyb_66 {p : Prop} (h : p := by exact (Kd.R_reads' HO411.out).2.1) : p := h
/-! ### sleuthlaw44_SegmentationMoves: function 7 -/
mutual
def sleuthlaw44_SegmentationMoves.l0 : Nat → Int → List Int → Int → List Int → List Int → List Int → Int → Int → Int → Option (Bool)
 | 0, _, _, _, _, _, _, _, _, _ => none
 | k + 1, x2, x7, x8, x9, x10, x11, x12, x393000, x393001 => if x12 < (x7.length : Int) then (if 0 ≤ x12 then (if x9.length < 17592186044416 then (if x10.length < 17592186044416 then (if 0 ≤ (wrap64 ((wrap64 ((x7.length : Int) - 1)) - x12)) then (if (wrap64 ((wrap64 ((x7.length : Int) - 1)) - x12)) < (x7.length : Int) then (if x11.length < 17592186044416 then (sleuthlaw44_SegmentationMoves.l0 k x2 x7 x8 (x9 ++ [wrap64 ((rd x7 x12) + (wrap64 (x2)))]) (x10 ++ [wrap64 (-(rd x7 x12))]) (x11 ++ [rd x7 (wrap64 ((wrap64 ((x7.length : Int) - 1)) - x12))]) (wrap64 (x12 + 1)) x393000 x393001) else (none)) else (none)) else (none)) else (none)) else (none)) else (none)) else ((segmentation_Best.f k x7 x8).bind fun bt409 => ((segmentation_Best.f k x7 (wrap64 (x8 + (wrap64 (x393001))))).bind fun bt415 => ((segmentation_Best.f k x9 x8).bind fun bt421 => ((segmentation_Best.f k x10 x8).bind fun bt427 => ((segmentation_Best.f k x11 x8).bind fun bt433 => (if bt409.2.2 = 0 then (if bt415.2.2 = 0 then (if bt421.2.2 = 0 then (if bt427.2.2 = 0 then (if bt433.2.2 = 0 then (if (bt415.1.length : Int) ≤ (bt409.1.length : Int) then ((sleuthlaw44_same.f k bt421.1 bt409.1).bind fun t439 => (if t439 = true then (if bt421.2.1 = bt409.2.1 then ((sleuthlaw44_same.f k bt427.1 bt409.1).bind fun t440 => (if t440 = true then (if bt427.2.1 = bt409.2.1 then (sleuthlaw44_SegmentationMoves.j1 k (bt433.2.1 == bt409.2.1)) else (sleuthlaw44_SegmentationMoves.j1 k false)) else (sleuthlaw44_SegmentationMoves.j1 k false))) else (sleuthlaw44_SegmentationMoves.j1 k false)) else (sleuthlaw44_SegmentationMoves.j1 k false))) else (sleuthlaw44_SegmentationMoves.j1 k false)) else (sleuthlaw44_SegmentationMoves.j1 k false)) else (sleuthlaw44_SegmentationMoves.j1 k false)) else (sleuthlaw44_SegmentationMoves.j1 k false)) else (sleuthlaw44_SegmentationMoves.j1 k false)) else (sleuthlaw44_SegmentationMoves.j1 k false)))))))
def sleuthlaw44_SegmentationMoves.j1 : Nat → Bool → Option (Bool)
 | 0, _ => none
 | k + 1, x6 => some x6
end
def sleuthlaw44_SegmentationMoves.f (k : Nat) (l0 : List Int) (a1_0 : Int) (a1_1 : Int) (a2 : Int) : Option (Bool) := (sleuthlaw44_known.f k).bind fun t393 => (if t393 = true then ((sleuthlaw44_points.f k l0).bind fun t394 => (sleuthlaw44_SegmentationMoves.l0 k a2 t394 (wrap64 (Int.tmod a1_0 64)) ([] : List Int) ([] : List Int) ([] : List Int) 0 a1_0 a1_1)) else (some false))
theorem sleuthlaw44_SegmentationMoves.mono_l : ∀ k, (∀ y0 y1 y2 y3 y4 y5 y6 y7 y8, LeO (sleuthlaw44_SegmentationMoves.l0 k y0 y1 y2 y3 y4 y5 y6 y7 y8) (sleuthlaw44_SegmentationMoves.l0 (k + 1) y0 y1 y2 y3 y4 y5 y6 y7 y8)) ∧ (∀ y0, LeO (sleuthlaw44_SegmentationMoves.j1 k y0) (sleuthlaw44_SegmentationMoves.j1 (k + 1) y0))
 | 0 => ⟨fun _ _ _ _ _ _ _ _ _ r h => by simp [sleuthlaw44_SegmentationMoves.l0] at h, fun _ r h => by simp [sleuthlaw44_SegmentationMoves.j1] at h⟩
 | k + 1 => by
  obtain ⟨ih0, ih1⟩ := sleuthlaw44_SegmentationMoves.mono_l k
  refine ⟨?_, ?_⟩
  ·intro y0 y1 y2 y3 y4 y5 y6 y7 y8
   unfold sleuthlaw44_SegmentationMoves.l0
   repeat' first
   | (with_reducible exact ih0 _ _ _ _ _ _ _ _ _)
   | (with_reducible exact ih1 _)
   | (with_reducible exact segmentation_Best.mono _ _ _)
   | (with_reducible exact sleuthlaw44_known.mono _)
   | (with_reducible exact sleuthlaw44_points.mono _ _)
   | (with_reducible exact sleuthlaw44_same.mono _ _ _)
   | (with_reducible exact LeO.refl _)
   | (with_reducible exact LeO.none _)
   | (with_reducible refine LeO.ite ?_ ?_)
   | (with_reducible refine LeO.bind ?_ (fun _ => ?_))
   | exact ih0 _ _ _ _ _ _ _ _ _
   | exact ih1 _
   | exact segmentation_Best.mono _ _ _
   | exact sleuthlaw44_known.mono _
   | exact sleuthlaw44_points.mono _ _
   | exact sleuthlaw44_same.mono _ _ _
   | exact LeO.none _
   | refine LeO.ite ?_ ?_
   | refine LeO.bind ?_ (fun _ => ?_)
  ·intro y0
   unfold sleuthlaw44_SegmentationMoves.j1
   repeat' first
   | (with_reducible exact ih0 _ _ _ _ _ _ _ _ _)
   | (with_reducible exact ih1 _)
   | (with_reducible exact segmentation_Best.mono _ _ _)
   | (with_reducible exact sleuthlaw44_known.mono _)
   | (with_reducible exact sleuthlaw44_points.mono _ _)
   | (with_reducible exact sleuthlaw44_same.mono _ _ _)
   | (with_reducible exact LeO.refl _)
   | (with_reducible exact LeO.none _)
   | (with_reducible refine LeO.ite ?_ ?_)
   | (with_reducible refine LeO.bind ?_ (fun _ => ?_))
   | exact ih0 _ _ _ _ _ _ _ _ _
   | exact ih1 _
   | exact segmentation_Best.mono _ _ _
   | exact sleuthlaw44_known.mono _
   | exact sleuthlaw44_points.mono _ _
   | exact sleuthlaw44_same.mono _ _ _
   | exact LeO.none _
   | refine LeO.ite ?_ ?_
   | refine LeO.bind ?_ (fun _ => ?_)
theorem sleuthlaw44_SegmentationMoves.mono : ∀ a0 a1 a2 a3 k, LeO (sleuthlaw44_SegmentationMoves.f k a0 a1 a2 a3) (sleuthlaw44_SegmentationMoves.f (k + 1) a0 a1 a2 a3) := by
 intro a0 a1 a2 a3 k
 obtain ⟨ih0, ih1⟩ := sleuthlaw44_SegmentationMoves.mono_l k
 unfold sleuthlaw44_SegmentationMoves.f
 repeat' first
   | (with_reducible exact ih0 _ _ _ _ _ _ _ _ _)
   | (with_reducible exact ih1 _)
   | (with_reducible exact segmentation_Best.mono _ _ _)
   | (with_reducible exact sleuthlaw44_known.mono _)
   | (with_reducible exact sleuthlaw44_points.mono _ _)
   | (with_reducible exact sleuthlaw44_same.mono _ _ _)
   | (with_reducible exact LeO.refl _)
   | (with_reducible exact LeO.none _)
   | (with_reducible refine LeO.ite ?_ ?_)
   | (with_reducible refine LeO.bind ?_ (fun _ => ?_))
   | exact ih0 _ _ _ _ _ _ _ _ _
   | exact ih1 _
   | exact segmentation_Best.mono _ _ _
   | exact sleuthlaw44_known.mono _
   | exact sleuthlaw44_points.mono _ _
   | exact sleuthlaw44_same.mono _ _ _
   | exact LeO.none _
   | refine LeO.ite ?_ ?_
   | refine LeO.bind ?_ (fun _ => ?_)
def sleuthlaw44_SegmentationMoves.T3 : Bool × List (List Nat × List Nat) := (true, [([], []), ([0], [0]), ([], []), ([2], [2]), ([3], [3]), ([4], [4]), ([1, 1, 0, 1], [1]), ([5, 6, 0, 1, 2, 3, 4, 5, 6], [5])])
def sleuthlaw44_SegmentationMoves.B3 : List Nat := [0, 1, 0, 4, 12, 28, 3, 127]
theorem sleuthlaw44_SegmentationMoves.tab3 : rtab .any (opsOf Try.f7 3) = sleuthlaw44_SegmentationMoves.T3 := by kernel_rfl
theorem sleuthlaw44_SegmentationMoves.bits3 : waitsOk sleuthlaw44_SegmentationMoves.T3.2 sleuthlaw44_SegmentationMoves.B3 = true := by kernel_rfl
set_option maxHeartbeats 8000000 in
set_option maxRecDepth 100000 in
theorem sleuthlaw44_SegmentationMoves.calls (k : Nat) (A0 : Option Addr) (c0 : Nat) (l0 : List Int) (a1_0 : Int) (a1_1 : Int) (a2 : Int) (r : Bool) (w : World) (hr0 : Kd.C (Kd.int .u8) w A0 l0.length l0) (hc0 : l0.length ≤ c0) (h : sleuthlaw44_SegmentationMoves.f k l0 a1_0 a1_1 a2 = some r) :
  Calls Try.prog 7 #[.slice A0 l0.length c0, .agg #[.int .u8 a1_0, .int .u8 a1_1], .int .i16 a2] w fun e w' => e = .returned (.bool r) ∧ Below w.heap.size w w' := by
 have hu50 := Try.underlying50
 have hu27 := Try.underlying27
 have HR0 := Aside0.mk hr0
 have HC0 := Aside0.mk hc0
 clear hr0 hc0
 have HB := Aside0.mk (Below.refl w.heap.size w)
 have H : ((sleuthlaw44_known.f k).bind fun t393 => (if t393 = true then ((sleuthlaw44_points.f k l0).bind fun t394 => (sleuthlaw44_SegmentationMoves.l0 k a2 t394 (wrap64 (Int.tmod a1_0 64)) ([] : List Int) ([] : List Int) ([] : List Int) 0 a1_0 a1_1)) else (some false))) = some r := h
 clear h
 replace H := Option.bind_eq_some_iff.mp H
 obtain ⟨t393, A40, H⟩ := H
 replace H : (if t393 = true then ((sleuthlaw44_points.f k l0).bind fun t394 => (sleuthlaw44_SegmentationMoves.l0 k a2 t394 (wrap64 (Int.tmod a1_0 64)) ([] : List Int) ([] : List Int) ([] : List Int) 0 a1_0 a1_1)) else (some false)) = some r := H
 have A4 := Aside0.mk A40
 clear A40
 by_cases c5 : t393 = true
 ·subst c5
  have H1 : ((sleuthlaw44_points.f k l0).bind fun t394 => (sleuthlaw44_SegmentationMoves.l0 k a2 t394 (wrap64 (Int.tmod a1_0 64)) ([] : List Int) ([] : List Int) ([] : List Int) 0 a1_0 a1_1)) = some r := by rw [if_pos rfl] at H; exact H
  clear H
  have H := H1
  clear H1
  replace H := Option.bind_eq_some_iff.mp H
  obtain ⟨t394, A60, H⟩ := H
  replace H : (sleuthlaw44_SegmentationMoves.l0 k a2 t394 (wrap64 (Int.tmod a1_0 64)) ([] : List Int) ([] : List Int) ([] : List Int) 0 a1_0 a1_1) = some r := H
  have A6 := Aside0.mk A60
  clear A60
  have H' := Aside0.mk H
  clear H
  go_enter Try.func7, Try.ntmps7
  try go_wp2_with (first | ((with_reducible refine gate_dst (N := 4) rfl ?_); (try (refine gate_guard (by rfl) ?_; dsimp only)); refine box_event ?hg (N := 4) ?hd (cs := #[.int .u8 a1_0, .int .u8 a1_1]) (t := 50) ?hr ?_; (case hd => rfl); (case hg => rfl); (case hr => exact qyb_65); intro gb392 hg w7 hbox hb; have n0_ := Aside0.mk (below_step qyb_32 hb); have n1_ := Aside0.mk (hbox); have n2_ := Aside0.mk ((by rw [hg]; exact (below_size qyb_32) : w.heap.size ≤ gb392)); have n3_ := Aside0.mk ((by rw [hg]; exact (below_size qyb_32) : w.heap.size ≤ gb392)); clear HB; have HB := n0_; have BK392 := n1_; have GW392 := n2_; have GE392 := n3_; clear n0_ n1_ n2_ n3_; clear hb hbox hg) | ((with_reducible refine gate_callee (f := 13) rfl ?_); refine goesL_ (some 23) rfl rfl Try.func13 (by kernel_rfl) rfl #[] rfl qyb_20 ?_; (with_reducible refine (sleuthlaw44_known.calls k  true _ A4.out).mono ?_); rintro e w8 ⟨rfl, hb⟩; refine ⟨_, rfl, ?_⟩; have n0_ := Aside0.mk (blk_below (g := gb392) (o := .cells #[.int .u8 a1_0, .int .u8 a1_1] 50 (0, 0)) qyb_15 hb); have n1_ := Aside0.mk (below_step qyb_14 hb); clear BK392; clear HB; have BK392 := n0_; have HB := n1_; clear n0_ n1_; (try clear hb); (try clear hb2); (try clear hk); (try clear hi)))
  have n0_ := Aside0.mk (blk_drew BK392.out)
  have n1_ := Aside0.mk (below_drew1 HB.out)
  clear BK392
  clear HB
  have BK392 := n0_
  have HB := n1_
  clear n0_ n1_
  refine start_ (n := 8) (S := fun w' => w'.cell? ⟨gb392, 0, none⟩ = some (.int .u8 a1_0) ∧ w'.cell? ⟨gb392, 1, none⟩ = some (.int .u8 a1_1)) (ds := []) #[F, F, F, F, F, F, F, F] (by kernel_rfl) rfl rfl ⟨(blk_cell BK392.out 0).trans rfl, (blk_cell BK392.out 1).trans rfl⟩ (fun hHeld => ?_); refine with_tabW sleuthlaw44_SegmentationMoves.tab3 sleuthlaw44_SegmentationMoves.bits3 (fun HT_ HW_ => ?_)
  generalize w8.drew = w9 at BK392 HB hHeld ⊢
  refine pure_ (i := 0) (N := some 25) (v := ?_) (a' := ?_) #[T, F, F, F, F, F, F, F] rfl rfl (any_of HT_.out (by kernel_rfl)) (fun _ _ _ h => h) (Or.inl ⟨by rfl, ?_⟩) ?_ ?_
  rotate_left
  ·intro w'
   go_simp
   with_reducible rfl
  rotate_left
  ·simp only [Act.put, List.setIfInBounds_toArray, List.set_cons_zero, List.set_cons_succ, i64_w, i32_w]
   rfl
  refine pure_ (i := 2) (N := some 27) (v := ?_) (a' := ?_) #[T, F, T, F, F, F, F, F] rfl rfl (any_of HT_.out (by kernel_rfl)) (fun _ _ _ h => h) (Or.inl ⟨by rfl, ?_⟩) ?_ ?_
  rotate_left
  ·intro w'
   go_simp
   with_reducible rfl
  rotate_left
  ·simp only [Act.put, List.setIfInBounds_toArray, List.set_cons_zero, List.set_cons_succ, i64_w, i32_w]
   rfl
  refine take_ (i := 3) (N := some 28) (v := ?_) (a' := ?_) #[T, F, T, T, F, F, F, F] rfl rfl (take_ofW HT_.out HW_.out (by kernel_rfl)) (fun _ _ _ h => h) (Or.inl ⟨by rfl, ?_⟩) hHeld ?_ ?_
  rotate_left
  ·rintro w' ⟨s0, s1⟩
   go_simp
   with_reducible rfl
  rotate_left
  ·simp only [Act.put, List.setIfInBounds_toArray, List.set_cons_zero, List.set_cons_succ, i64_w, i32_w]
   rfl
  refine pure_ (i := 4) (N := some 29) (v := ?_) (a' := ?_) #[T, F, T, T, T, F, F, F] rfl rfl (any_of HT_.out (by kernel_rfl)) (fun _ _ _ h => h) (Or.inl ⟨by rfl, ?_⟩) ?_ ?_
  rotate_left
  ·intro w'
   go_simp
   with_reducible rfl
  rotate_left
  ·simp only [Act.put, List.setIfInBounds_toArray, List.set_cons_zero, List.set_cons_succ, i64_w, i32_w]
   rfl
  refine pure_ (i := 5) (N := some 30) (v := ?_) (a' := ?_) #[T, F, T, T, T, T, F, F] rfl rfl (any_of HT_.out (by kernel_rfl)) (fun _ _ _ h => h) (Or.inl ⟨by rfl, ?_⟩) ?_ ?_
  rotate_left
  ·intro w'
   go_simp
   with_reducible rfl
  rotate_left
  ·simp only [Act.put, List.setIfInBounds_toArray, List.set_cons_zero, List.set_cons_succ, i64_w, i32_w]
   rfl
  refine one_ (i := 1) (N := some 26) #[T, T, T, T, T, T, F, F] rfl rfl (one_of HT_.out (by kernel_rfl)) (by decide) (fun K hK => ?_)
  refine goes_ Try.func14 (by kernel_rfl) rfl #[.slice A0 l0.length c0] (by rfl) rfl rfl qyb_20 ?_
  with_reducible refine (sleuthlaw44_points.calls k _ _ l0 t394 _ ?side1 ?side2 A6.out).mono ?_
  (case side1 => repeat (first | exact (Kd.C_below HR0.out HB.out) | (with_reducible refine Kd.C_alloc ?_ _) | (with_reducible refine Kd.C_drewN ?_ _) | (with_reducible refine Kd.C_drew ?_)))
  (case side2 => exact HC0.out)
  rintro e w10 ⟨v395, rfl, ho0, hb⟩
  refine ⟨_, rfl, ?_⟩
  have n0_ := Aside0.mk (Kd.R_lower ho0 (below_size qyb_14))
  have n1_ := Aside0.mk (blk_below (g := gb392) (o := .cells #[.int .u8 a1_0, .int .u8 a1_1] 50 (0, 0)) qyb_15 hb)
  have n2_ := Aside0.mk (below_step qyb_14 hb)
  clear BK392
  clear HB
  have HO396 := n0_
  have BK392 := n1_
  have HB := n2_
  clear n0_ n1_ n2_
  (try clear hb)
  (try clear hb2)
  (try clear hk)
  (try clear hi)
  (try clear ho0)
  refine hK.out _ _ ⟨(blk_cell BK392.out 0).trans rfl, (blk_cell BK392.out 1).trans rfl⟩ (fun hHeld => ?_)
  clear hK K
  refine norm_ (a' := ?_) ?_ ?_
  rotate_left
  ·show Act.put _ (some 26) _ = _
   simp only [Act.put, List.setIfInBounds_toArray, List.set_cons_zero, List.set_cons_succ, i64_w, i32_w]
   rfl
  refine pure_ (i := 6) (N := some 7) (v := ?_) (a' := ?_) #[T, T, T, T, T, T, T, F] rfl rfl (any_of HT_.out (by kernel_rfl)) (fun _ _ _ h => h) (Or.inl ⟨by rfl, ?_⟩) ?_ ?_
  rotate_left
  ·intro w'
   go_simp
   with_reducible rfl
  rotate_left
  ·simp only [Act.put, List.setIfInBounds_toArray, List.set_cons_zero, List.set_cons_succ, i64_w, i32_w]
   rfl
  refine pure_ (i := 7) (N := some 8) (v := ?_) (a' := ?_) #[T, T, T, T, T, T, T, T] rfl rfl (any_of HT_.out (by kernel_rfl)) (fun _ _ _ h => h) (Or.inl ⟨by rfl, ?_⟩) ?_ ?_
  rotate_left
  ·intro w'
   go_simp
   with_reducible rfl
  rotate_left
  ·simp only [Act.put, List.setIfInBounds_toArray, List.set_cons_zero, List.set_cons_succ, i64_w, i32_w]
   rfl
  refine done_ (done_of HT_.out (by kernel_rfl)) ?_
  try go_wp2
  go_loopg [9, 10, 11, 12] k (fun kq v9 v10 v11 v12 w' => ∃ (x9_1 : List Int) (x10_1 : List Int) (x11_1 : List Int) (x12_1 : Int), v12 = .int .i64 x12_1 ∧ Aside0 (sleuthlaw44_SegmentationMoves.l0 kq a2 t394 (wrap64 (Int.tmod a1_0 64)) x9_1 x10_1 x11_1 x12_1 a1_0 a1_1 = some r) ∧ Aside0 (kq ≤ k) ∧ Aside0 (Kd.R (Kd.int .i64) 3 w' w.heap.size (fun k_ => some k_ ≠ (v9 : Value).ownBlock ∧ some k_ ≠ (v10 : Value).ownBlock ∧ some k_ ≠ (v11 : Value).ownBlock) v395 t394) ∧ Aside0 (Kd.R (Kd.int .i64) 3 w' w.heap.size (fun k_ => some k_ ≠ (v395 : Value).ownBlock ∧ some k_ ≠ (v10 : Value).ownBlock ∧ some k_ ≠ (v11 : Value).ownBlock) v9 x9_1) ∧ Aside0 (Kd.R (Kd.int .i64) 3 w' w.heap.size (fun k_ => some k_ ≠ (v395 : Value).ownBlock ∧ some k_ ≠ (v9 : Value).ownBlock ∧ some k_ ≠ (v11 : Value).ownBlock) v10 x10_1) ∧ Aside0 (Kd.R (Kd.int .i64) 3 w' w.heap.size (fun k_ => some k_ ≠ (v395 : Value).ownBlock ∧ some k_ ≠ (v9 : Value).ownBlock ∧ some k_ ≠ (v10 : Value).ownBlock) v11 x11_1) ∧ Aside0 (w'.heap[gb392]? = some (.cells #[.int .u8 a1_0, .int .u8 a1_1] 50 (0, 0))) ∧ Aside0 (Below w.heap.size w w'))
  case atStart => exact ⟨(([] : List Int)), (([] : List Int)), (([] : List Int)), (0), qyb_34, H', ⟨Nat.le_refl _⟩, ⟨by (with_reducible repeat (first | apply Kd.R_alloc | apply Kd.R_drewN | apply Kd.R_drew)); exact Kd.R_mono HO396.out (fun _ hk => ⟨(by simp [Value.ownBlock]), ⟨(by simp [Value.ownBlock]), (by simp [Value.ownBlock])⟩⟩)⟩, ⟨qyb_60⟩, ⟨qyb_60⟩, ⟨qyb_60⟩, ⟨qyb_15⟩, ⟨qyb_14⟩⟩
  case round =>
   clear H'
   try clear c1
   try clear p2
   try clear c5
   try clear p6
   try clear c7
   obtain ⟨x9_1, x10_1, x11_1, x12_1, rfl, HA, HK1, HO_7, HO_9, HO_10, HO_11, BK392, HB⟩ := hrel
   cases gk with
   | zero => exact absurd HA.out (by simp [sleuthlaw44_SegmentationMoves.l0])
   | succ k1 =>
    have H := HA.out
    clear HA
    simp only [sleuthlaw44_SegmentationMoves.l0] at H
    by_cases c11 : x12_1 < (t394.length : Int)
    ·rw [if_pos c11] at H
     have c11b0 : decide (x12_1 < (t394.length : Int)) = true := decide_eq_true c11
     clear c11
     by_cases c12 : 0 ≤ x12_1
     ·rw [if_pos c12] at H
      have c12b0 : decide (0 ≤ x12_1) = true := decide_eq_true c12
      clear c12
      by_cases c13 : x9_1.length < 17592186044416
      ·rw [if_pos c13] at H
       have LMc13 := Aside0.mk c13
       clear c13
       obtain ⟨y398, hy398⟩ : ∃ y_ : List Int, y_ = (x9_1 ++ [wrap64 ((rd t394 x12_1) + (wrap64 (a2)))]) := ⟨_, rfl⟩
       replace H : (if x10_1.length < 17592186044416 then (if 0 ≤ (wrap64 ((wrap64 ((t394.length : Int) - 1)) - x12_1)) then (if (wrap64 ((wrap64 ((t394.length : Int) - 1)) - x12_1)) < (t394.length : Int) then (if x11_1.length < 17592186044416 then (sleuthlaw44_SegmentationMoves.l0 k1 a2 t394 (wrap64 (Int.tmod a1_0 64)) y398 (x10_1 ++ [wrap64 (-(rd t394 x12_1))]) (x11_1 ++ [rd t394 (wrap64 ((wrap64 ((t394.length : Int) - 1)) - x12_1))]) (wrap64 (x12_1 + 1)) a1_0 a1_1) else (none)) else (none)) else (none)) else (none)) = some r := by first | (rw [hy398]; with_reducible exact H) | (have H2_ := (Option.bind_some _ _).symm.trans H; rw [hy398]; with_reducible exact H2_) | (have H2_ := (Option.bind_some _ _).symm.trans H; with_reducible exact H2_) | with_reducible exact H | (rw [hy398]; exact H) | exact H
       have Ny398 := Aside0.mk hy398
       clear hy398
       by_cases c14 : x10_1.length < 17592186044416
       ·rw [if_pos c14] at H
        have LMc14 := Aside0.mk c14
        clear c14
        obtain ⟨y402, hy402⟩ : ∃ y_ : List Int, y_ = (x10_1 ++ [wrap64 (-(rd t394 x12_1))]) := ⟨_, rfl⟩
        replace H : (if 0 ≤ (wrap64 ((wrap64 ((t394.length : Int) - 1)) - x12_1)) then (if (wrap64 ((wrap64 ((t394.length : Int) - 1)) - x12_1)) < (t394.length : Int) then (if x11_1.length < 17592186044416 then (sleuthlaw44_SegmentationMoves.l0 k1 a2 t394 (wrap64 (Int.tmod a1_0 64)) y398 y402 (x11_1 ++ [rd t394 (wrap64 ((wrap64 ((t394.length : Int) - 1)) - x12_1))]) (wrap64 (x12_1 + 1)) a1_0 a1_1) else (none)) else (none)) else (none)) = some r := by first | (rw [hy402]; with_reducible exact H) | (have H2_ := (Option.bind_some _ _).symm.trans H; rw [hy402]; with_reducible exact H2_) | (have H2_ := (Option.bind_some _ _).symm.trans H; with_reducible exact H2_) | with_reducible exact H | (rw [hy402]; exact H) | exact H
        have Ny402 := Aside0.mk hy402
        clear hy402
        obtain ⟨ji15, hji15⟩ : ∃ j_ : Int, (wrap64 ((wrap64 ((t394.length : Int) - 1)) - x12_1)) = j_ := ⟨_, rfl⟩
        replace H : (if 0 ≤ (ji15) then (if (ji15) < (t394.length : Int) then (if x11_1.length < 17592186044416 then (sleuthlaw44_SegmentationMoves.l0 k1 a2 t394 (wrap64 (Int.tmod a1_0 64)) y398 y402 (x11_1 ++ [rd t394 (ji15)]) (wrap64 (x12_1 + 1)) a1_0 a1_1) else (none)) else (none)) else (none)) = some r := by first | (rw [hji15] at H; exact H) | (simp only [hji15] at H ⊢; exact H)
        have hji15w : (IntKind.i64.wrap ((wrap64 ((t394.length : Int) - 1)) - x12_1)) = ji15 := (i64_w _).trans hji15
        by_cases c16 : 0 ≤ (ji15)
        ·rw [if_pos c16] at H
         have c16b0 : decide (0 ≤ (ji15)) = true := decide_eq_true c16
         clear c16
         by_cases c17 : (ji15) < (t394.length : Int)
         ·rw [if_pos c17] at H
          have c17b0 : decide ((ji15) < (t394.length : Int)) = true := decide_eq_true c17
          clear c17
          by_cases c18 : x11_1.length < 17592186044416
          ·rw [if_pos c18] at H
           have LMc18 := Aside0.mk c18
           clear c18
           obtain ⟨y406, hy406⟩ : ∃ y_ : List Int, y_ = (x11_1 ++ [rd t394 (ji15)]) := ⟨_, rfl⟩
           replace H : (sleuthlaw44_SegmentationMoves.l0 k1 a2 t394 (wrap64 (Int.tmod a1_0 64)) y398 y402 y406 (wrap64 (x12_1 + 1)) a1_0 a1_1) = some r := by first | (rw [hy406]; with_reducible exact H) | (have H2_ := (Option.bind_some _ _).symm.trans H; rw [hy406]; with_reducible exact H2_) | (have H2_ := (Option.bind_some _ _).symm.trans H; with_reducible exact H2_) | with_reducible exact H | (rw [hy406]; exact H) | exact H
           have Ny406 := Aside0.mk hy406
           clear hy406
           have H' := Aside0.mk H
           clear H
           obtain ⟨Ao19, co19, eo19⟩ := Kd.R_slice HO_7.out
           subst eo19
           have p397 : 0 ≤ (x12_1 : Int) := of_decide_eq_true qyb_61
           have q397 : x12_1 < (t394.length : Int) := of_decide_eq_true qyb_61
           obtain ⟨ad397, e397, hx397_0⟩ := Kd.at_int (Kd.R_reads' HO_7.out).2.2 x12_1 p397 q397
           cases e397
           replace p397 := eq_true p397
           replace q397 := eq_true q397
           go_wp2_with (first | ((with_reducible refine gate_builtin (b := .append) (xs := #[.tmp 37, .tmp 45]) rfl ?_); (try (refine gate_guard (by rfl) ?_; dsimp only)); at_builtin; refine Kd.R_append (Kd.int .i64) (w0 := w) w.heap.size rfl (.tmp 37) (.tmp 45) 24 3 (.int .i64 0) 8 rfl Try.underlying24 info3 rfl (by decide) (by omega) u9 x9_1 (wrap64 ((rd t394 x12_1) + (wrap64 (a2)))) [.int .i64 (wrap64 ((rd t394 x12_1) + (wrap64 (a2))))] (fun k_ => some k_ ≠ (.slice (some ad397) t394.length co19 : Value).ownBlock ∧ some k_ ≠ (u10 : Value).ownBlock ∧ some k_ ≠ (u11 : Value).ownBlock) (fun _ => False) rfl rfl ?aP (fun _ hk => hk.elim) ?aF ?aO ?aB ?aS ?aL ?_; (case aP => exact rfl); (case aB => exact qyb_14); (case aF => exact (fun k_ hk => ⟨Kd.fresh' (Kd.R_lt qyb_22) k_ hk, Kd.fresh' (Kd.R_lt qyb_26) k_ hk, Kd.fresh' (Kd.R_lt qyb_24) k_ hk⟩)); (case aO => exact qyb_27); (case aS => exact (below_size qyb_14)); (case aL => have := LMc13.out; omega); intro v399 w20 ho hb hg hat; rw [← Ny398.out] at ho; have n0_ := Aside0.mk (Kd.R_after (ok := (fun k_ => some k_ ≠ (u10 : Value).ownBlock ∧ some k_ ≠ (u11 : Value).ownBlock)) (by (with_reducible repeat (first | apply Kd.R_alloc | apply Kd.R_drewN | apply Kd.R_drew)); exact Kd.R_mono HO_7.out (fun _ hk => ⟨⟨hk.2.1, hk.2.2⟩, hk.1⟩)) hg hat); have n1_ := Aside0.mk (Kd.R_after (ok := (fun k_ => some k_ ≠ (.slice (some ad397) t394.length co19 : Value).ownBlock ∧ some k_ ≠ (u11 : Value).ownBlock)) (by (with_reducible repeat (first | apply Kd.R_alloc | apply Kd.R_drewN | apply Kd.R_drew)); exact Kd.R_mono HO_10.out (fun _ hk => ⟨⟨hk.1, hk.2.2⟩, hk.2.1⟩)) hg hat); have n2_ := Aside0.mk (Kd.R_after (ok := (fun k_ => some k_ ≠ (.slice (some ad397) t394.length co19 : Value).ownBlock ∧ some k_ ≠ (u10 : Value).ownBlock)) (by (with_reducible repeat (first | apply Kd.R_alloc | apply Kd.R_drewN | apply Kd.R_drew)); exact Kd.R_mono HO_11.out (fun _ hk => ⟨⟨hk.1, hk.2.2⟩, hk.2.1⟩)) hg hat); have n3_ := Aside0.mk (blk_grown (g := gb392) (o := .cells #[.int .u8 a1_0, .int .u8 a1_1] 50 (0, 0)) qyb_15 hg (Kd.R_ne HO_9.out BK392.out (by decide))); have n4_ := Aside0.mk (hb); have n5_ := Aside0.mk (ho); clear HO_7; clear HO_10; clear HO_11; clear BK392; clear HB; clear HO_9; have HO_7 := n0_; have HO_10 := n1_; have HO_11 := n2_; have BK392 := n3_; have HB := n4_; have HO400 := n5_; clear n0_ n1_ n2_ n3_ n4_ n5_; clear ho hb hg hat; have p401 : 0 ≤ (x12_1 : Int) := of_decide_eq_true qyb_61; have q401 : x12_1 < (t394.length : Int) := of_decide_eq_true qyb_61; obtain ⟨ad401, e401, hx401_0⟩ := Kd.at_int (Kd.R_reads' HO_7.out).2.2 x12_1 p401 q401; obtain rfl : ad397 = ad401 := (by injection e401); replace p401 := eq_true p401; replace q401 := eq_true q401) | ((with_reducible refine gate_builtin (b := .append) (xs := #[.tmp 47, .tmp 53]) rfl ?_); (try (refine gate_guard (by rfl) ?_; dsimp only)); at_builtin; refine Kd.R_append (Kd.int .i64) (w0 := w) w.heap.size rfl (.tmp 47) (.tmp 53) 24 3 (.int .i64 0) 8 rfl Try.underlying24 info3 rfl (by decide) (by omega) u10 x10_1 (wrap64 (-(rd t394 x12_1))) [.int .i64 (wrap64 (-(rd t394 x12_1)))] (fun k_ => some k_ ≠ (.slice (some ad397) t394.length co19 : Value).ownBlock ∧ some k_ ≠ (u11 : Value).ownBlock ∧ some k_ ≠ (v399 : Value).ownBlock) (fun _ => False) rfl rfl ?aP (fun _ hk => hk.elim) ?aF ?aO ?aB ?aS ?aL ?_; (case aP => exact rfl); (case aB => exact qyb_14); (case aF => exact (fun k_ hk => ⟨Kd.fresh' (Kd.R_lt qyb_22) k_ hk, Kd.fresh' (Kd.R_lt qyb_24) k_ hk, Kd.fresh' (Kd.R_lt (by (with_reducible repeat (first | apply Kd.R_alloc | apply Kd.R_drewN | apply Kd.R_drew)); exact HO400.out)) k_ hk⟩)); (case aO => exact (by (with_reducible repeat (first | apply Kd.R_alloc | apply Kd.R_drewN | apply Kd.R_drew)); exact Kd.R_mono HO_10.out (fun _ hk => ⟨hk.1.1, ⟨hk.1.2, hk.2⟩⟩))); (case aS => exact (below_size qyb_14)); (case aL => have := LMc14.out; omega); intro v403 w21 ho hb hg hat; rw [← Ny402.out] at ho; have n0_ := Aside0.mk (Kd.R_after (ok := (fun k_ => some k_ ≠ (u11 : Value).ownBlock ∧ some k_ ≠ (v399 : Value).ownBlock)) qyb_64 hg hat); have n1_ := Aside0.mk (Kd.R_after (ok := (fun k_ => some k_ ≠ (.slice (some ad397) t394.length co19 : Value).ownBlock ∧ some k_ ≠ (v399 : Value).ownBlock)) (by (with_reducible repeat (first | apply Kd.R_alloc | apply Kd.R_drewN | apply Kd.R_drew)); exact Kd.R_mono HO_11.out (fun _ hk => ⟨⟨hk.1.1, hk.2⟩, hk.1.2⟩)) hg hat); have n2_ := Aside0.mk (blk_grown (g := gb392) (o := .cells #[.int .u8 a1_0, .int .u8 a1_1] 50 (0, 0)) qyb_15 hg (Kd.R_ne HO_10.out BK392.out (by decide))); have n3_ := Aside0.mk (Kd.R_after (ok := (fun k_ => some k_ ≠ (.slice (some ad397) t394.length co19 : Value).ownBlock ∧ some k_ ≠ (u11 : Value).ownBlock)) (by (with_reducible repeat (first | apply Kd.R_alloc | apply Kd.R_drewN | apply Kd.R_drew)); exact Kd.R_mono HO400.out (fun _ hk => ⟨⟨hk.1, hk.2.2⟩, hk.2.1⟩)) hg hat); have n4_ := Aside0.mk (hb); have n5_ := Aside0.mk (ho); clear HO_7; clear HO_11; clear BK392; clear HO400; clear HB; clear HO_10; have HO_7 := n0_; have HO_11 := n1_; have BK392 := n2_; have HO400 := n3_; have HB := n4_; have HO404 := n5_; clear n0_ n1_ n2_ n3_ n4_ n5_; clear ho hb hg hat; have p405 : 0 ≤ ((ji15) : Int) := of_decide_eq_true qyb_61; have q405 : (ji15) < (t394.length : Int) := of_decide_eq_true qyb_61; obtain ⟨ad405, e405, hx405_0⟩ := Kd.at_int (Kd.R_reads' HO_7.out).2.2 (ji15) p405 q405; obtain rfl : ad397 = ad405 := (by injection e405); replace p405 := eq_true p405; replace q405 := eq_true q405) | ((with_reducible refine gate_builtin (b := .append) (xs := #[.tmp 55, .tmp 64]) rfl ?_); (try (refine gate_guard (by rfl) ?_; dsimp only)); at_builtin; refine Kd.R_append (Kd.int .i64) (w0 := w) w.heap.size rfl (.tmp 55) (.tmp 64) 24 3 (.int .i64 0) 8 rfl Try.underlying24 info3 rfl (by decide) (by omega) u11 x11_1 (rd t394 (ji15)) [.int .i64 (rd t394 (ji15))] (fun k_ => some k_ ≠ (.slice (some ad397) t394.length co19 : Value).ownBlock ∧ some k_ ≠ (v399 : Value).ownBlock ∧ some k_ ≠ (v403 : Value).ownBlock) (fun _ => False) rfl rfl ?aP (fun _ hk => hk.elim) ?aF ?aO ?aB ?aS ?aL ?_; (case aP => exact rfl); (case aB => exact qyb_14); (case aF => exact (fun k_ hk => ⟨Kd.fresh' (Kd.R_lt qyb_22) k_ hk, Kd.fresh' (Kd.R_lt (by (with_reducible repeat (first | apply Kd.R_alloc | apply Kd.R_drewN | apply Kd.R_drew)); exact HO400.out)) k_ hk, Kd.fresh' (Kd.R_lt (by (with_reducible repeat (first | apply Kd.R_alloc | apply Kd.R_drewN | apply Kd.R_drew)); exact HO404.out)) k_ hk⟩)); (case aO => exact (by (with_reducible repeat (first | apply Kd.R_alloc | apply Kd.R_drewN | apply Kd.R_drew)); exact Kd.R_mono HO_11.out (fun _ hk => ⟨hk.1.1, ⟨hk.1.2, hk.2⟩⟩))); (case aS => exact (below_size qyb_14)); (case aL => have := LMc18.out; omega); intro v407 w22 ho hb hg hat; rw [← Ny406.out] at ho; have n0_ := Aside0.mk (Kd.R_after (ok := (fun k_ => some k_ ≠ (v399 : Value).ownBlock ∧ some k_ ≠ (v403 : Value).ownBlock)) qyb_64 hg hat); have n1_ := Aside0.mk (blk_grown (g := gb392) (o := .cells #[.int .u8 a1_0, .int .u8 a1_1] 50 (0, 0)) qyb_15 hg (Kd.R_ne HO_11.out BK392.out (by decide))); have n2_ := Aside0.mk (Kd.R_after (ok := (fun k_ => some k_ ≠ (.slice (some ad397) t394.length co19 : Value).ownBlock ∧ some k_ ≠ (v403 : Value).ownBlock)) (by (with_reducible repeat (first | apply Kd.R_alloc | apply Kd.R_drewN | apply Kd.R_drew)); exact Kd.R_mono HO400.out (fun _ hk => ⟨⟨hk.1.1, hk.2⟩, hk.1.2⟩)) hg hat); have n3_ := Aside0.mk (Kd.R_after (ok := (fun k_ => some k_ ≠ (.slice (some ad397) t394.length co19 : Value).ownBlock ∧ some k_ ≠ (v399 : Value).ownBlock)) (by (with_reducible repeat (first | apply Kd.R_alloc | apply Kd.R_drewN | apply Kd.R_drew)); exact Kd.R_mono HO404.out (fun _ hk => ⟨⟨hk.1, hk.2.2⟩, hk.2.1⟩)) hg hat); have n4_ := Aside0.mk (hb); have n5_ := Aside0.mk (ho); clear HO_7; clear BK392; clear HO400; clear HO404; clear HB; clear HO_11; have HO_7 := n0_; have BK392 := n1_; have HO400 := n2_; have HO404 := n3_; have HB := n4_; have HO408 := n5_; clear n0_ n1_ n2_ n3_ n4_ n5_; clear ho hb hg hat))
           go_roundg k1
           case measure => have := HK1.out; omega
           case rel => exact ⟨(y398), (y402), (y406), (wrap64 (x12_1 + 1)), qyb_34, H', ⟨by have := HK1.out; omega⟩, ⟨by (with_reducible repeat (first | apply Kd.R_alloc | apply Kd.R_drewN | apply Kd.R_drew)); exact Kd.R_mono HO_7.out (fun _ hk => ⟨hk.1.1, ⟨hk.1.2, hk.2⟩⟩)⟩, ⟨by (with_reducible repeat (first | apply Kd.R_alloc | apply Kd.R_drewN | apply Kd.R_drew)); exact Kd.R_mono HO400.out (fun _ hk => ⟨hk.1.1, ⟨hk.1.2, hk.2⟩⟩)⟩, ⟨by (with_reducible repeat (first | apply Kd.R_alloc | apply Kd.R_drewN | apply Kd.R_drew)); exact Kd.R_mono HO404.out (fun _ hk => ⟨hk.1.1, ⟨hk.1.2, hk.2⟩⟩)⟩, ⟨by (with_reducible repeat (first | apply Kd.R_alloc | apply Kd.R_drewN | apply Kd.R_drew)); exact HO408.out⟩, ⟨qyb_15⟩, ⟨qyb_14⟩⟩
          ·rw [if_neg c18] at H
           exact absurd H (by simp)
         ·rw [if_neg c17] at H
          exact absurd H (by simp)
        ·rw [if_neg c16] at H
         exact absurd H (by simp)
       ·rw [if_neg c14] at H
        exact absurd H (by simp)
      ·rw [if_neg c13] at H
       exact absurd H (by simp)
     ·rw [if_neg c12] at H
      exact absurd H (by simp)
    ·rw [if_neg c11] at H
     have c11b0 : decide (x12_1 < (t394.length : Int)) = false := decide_eq_false c11
     clear c11
     replace H := Option.bind_eq_some_iff.mp H
     obtain ⟨⟨t409, t412, t413⟩, A230, H⟩ := H
     replace H : ((segmentation_Best.f k1 t394 (wrap64 ((wrap64 (Int.tmod a1_0 64)) + (wrap64 (a1_1))))).bind fun bt415 => ((segmentation_Best.f k1 x9_1 (wrap64 (Int.tmod a1_0 64))).bind fun bt421 => ((segmentation_Best.f k1 x10_1 (wrap64 (Int.tmod a1_0 64))).bind fun bt427 => ((segmentation_Best.f k1 x11_1 (wrap64 (Int.tmod a1_0 64))).bind fun bt433 => (if t413 = 0 then (if bt415.2.2 = 0 then (if bt421.2.2 = 0 then (if bt427.2.2 = 0 then (if bt433.2.2 = 0 then (if (bt415.1.length : Int) ≤ (t409.length : Int) then ((sleuthlaw44_same.f k1 bt421.1 t409).bind fun t439 => (if t439 = true then (if bt421.2.1 = t412 then ((sleuthlaw44_same.f k1 bt427.1 t409).bind fun t440 => (if t440 = true then (if bt427.2.1 = t412 then (sleuthlaw44_SegmentationMoves.j1 k1 (bt433.2.1 == t412)) else (sleuthlaw44_SegmentationMoves.j1 k1 false)) else (sleuthlaw44_SegmentationMoves.j1 k1 false))) else (sleuthlaw44_SegmentationMoves.j1 k1 false)) else (sleuthlaw44_SegmentationMoves.j1 k1 false))) else (sleuthlaw44_SegmentationMoves.j1 k1 false)) else (sleuthlaw44_SegmentationMoves.j1 k1 false)) else (sleuthlaw44_SegmentationMoves.j1 k1 false)) else (sleuthlaw44_SegmentationMoves.j1 k1 false)) else (sleuthlaw44_SegmentationMoves.j1 k1 false)) else (sleuthlaw44_SegmentationMoves.j1 k1 false)))))) = some r := H
     have A23 := Aside0.mk A230
     clear A230
     replace H := Option.bind_eq_some_iff.mp H
     obtain ⟨⟨t415, t418, t419⟩, A240, H⟩ := H
     replace H : ((segmentation_Best.f k1 x9_1 (wrap64 (Int.tmod a1_0 64))).bind fun bt421 => ((segmentation_Best.f k1 x10_1 (wrap64 (Int.tmod a1_0 64))).bind fun bt427 => ((segmentation_Best.f k1 x11_1 (wrap64 (Int.tmod a1_0 64))).bind fun bt433 => (if t413 = 0 then (if t419 = 0 then (if bt421.2.2 = 0 then (if bt427.2.2 = 0 then (if bt433.2.2 = 0 then (if (t415.length : Int) ≤ (t409.length : Int) then ((sleuthlaw44_same.f k1 bt421.1 t409).bind fun t439 => (if t439 = true then (if bt421.2.1 = t412 then ((sleuthlaw44_same.f k1 bt427.1 t409).bind fun t440 => (if t440 = true then (if bt427.2.1 = t412 then (sleuthlaw44_SegmentationMoves.j1 k1 (bt433.2.1 == t412)) else (sleuthlaw44_SegmentationMoves.j1 k1 false)) else (sleuthlaw44_SegmentationMoves.j1 k1 false))) else (sleuthlaw44_SegmentationMoves.j1 k1 false)) else (sleuthlaw44_SegmentationMoves.j1 k1 false))) else (sleuthlaw44_SegmentationMoves.j1 k1 false)) else (sleuthlaw44_SegmentationMoves.j1 k1 false)) else (sleuthlaw44_SegmentationMoves.j1 k1 false)) else (sleuthlaw44_SegmentationMoves.j1 k1 false)) else (sleuthlaw44_SegmentationMoves.j1 k1 false)) else (sleuthlaw44_SegmentationMoves.j1 k1 false))))) = some r := H
     have A24 := Aside0.mk A240
     clear A240
     replace H := Option.bind_eq_some_iff.mp H
     obtain ⟨⟨t421, t424, t425⟩, A250, H⟩ := H
     replace H : ((segmentation_Best.f k1 x10_1 (wrap64 (Int.tmod a1_0 64))).bind fun bt427 => ((segmentation_Best.f k1 x11_1 (wrap64 (Int.tmod a1_0 64))).bind fun bt433 => (if t413 = 0 then (if t419 = 0 then (if t425 = 0 then (if bt427.2.2 = 0 then (if bt433.2.2 = 0 then (if (t415.length : Int) ≤ (t409.length : Int) then ((sleuthlaw44_same.f k1 t421 t409).bind fun t439 => (if t439 = true then (if t424 = t412 then ((sleuthlaw44_same.f k1 bt427.1 t409).bind fun t440 => (if t440 = true then (if bt427.2.1 = t412 then (sleuthlaw44_SegmentationMoves.j1 k1 (bt433.2.1 == t412)) else (sleuthlaw44_SegmentationMoves.j1 k1 false)) else (sleuthlaw44_SegmentationMoves.j1 k1 false))) else (sleuthlaw44_SegmentationMoves.j1 k1 false)) else (sleuthlaw44_SegmentationMoves.j1 k1 false))) else (sleuthlaw44_SegmentationMoves.j1 k1 false)) else (sleuthlaw44_SegmentationMoves.j1 k1 false)) else (sleuthlaw44_SegmentationMoves.j1 k1 false)) else (sleuthlaw44_SegmentationMoves.j1 k1 false)) else (sleuthlaw44_SegmentationMoves.j1 k1 false)) else (sleuthlaw44_SegmentationMoves.j1 k1 false)))) = some r := H
     have A25 := Aside0.mk A250
     clear A250
     replace H := Option.bind_eq_some_iff.mp H
     obtain ⟨⟨t427, t430, t431⟩, A260, H⟩ := H
     replace H : ((segmentation_Best.f k1 x11_1 (wrap64 (Int.tmod a1_0 64))).bind fun bt433 => (if t413 = 0 then (if t419 = 0 then (if t425 = 0 then (if t431 = 0 then (if bt433.2.2 = 0 then (if (t415.length : Int) ≤ (t409.length : Int) then ((sleuthlaw44_same.f k1 t421 t409).bind fun t439 => (if t439 = true then (if t424 = t412 then ((sleuthlaw44_same.f k1 t427 t409).bind fun t440 => (if t440 = true then (if t430 = t412 then (sleuthlaw44_SegmentationMoves.j1 k1 (bt433.2.1 == t412)) else (sleuthlaw44_SegmentationMoves.j1 k1 false)) else (sleuthlaw44_SegmentationMoves.j1 k1 false))) else (sleuthlaw44_SegmentationMoves.j1 k1 false)) else (sleuthlaw44_SegmentationMoves.j1 k1 false))) else (sleuthlaw44_SegmentationMoves.j1 k1 false)) else (sleuthlaw44_SegmentationMoves.j1 k1 false)) else (sleuthlaw44_SegmentationMoves.j1 k1 false)) else (sleuthlaw44_SegmentationMoves.j1 k1 false)) else (sleuthlaw44_SegmentationMoves.j1 k1 false)) else (sleuthlaw44_SegmentationMoves.j1 k1 false))) = some r := H
     have A26 := Aside0.mk A260
     clear A260
     replace H := Option.bind_eq_some_iff.mp H
     obtain ⟨⟨t433, t436, t437⟩, A270, H⟩ := H
     replace H : (if t413 = 0 then (if t419 = 0 then (if t425 = 0 then (if t431 = 0 then (if t437 = 0 then (if (t415.length : Int) ≤ (t409.length : Int) then ((sleuthlaw44_same.f k1 t421 t409).bind fun t439 => (if t439 = true then (if t424 = t412 then ((sleuthlaw44_same.f k1 t427 t409).bind fun t440 => (if t440 = true then (if t430 = t412 then (sleuthlaw44_SegmentationMoves.j1 k1 (t436 == t412)) else (sleuthlaw44_SegmentationMoves.j1 k1 false)) else (sleuthlaw44_SegmentationMoves.j1 k1 false))) else (sleuthlaw44_SegmentationMoves.j1 k1 false)) else (sleuthlaw44_SegmentationMoves.j1 k1 false))) else (sleuthlaw44_SegmentationMoves.j1 k1 false)) else (sleuthlaw44_SegmentationMoves.j1 k1 false)) else (sleuthlaw44_SegmentationMoves.j1 k1 false)) else (sleuthlaw44_SegmentationMoves.j1 k1 false)) else (sleuthlaw44_SegmentationMoves.j1 k1 false)) else (sleuthlaw44_SegmentationMoves.j1 k1 false)) = some r := H
     have A27 := Aside0.mk A270
     clear A270
     have HC28 := Aside0.mk H
     clear H
     obtain ⟨Ao29, co29, eo29⟩ := Kd.R_slice HO_7.out
     subst eo29
     go_upto_region 16 with (first | ((with_reducible refine gate_callee (f := 15) rfl ?_); refine goesL_ (some 69) rfl rfl Try.func15 (by kernel_rfl) rfl #[.slice Ao29 t394.length co29, .int .i64 (wrap64 (Int.tmod a1_0 64))] rfl qyb_20 ?_; (with_reducible refine (segmentation_Best.calls k1 _ _ t394 (wrap64 (Int.tmod a1_0 64)) t409 t412 t413 _ ?side1 ?side2 A23.out).mono ?_); (case side1 => repeat (first | exact (Kd.R_reads' HO_7.out).2.2 | (with_reducible refine Kd.C_alloc ?_ _) | (with_reducible refine Kd.C_drewN ?_ _) | (with_reducible refine Kd.C_drew ?_))); (case side2 => exact (Kd.R_reads' HO_7.out).2.1); rintro e w30 ⟨v410, rfl, ho0, hb⟩; refine ⟨_, rfl, ?_⟩; have n0_ := Aside0.mk (Kd.R_elder' qyb_22 (Kd.R_base ho0) hb); have n1_ := Aside0.mk (Kd.R_elder' qyb_27 (Kd.R_base ho0) hb); have n2_ := Aside0.mk (Kd.R_elder' qyb_26 (Kd.R_base ho0) hb); have n3_ := Aside0.mk (Kd.R_elder' qyb_24 (Kd.R_base ho0) hb); have n4_ := Aside0.mk (Kd.R_lower (Kd.R_new' (Kd.R_new' (Kd.R_new' (Kd.R_new' ho0 (Kd.R_lt qyb_22)) (Kd.R_lt qyb_27)) (Kd.R_lt qyb_26)) (Kd.R_lt qyb_24)) (below_size qyb_14)); have n5_ := Aside0.mk (blk_below (g := gb392) (o := .cells #[.int .u8 a1_0, .int .u8 a1_1] 50 (0, 0)) qyb_15 hb); have n6_ := Aside0.mk (below_step qyb_14 hb); clear HO_7; clear HO_9; clear HO_10; clear HO_11; clear BK392; clear HB; have HO_7 := n0_; have HO_9 := n1_; have HO_10 := n2_; have HO_11 := n3_; have HO411 := n4_; have BK392 := n5_; have HB := n6_; clear n0_ n1_ n2_ n3_ n4_ n5_ n6_; (try clear hb); (try clear hb2); (try clear hk); (try clear hi); (try clear ho0)) | ((with_reducible refine gate_dst (N := 13) rfl ?_); (try (refine gate_guard (by rfl) ?_; dsimp only)); refine box_event ?hg (N := 13) ?hd (cs := #[.slice none 0 0, .int .i64 0]) (t := 27) ?hr ?_; (case hd => rfl); (case hg => rfl); (case hr => exact qyb_65); intro gb414 hg w31 hbox hb; have n0_ := Aside0.mk (Kd.R_below qyb_22 hb); have n1_ := Aside0.mk (Kd.R_below qyb_27 hb); have n2_ := Aside0.mk (Kd.R_below qyb_26 hb); have n3_ := Aside0.mk (Kd.R_below qyb_24 hb); have n4_ := Aside0.mk (Kd.R_below qyb_36 hb); have n5_ := Aside0.mk (blk_below (g := gb392) (o := .cells #[.int .u8 a1_0, .int .u8 a1_1] 50 (0, 0)) qyb_15 hb); have n6_ := Aside0.mk (below_step qyb_14 hb); have n7_ := Aside0.mk (hbox); have n8_ := Aside0.mk ((by rw [hg]; exact (below_size qyb_14) : w.heap.size ≤ gb414)); have n9_ := Aside0.mk ((by rw [hg]; exact (below_size qyb_14) : w.heap.size ≤ gb414)); have n10_ := Aside0.mk ((by rw [hg]; exact Nat.ne_of_lt (blk_lt (g := gb392) (o := .cells #[.int .u8 a1_0, .int .u8 a1_1] 50 (0, 0)) qyb_15) : gb392 ≠ gb414)); have n11_ := Aside0.mk ((by rw [hg]; exact Nat.ne_of_gt (blk_lt (g := gb392) (o := .cells #[.int .u8 a1_0, .int .u8 a1_1] 50 (0, 0)) qyb_15) : gb414 ≠ gb392)); clear HO_7; clear HO_9; clear HO_10; clear HO_11; clear HO411; clear BK392; clear HB; have HO_7 := n0_; have HO_9 := n1_; have HO_10 := n2_; have HO_11 := n3_; have HO411 := n4_; have BK392 := n5_; have HB := n6_; have BK414 := n7_; have GW414 := n8_; have GE414 := n9_; have NB392_414 := n10_; have NB414_392 := n11_; clear n0_ n1_ n2_ n3_ n4_ n5_ n6_ n7_ n8_ n9_ n10_ n11_; clear hb hbox hg; obtain ⟨Ao32, co32, eo32⟩ := Kd.R_slice HO411.out; subst eo32; have hnb33 := NB414_392.out; have hnc33 := NB392_414.out; have hcz34_0 : w31.cell? ⟨gb414, 0, none⟩ = some (.slice none 0 0) := (blk_cell BK414.out 0).trans rfl; have hcz34_1 : w31.cell? ⟨gb414, 1, none⟩ = some (.int .i64 0) := (blk_cell BK414.out 1).trans rfl; have hfz34_0 := blk_frozen BK414.out 0; have hfz34_1 := blk_frozen BK414.out 1; have hcz35_0 : w31.cell? ⟨gb392, 0, none⟩ = some (.int .u8 a1_0) := (blk_cell BK392.out 0).trans rfl; have hcz35_1 : w31.cell? ⟨gb392, 1, none⟩ = some (.int .u8 a1_1) := (blk_cell BK392.out 1).trans rfl; have hfz35_0 := blk_frozen BK392.out 0; have hfz35_1 := blk_frozen BK392.out 1) | ((with_reducible refine gate_callee (f := 15) rfl ?_); refine goesL_ (some 79) rfl rfl Try.func15 (by kernel_rfl) rfl #[.slice Ao29 t394.length co29, .int .i64 (wrap64 ((wrap64 (Int.tmod a1_0 64)) + (wrap64 (a1_1))))] rfl qyb_20 ?_; (with_reducible refine (segmentation_Best.calls k1 _ _ t394 (wrap64 ((wrap64 (Int.tmod a1_0 64)) + (wrap64 (a1_1)))) t415 t418 t419 _ ?side1 ?side2 A24.out).mono ?_); (case side1 => refine (Kd.R_reads' (e := 3) (base := w.heap.size) (ok := fun k_ => ((some k_ ≠ (u9 : Value).ownBlock ∧ (some k_ ≠ (u10 : Value).ownBlock ∧ some k_ ≠ (u11 : Value).ownBlock)) ∧ some k_ ≠ (.slice Ao32 t409.length co32 : Value).ownBlock)) (n := t394.length) (c := co29) ?_).2.2; exact qyb_30); (case side2 => exact (Kd.R_reads' HO_7.out).2.1); rintro e w36 ⟨v416, rfl, ho0, hb⟩; refine ⟨_, rfl, ?_⟩; have n0_ := Aside0.mk (Kd.R_elder' qyb_30 (Kd.R_base ho0) hb); have n1_ := Aside0.mk (Kd.R_elder' qyb_53 (Kd.R_base ho0) hb); have n2_ := Aside0.mk (Kd.R_elder' qyb_37 (Kd.R_base ho0) hb); have n3_ := Aside0.mk (Kd.R_elder' qyb_38 (Kd.R_base ho0) hb); have n4_ := Aside0.mk (Kd.R_elder' qyb_39 (Kd.R_base ho0) hb); have n5_ := Aside0.mk (Kd.R_lower (Kd.R_new' (Kd.R_new' (Kd.R_new' (Kd.R_new' (Kd.R_new' ho0 (Kd.R_lt qyb_30)) (Kd.R_lt qyb_53)) (Kd.R_lt qyb_37)) (Kd.R_lt qyb_38)) (Kd.R_lt qyb_39)) (below_size qyb_25)); have n6_ := Aside0.mk (blk_below (g := gb392) (o := .cells #[.int .u8 a1_0, .int .u8 a1_1] 50 (0, 0)) (by (with_reducible repeat (first | refine blk_drewN ?_ _ | refine blk_drew ?_ | refine blk_alloc ?_ _)); refine blk_far ?_ NB392_414.out _; (with_reducible repeat (first | refine blk_drewN ?_ _ | refine blk_drew ?_ | refine blk_alloc ?_ _)); refine blk_far ?_ NB392_414.out _; (with_reducible repeat (first | refine blk_drewN ?_ _ | refine blk_drew ?_ | refine blk_alloc ?_ _)); exact BK392.out) hb); have n7_ := Aside0.mk (blk_below (g := gb414) (o := .cells #[.slice Ao32 t409.length co32, .int .i64 t412] 27 (0, 0)) (by (with_reducible repeat (first | refine blk_drewN ?_ _ | refine blk_drew ?_ | refine blk_alloc ?_ _)); refine blk_put (cs := #[.slice Ao32 t409.length co32, .int .i64 0]) ?_ 1 _ rfl; (with_reducible repeat (first | refine blk_drewN ?_ _ | refine blk_drew ?_ | refine blk_alloc ?_ _)); refine blk_put (cs := #[.slice none 0 0, .int .i64 0]) ?_ 0 _ rfl; (with_reducible repeat (first | refine blk_drewN ?_ _ | refine blk_drew ?_ | refine blk_alloc ?_ _)); exact BK414.out) hb); have n8_ := Aside0.mk (below_step qyb_25 hb); clear HO_7; clear HO_9; clear HO_10; clear HO_11; clear HO411; clear BK392; clear BK414; clear HB; have HO_7 := n0_; have HO_9 := n1_; have HO_10 := n2_; have HO_11 := n3_; have HO411 := n4_; have HO417 := n5_; have BK392 := n6_; have BK414 := n7_; have HB := n8_; clear n0_ n1_ n2_ n3_ n4_ n5_ n6_ n7_ n8_; (try clear hb); (try clear hb2); (try clear hk); (try clear hi); (try clear ho0)) | ((with_reducible refine gate_dst (N := 15) rfl ?_); (try (refine gate_guard (by rfl) ?_; dsimp only)); refine box_event ?hg (N := 15) ?hd (cs := #[.slice none 0 0, .int .i64 0]) (t := 27) ?hr ?_; (case hd => rfl); (case hg => rfl); (case hr => exact qyb_65); intro gb420 hg w37 hbox hb; have n0_ := Aside0.mk (Kd.R_below qyb_22 hb); have n1_ := Aside0.mk (Kd.R_below qyb_27 hb); have n2_ := Aside0.mk (Kd.R_below qyb_26 hb); have n3_ := Aside0.mk (Kd.R_below qyb_24 hb); have n4_ := Aside0.mk (Kd.R_below qyb_36 hb); have n5_ := Aside0.mk (Kd.R_below qyb_59 hb); have n6_ := Aside0.mk (blk_below (g := gb392) (o := .cells #[.int .u8 a1_0, .int .u8 a1_1] 50 (0, 0)) qyb_15 hb); have n7_ := Aside0.mk (blk_below (g := gb414) (o := .cells #[.slice Ao32 t409.length co32, .int .i64 t412] 27 (0, 0)) qyb_17 hb); have n8_ := Aside0.mk (below_step qyb_25 hb); have n9_ := Aside0.mk (hbox); have n10_ := Aside0.mk ((by rw [hg]; exact (below_size qyb_25) : w.heap.size ≤ gb420)); have n11_ := Aside0.mk ((by rw [hg]; exact (below_size qyb_25) : w.heap.size ≤ gb420)); have n12_ := Aside0.mk ((by rw [hg]; exact Nat.ne_of_lt (blk_lt (g := gb392) (o := .cells #[.int .u8 a1_0, .int .u8 a1_1] 50 (0, 0)) qyb_15) : gb392 ≠ gb420)); have n13_ := Aside0.mk ((by rw [hg]; exact Nat.ne_of_gt (blk_lt (g := gb392) (o := .cells #[.int .u8 a1_0, .int .u8 a1_1] 50 (0, 0)) qyb_15) : gb420 ≠ gb392)); have n14_ := Aside0.mk ((by rw [hg]; exact Nat.ne_of_lt (blk_lt (g := gb414) (o := .cells #[.slice Ao32 t409.length co32, .int .i64 t412] 27 (0, 0)) qyb_17) : gb414 ≠ gb420)); have n15_ := Aside0.mk ((by rw [hg]; exact Nat.ne_of_gt (blk_lt (g := gb414) (o := .cells #[.slice Ao32 t409.length co32, .int .i64 t412] 27 (0, 0)) qyb_17) : gb420 ≠ gb414)); clear HO_7; clear HO_9; clear HO_10; clear HO_11; clear HO411; clear HO417; clear BK392; clear BK414; clear HB; have HO_7 := n0_; have HO_9 := n1_; have HO_10 := n2_; have HO_11 := n3_; have HO411 := n4_; have HO417 := n5_; have BK392 := n6_; have BK414 := n7_; have HB := n8_; have BK420 := n9_; have GW420 := n10_; have GE420 := n11_; have NB392_420 := n12_; have NB420_392 := n13_; have NB414_420 := n14_; have NB420_414 := n15_; clear n0_ n1_ n2_ n3_ n4_ n5_ n6_ n7_ n8_ n9_ n10_ n11_ n12_ n13_ n14_ n15_; clear hb hbox hg; obtain ⟨Ao38, co38, eo38⟩ := Kd.R_slice HO417.out; subst eo38; have hnb39 := NB420_392.out; have hnc39 := NB392_420.out; have hnb40 := NB420_414.out; have hnc40 := NB414_420.out; have hcz41_0 : w37.cell? ⟨gb420, 0, none⟩ = some (.slice none 0 0) := (blk_cell BK420.out 0).trans rfl; have hcz41_1 : w37.cell? ⟨gb420, 1, none⟩ = some (.int .i64 0) := (blk_cell BK420.out 1).trans rfl; have hfz41_0 := blk_frozen BK420.out 0; have hfz41_1 := blk_frozen BK420.out 1; obtain ⟨Ao42, co42, eo42⟩ := Kd.R_slice HO_9.out; subst eo42) | ((with_reducible refine gate_callee (f := 15) rfl ?_); refine goesL_ (some 85) rfl rfl Try.func15 (by kernel_rfl) rfl #[.slice Ao42 x9_1.length co42, .int .i64 (wrap64 (Int.tmod a1_0 64))] rfl qyb_20 ?_; (with_reducible refine (segmentation_Best.calls k1 _ _ x9_1 (wrap64 (Int.tmod a1_0 64)) t421 t424 t425 _ ?side1 ?side2 A25.out).mono ?_); (case side1 => refine (Kd.R_reads' (e := 3) (base := w.heap.size) (ok := fun k_ => (((some k_ ≠ (.slice Ao29 t394.length co29 : Value).ownBlock ∧ (some k_ ≠ (u10 : Value).ownBlock ∧ some k_ ≠ (u11 : Value).ownBlock)) ∧ some k_ ≠ (.slice Ao32 t409.length co32 : Value).ownBlock) ∧ some k_ ≠ (.slice Ao38 t415.length co38 : Value).ownBlock)) (n := x9_1.length) (c := co42) ?_).2.2; exact qyb_31); (case side2 => exact (Kd.R_reads' HO_9.out).2.1); rintro e w43 ⟨v422, rfl, ho0, hb⟩; refine ⟨_, rfl, ?_⟩; have n0_ := Aside0.mk (Kd.R_elder' qyb_54 (Kd.R_base ho0) hb); have n1_ := Aside0.mk (Kd.R_elder' qyb_31 (Kd.R_base ho0) hb); have n2_ := Aside0.mk (Kd.R_elder' qyb_40 (Kd.R_base ho0) hb); have n3_ := Aside0.mk (Kd.R_elder' qyb_41 (Kd.R_base ho0) hb); have n4_ := Aside0.mk (Kd.R_elder' qyb_42 (Kd.R_base ho0) hb); have n5_ := Aside0.mk (Kd.R_elder' qyb_43 (Kd.R_base ho0) hb); have n6_ := Aside0.mk (Kd.R_lower (Kd.R_new' (Kd.R_new' (Kd.R_new' (Kd.R_new' (Kd.R_new' (Kd.R_new' ho0 (Kd.R_lt qyb_54)) (Kd.R_lt qyb_31)) (Kd.R_lt qyb_40)) (Kd.R_lt qyb_41)) (Kd.R_lt qyb_42)) (Kd.R_lt qyb_43)) (below_size qyb_23)); have n7_ := Aside0.mk (blk_below (g := gb392) (o := .cells #[.int .u8 a1_0, .int .u8 a1_1] 50 (0, 0)) (by (with_reducible repeat (first | refine blk_drewN ?_ _ | refine blk_drew ?_ | refine blk_alloc ?_ _)); refine blk_far ?_ NB392_420.out _; (with_reducible repeat (first | refine blk_drewN ?_ _ | refine blk_drew ?_ | refine blk_alloc ?_ _)); refine blk_far ?_ NB392_420.out _; (with_reducible repeat (first | refine blk_drewN ?_ _ | refine blk_drew ?_ | refine blk_alloc ?_ _)); exact BK392.out) hb); have n8_ := Aside0.mk (blk_below (g := gb414) (o := .cells #[.slice Ao32 t409.length co32, .int .i64 t412] 27 (0, 0)) (by (with_reducible repeat (first | refine blk_drewN ?_ _ | refine blk_drew ?_ | refine blk_alloc ?_ _)); refine blk_far ?_ NB414_420.out _; (with_reducible repeat (first | refine blk_drewN ?_ _ | refine blk_drew ?_ | refine blk_alloc ?_ _)); refine blk_far ?_ NB414_420.out _; (with_reducible repeat (first | refine blk_drewN ?_ _ | refine blk_drew ?_ | refine blk_alloc ?_ _)); exact BK414.out) hb); have n9_ := Aside0.mk (blk_below (g := gb420) (o := .cells #[.slice Ao38 t415.length co38, .int .i64 t418] 27 (0, 0)) (by (with_reducible repeat (first | refine blk_drewN ?_ _ | refine blk_drew ?_ | refine blk_alloc ?_ _)); refine blk_put (cs := #[.slice Ao38 t415.length co38, .int .i64 0]) ?_ 1 _ rfl; (with_reducible repeat (first | refine blk_drewN ?_ _ | refine blk_drew ?_ | refine blk_alloc ?_ _)); refine blk_put (cs := #[.slice none 0 0, .int .i64 0]) ?_ 0 _ rfl; (with_reducible repeat (first | refine blk_drewN ?_ _ | refine blk_drew ?_ | refine blk_alloc ?_ _)); exact BK420.out) hb); have n10_ := Aside0.mk (below_step qyb_23 hb); clear HO_7; clear HO_9; clear HO_10; clear HO_11; clear HO411; clear HO417; clear BK392; clear BK414; clear BK420; clear HB; have HO_7 := n0_; have HO_9 := n1_; have HO_10 := n2_; have HO_11 := n3_; have HO411 := n4_; have HO417 := n5_; have HO423 := n6_; have BK392 := n7_; have BK414 := n8_; have BK420 := n9_; have HB := n10_; clear n0_ n1_ n2_ n3_ n4_ n5_ n6_ n7_ n8_ n9_ n10_; (try clear hb); (try clear hb2); (try clear hk); (try clear hi); (try clear ho0)) | ((with_reducible refine gate_dst (N := 17) rfl ?_); (try (refine gate_guard (by rfl) ?_; dsimp only)); refine box_event ?hg (N := 17) ?hd (cs := #[.slice none 0 0, .int .i64 0]) (t := 27) ?hr ?_; (case hd => rfl); (case hg => rfl); (case hr => exact qyb_65); intro gb426 hg w44 hbox hb; have n0_ := Aside0.mk (Kd.R_below qyb_22 hb); have n1_ := Aside0.mk (Kd.R_below qyb_27 hb); have n2_ := Aside0.mk (Kd.R_below qyb_26 hb); have n3_ := Aside0.mk (Kd.R_below qyb_24 hb); have n4_ := Aside0.mk (Kd.R_below qyb_36 hb); have n5_ := Aside0.mk (Kd.R_below qyb_59 hb); have n6_ := Aside0.mk (Kd.R_below qyb_63 hb); have n7_ := Aside0.mk (blk_below (g := gb392) (o := .cells #[.int .u8 a1_0, .int .u8 a1_1] 50 (0, 0)) qyb_15 hb); have n8_ := Aside0.mk (blk_below (g := gb414) (o := .cells #[.slice Ao32 t409.length co32, .int .i64 t412] 27 (0, 0)) qyb_17 hb); have n9_ := Aside0.mk (blk_below (g := gb420) (o := .cells #[.slice Ao38 t415.length co38, .int .i64 t418] 27 (0, 0)) qyb_21 hb); have n10_ := Aside0.mk (below_step qyb_23 hb); have n11_ := Aside0.mk (hbox); have n12_ := Aside0.mk ((by rw [hg]; exact (below_size qyb_23) : w.heap.size ≤ gb426)); have n13_ := Aside0.mk ((by rw [hg]; exact (below_size qyb_23) : w.heap.size ≤ gb426)); have n14_ := Aside0.mk ((by rw [hg]; exact Nat.ne_of_lt (blk_lt (g := gb392) (o := .cells #[.int .u8 a1_0, .int .u8 a1_1] 50 (0, 0)) qyb_15) : gb392 ≠ gb426)); have n15_ := Aside0.mk ((by rw [hg]; exact Nat.ne_of_gt (blk_lt (g := gb392) (o := .cells #[.int .u8 a1_0, .int .u8 a1_1] 50 (0, 0)) qyb_15) : gb426 ≠ gb392)); have n16_ := Aside0.mk ((by rw [hg]; exact Nat.ne_of_lt (blk_lt (g := gb414) (o := .cells #[.slice Ao32 t409.length co32, .int .i64 t412] 27 (0, 0)) qyb_17) : gb414 ≠ gb426)); have n17_ := Aside0.mk ((by rw [hg]; exact Nat.ne_of_gt (blk_lt (g := gb414) (o := .cells #[.slice Ao32 t409.length co32, .int .i64 t412] 27 (0, 0)) qyb_17) : gb426 ≠ gb414)); have n18_ := Aside0.mk ((by rw [hg]; exact Nat.ne_of_lt (blk_lt (g := gb420) (o := .cells #[.slice Ao38 t415.length co38, .int .i64 t418] 27 (0, 0)) qyb_21) : gb420 ≠ gb426)); have n19_ := Aside0.mk ((by rw [hg]; exact Nat.ne_of_gt (blk_lt (g := gb420) (o := .cells #[.slice Ao38 t415.length co38, .int .i64 t418] 27 (0, 0)) qyb_21) : gb426 ≠ gb420)); clear HO_7; clear HO_9; clear HO_10; clear HO_11; clear HO411; clear HO417; clear HO423; clear BK392; clear BK414; clear BK420; clear HB; have HO_7 := n0_; have HO_9 := n1_; have HO_10 := n2_; have HO_11 := n3_; have HO411 := n4_; have HO417 := n5_; have HO423 := n6_; have BK392 := n7_; have BK414 := n8_; have BK420 := n9_; have HB := n10_; have BK426 := n11_; have GW426 := n12_; have GE426 := n13_; have NB392_426 := n14_; have NB426_392 := n15_; have NB414_426 := n16_; have NB426_414 := n17_; have NB420_426 := n18_; have NB426_420 := n19_; clear n0_ n1_ n2_ n3_ n4_ n5_ n6_ n7_ n8_ n9_ n10_ n11_ n12_ n13_ n14_ n15_ n16_ n17_ n18_ n19_; clear hb hbox hg; obtain ⟨Ao45, co45, eo45⟩ := Kd.R_slice HO423.out; subst eo45; have hnb46 := NB426_392.out; have hnc46 := NB392_426.out; have hnb47 := NB426_414.out; have hnc47 := NB414_426.out; have hnb48 := NB426_420.out; have hnc48 := NB420_426.out; have hcz49_0 : w44.cell? ⟨gb426, 0, none⟩ = some (.slice none 0 0) := (blk_cell BK426.out 0).trans rfl; have hcz49_1 : w44.cell? ⟨gb426, 1, none⟩ = some (.int .i64 0) := (blk_cell BK426.out 1).trans rfl; have hfz49_0 := blk_frozen BK426.out 0; have hfz49_1 := blk_frozen BK426.out 1; obtain ⟨Ao50, co50, eo50⟩ := Kd.R_slice HO_10.out; subst eo50) | ((with_reducible refine gate_callee (f := 15) rfl ?_); refine goesL_ (some 91) rfl rfl Try.func15 (by kernel_rfl) rfl #[.slice Ao50 x10_1.length co50, .int .i64 (wrap64 (Int.tmod a1_0 64))] rfl qyb_20 ?_; (with_reducible refine (segmentation_Best.calls k1 _ _ x10_1 (wrap64 (Int.tmod a1_0 64)) t427 t430 t431 _ ?side1 ?side2 A26.out).mono ?_); (case side1 => refine (Kd.R_reads' (e := 3) (base := w.heap.size) (ok := fun k_ => ((((some k_ ≠ (.slice Ao29 t394.length co29 : Value).ownBlock ∧ (some k_ ≠ (.slice Ao42 x9_1.length co42 : Value).ownBlock ∧ some k_ ≠ (u11 : Value).ownBlock)) ∧ some k_ ≠ (.slice Ao32 t409.length co32 : Value).ownBlock) ∧ some k_ ≠ (.slice Ao38 t415.length co38 : Value).ownBlock) ∧ some k_ ≠ (.slice Ao45 t421.length co45 : Value).ownBlock)) (n := x10_1.length) (c := co50) ?_).2.2; exact qyb_28); (case side2 => exact (Kd.R_reads' HO_10.out).2.1); rintro e w51 ⟨v428, rfl, ho0, hb⟩; refine ⟨_, rfl, ?_⟩; have n0_ := Aside0.mk (Kd.R_elder' qyb_55 (Kd.R_base ho0) hb); have n1_ := Aside0.mk (Kd.R_elder' qyb_56 (Kd.R_base ho0) hb); have n2_ := Aside0.mk (Kd.R_elder' qyb_28 (Kd.R_base ho0) hb); have n3_ := Aside0.mk (Kd.R_elder' qyb_44 (Kd.R_base ho0) hb); have n4_ := Aside0.mk (Kd.R_elder' qyb_45 (Kd.R_base ho0) hb); have n5_ := Aside0.mk (Kd.R_elder' qyb_46 (Kd.R_base ho0) hb); have n6_ := Aside0.mk (Kd.R_elder' qyb_47 (Kd.R_base ho0) hb); have n7_ := Aside0.mk (Kd.R_lower (Kd.R_new' (Kd.R_new' (Kd.R_new' (Kd.R_new' (Kd.R_new' (Kd.R_new' (Kd.R_new' ho0 (Kd.R_lt qyb_55)) (Kd.R_lt qyb_56)) (Kd.R_lt qyb_28)) (Kd.R_lt qyb_44)) (Kd.R_lt qyb_45)) (Kd.R_lt qyb_46)) (Kd.R_lt qyb_47)) (below_size qyb_19)); have n8_ := Aside0.mk (blk_below (g := gb392) (o := .cells #[.int .u8 a1_0, .int .u8 a1_1] 50 (0, 0)) (by (with_reducible repeat (first | refine blk_drewN ?_ _ | refine blk_drew ?_ | refine blk_alloc ?_ _)); refine blk_far ?_ NB392_426.out _; (with_reducible repeat (first | refine blk_drewN ?_ _ | refine blk_drew ?_ | refine blk_alloc ?_ _)); refine blk_far ?_ NB392_426.out _; (with_reducible repeat (first | refine blk_drewN ?_ _ | refine blk_drew ?_ | refine blk_alloc ?_ _)); exact BK392.out) hb); have n9_ := Aside0.mk (blk_below (g := gb414) (o := .cells #[.slice Ao32 t409.length co32, .int .i64 t412] 27 (0, 0)) (by (with_reducible repeat (first | refine blk_drewN ?_ _ | refine blk_drew ?_ | refine blk_alloc ?_ _)); refine blk_far ?_ NB414_426.out _; (with_reducible repeat (first | refine blk_drewN ?_ _ | refine blk_drew ?_ | refine blk_alloc ?_ _)); refine blk_far ?_ NB414_426.out _; (with_reducible repeat (first | refine blk_drewN ?_ _ | refine blk_drew ?_ | refine blk_alloc ?_ _)); exact BK414.out) hb); have n10_ := Aside0.mk (blk_below (g := gb420) (o := .cells #[.slice Ao38 t415.length co38, .int .i64 t418] 27 (0, 0)) (by (with_reducible repeat (first | refine blk_drewN ?_ _ | refine blk_drew ?_ | refine blk_alloc ?_ _)); refine blk_far ?_ NB420_426.out _; (with_reducible repeat (first | refine blk_drewN ?_ _ | refine blk_drew ?_ | refine blk_alloc ?_ _)); refine blk_far ?_ NB420_426.out _; (with_reducible repeat (first | refine blk_drewN ?_ _ | refine blk_drew ?_ | refine blk_alloc ?_ _)); exact BK420.out) hb); have n11_ := Aside0.mk (blk_below (g := gb426) (o := .cells #[.slice Ao45 t421.length co45, .int .i64 t424] 27 (0, 0)) (by (with_reducible repeat (first | refine blk_drewN ?_ _ | refine blk_drew ?_ | refine blk_alloc ?_ _)); refine blk_put (cs := #[.slice Ao45 t421.length co45, .int .i64 0]) ?_ 1 _ rfl; (with_reducible repeat (first | refine blk_drewN ?_ _ | refine blk_drew ?_ | refine blk_alloc ?_ _)); refine blk_put (cs := #[.slice none 0 0, .int .i64 0]) ?_ 0 _ rfl; (with_reducible repeat (first | refine blk_drewN ?_ _ | refine blk_drew ?_ | refine blk_alloc ?_ _)); exact BK426.out) hb); have n12_ := Aside0.mk (below_step qyb_19 hb); clear HO_7; clear HO_9; clear HO_10; clear HO_11; clear HO411; clear HO417; clear HO423; clear BK392; clear BK414; clear BK420; clear BK426; clear HB; have HO_7 := n0_; have HO_9 := n1_; have HO_10 := n2_; have HO_11 := n3_; have HO411 := n4_; have HO417 := n5_; have HO423 := n6_; have HO429 := n7_; have BK392 := n8_; have BK414 := n9_; have BK420 := n10_; have BK426 := n11_; have HB := n12_; clear n0_ n1_ n2_ n3_ n4_ n5_ n6_ n7_ n8_ n9_ n10_ n11_ n12_; (try clear hb); (try clear hb2); (try clear hk); (try clear hi); (try clear ho0)) | ((with_reducible refine gate_dst (N := 19) rfl ?_); (try (refine gate_guard (by rfl) ?_; dsimp only)); refine box_event ?hg (N := 19) ?hd (cs := #[.slice none 0 0, .int .i64 0]) (t := 27) ?hr ?_; (case hd => rfl); (case hg => rfl); (case hr => exact qyb_65); intro gb432 hg w52 hbox hb; have n0_ := Aside0.mk (Kd.R_below qyb_22 hb); have n1_ := Aside0.mk (Kd.R_below qyb_27 hb); have n2_ := Aside0.mk (Kd.R_below qyb_26 hb); have n3_ := Aside0.mk (Kd.R_below qyb_24 hb); have n4_ := Aside0.mk (Kd.R_below qyb_36 hb); have n5_ := Aside0.mk (Kd.R_below qyb_59 hb); have n6_ := Aside0.mk (Kd.R_below qyb_63 hb); have n7_ := Aside0.mk (Kd.R_below (by (with_reducible repeat (first | apply Kd.R_alloc | apply Kd.R_drewN | apply Kd.R_drew)); exact HO429.out) hb); have n8_ := Aside0.mk (blk_below (g := gb392) (o := .cells #[.int .u8 a1_0, .int .u8 a1_1] 50 (0, 0)) qyb_15 hb); have n9_ := Aside0.mk (blk_below (g := gb414) (o := .cells #[.slice Ao32 t409.length co32, .int .i64 t412] 27 (0, 0)) qyb_17 hb); have n10_ := Aside0.mk (blk_below (g := gb420) (o := .cells #[.slice Ao38 t415.length co38, .int .i64 t418] 27 (0, 0)) qyb_21 hb); have n11_ := Aside0.mk (blk_below (g := gb426) (o := .cells #[.slice Ao45 t421.length co45, .int .i64 t424] 27 (0, 0)) qyb_33 hb); have n12_ := Aside0.mk (below_step qyb_19 hb); have n13_ := Aside0.mk (hbox); have n14_ := Aside0.mk ((by rw [hg]; exact (below_size qyb_19) : w.heap.size ≤ gb432)); have n15_ := Aside0.mk ((by rw [hg]; exact (below_size qyb_19) : w.heap.size ≤ gb432)); have n16_ := Aside0.mk ((by rw [hg]; exact Nat.ne_of_lt (blk_lt (g := gb392) (o := .cells #[.int .u8 a1_0, .int .u8 a1_1] 50 (0, 0)) qyb_15) : gb392 ≠ gb432)); have n17_ := Aside0.mk ((by rw [hg]; exact Nat.ne_of_gt (blk_lt (g := gb392) (o := .cells #[.int .u8 a1_0, .int .u8 a1_1] 50 (0, 0)) qyb_15) : gb432 ≠ gb392)); have n18_ := Aside0.mk ((by rw [hg]; exact Nat.ne_of_lt (blk_lt (g := gb414) (o := .cells #[.slice Ao32 t409.length co32, .int .i64 t412] 27 (0, 0)) qyb_17) : gb414 ≠ gb432)); have n19_ := Aside0.mk ((by rw [hg]; exact Nat.ne_of_gt (blk_lt (g := gb414) (o := .cells #[.slice Ao32 t409.length co32, .int .i64 t412] 27 (0, 0)) qyb_17) : gb432 ≠ gb414)); have n20_ := Aside0.mk ((by rw [hg]; exact Nat.ne_of_lt (blk_lt (g := gb420) (o := .cells #[.slice Ao38 t415.length co38, .int .i64 t418] 27 (0, 0)) qyb_21) : gb420 ≠ gb432)); have n21_ := Aside0.mk ((by rw [hg]; exact Nat.ne_of_gt (blk_lt (g := gb420) (o := .cells #[.slice Ao38 t415.length co38, .int .i64 t418] 27 (0, 0)) qyb_21) : gb432 ≠ gb420)); have n22_ := Aside0.mk ((by rw [hg]; exact Nat.ne_of_lt (blk_lt (g := gb426) (o := .cells #[.slice Ao45 t421.length co45, .int .i64 t424] 27 (0, 0)) qyb_33) : gb426 ≠ gb432)); have n23_ := Aside0.mk ((by rw [hg]; exact Nat.ne_of_gt (blk_lt (g := gb426) (o := .cells #[.slice Ao45 t421.length co45, .int .i64 t424] 27 (0, 0)) qyb_33) : gb432 ≠ gb426)); clear HO_7; clear HO_9; clear HO_10; clear HO_11; clear HO411; clear HO417; clear HO423; clear HO429; clear BK392; clear BK414; clear BK420; clear BK426; clear HB; have HO_7 := n0_; have HO_9 := n1_; have HO_10 := n2_; have HO_11 := n3_; have HO411 := n4_; have HO417 := n5_; have HO423 := n6_; have HO429 := n7_; have BK392 := n8_; have BK414 := n9_; have BK420 := n10_; have BK426 := n11_; have HB := n12_; have BK432 := n13_; have GW432 := n14_; have GE432 := n15_; have NB392_432 := n16_; have NB432_392 := n17_; have NB414_432 := n18_; have NB432_414 := n19_; have NB420_432 := n20_; have NB432_420 := n21_; have NB426_432 := n22_; have NB432_426 := n23_; clear n0_ n1_ n2_ n3_ n4_ n5_ n6_ n7_ n8_ n9_ n10_ n11_ n12_ n13_ n14_ n15_ n16_ n17_ n18_ n19_ n20_ n21_ n22_ n23_; clear hb hbox hg; obtain ⟨Ao53, co53, eo53⟩ := Kd.R_slice HO429.out; subst eo53; have hnb54 := NB432_392.out; have hnc54 := NB392_432.out; have hnb55 := NB432_414.out; have hnc55 := NB414_432.out; have hnb56 := NB432_420.out; have hnc56 := NB420_432.out; have hnb57 := NB432_426.out; have hnc57 := NB426_432.out; have hcz58_0 : w52.cell? ⟨gb432, 0, none⟩ = some (.slice none 0 0) := (blk_cell BK432.out 0).trans rfl; have hcz58_1 : w52.cell? ⟨gb432, 1, none⟩ = some (.int .i64 0) := (blk_cell BK432.out 1).trans rfl; have hfz58_0 := blk_frozen BK432.out 0; have hfz58_1 := blk_frozen BK432.out 1; obtain ⟨Ao59, co59, eo59⟩ := Kd.R_slice HO_11.out; subst eo59) | ((with_reducible refine gate_callee (f := 15) rfl ?_); refine goesL_ (some 97) rfl rfl Try.func15 (by kernel_rfl) rfl #[.slice Ao59 x11_1.length co59, .int .i64 (wrap64 (Int.tmod a1_0 64))] rfl qyb_20 ?_; (with_reducible refine (segmentation_Best.calls k1 _ _ x11_1 (wrap64 (Int.tmod a1_0 64)) t433 t436 t437 _ ?side1 ?side2 A27.out).mono ?_); (case side1 => refine (Kd.R_reads' (e := 3) (base := w.heap.size) (ok := fun k_ => (((((some k_ ≠ (.slice Ao29 t394.length co29 : Value).ownBlock ∧ (some k_ ≠ (.slice Ao42 x9_1.length co42 : Value).ownBlock ∧ some k_ ≠ (.slice Ao50 x10_1.length co50 : Value).ownBlock)) ∧ some k_ ≠ (.slice Ao32 t409.length co32 : Value).ownBlock) ∧ some k_ ≠ (.slice Ao38 t415.length co38 : Value).ownBlock) ∧ some k_ ≠ (.slice Ao45 t421.length co45 : Value).ownBlock) ∧ some k_ ≠ (.slice Ao53 t427.length co53 : Value).ownBlock)) (n := x11_1.length) (c := co59) ?_).2.2; exact qyb_29); (case side2 => exact (Kd.R_reads' HO_11.out).2.1); rintro e w60 ⟨v434, rfl, ho0, hb⟩; refine ⟨_, rfl, ?_⟩; have n0_ := Aside0.mk (Kd.R_elder' qyb_57 (Kd.R_base ho0) hb); have n1_ := Aside0.mk (Kd.R_elder' qyb_58 (Kd.R_base ho0) hb); have n2_ := Aside0.mk (Kd.R_elder' qyb_48 (Kd.R_base ho0) hb); have n3_ := Aside0.mk (Kd.R_elder' qyb_29 (Kd.R_base ho0) hb); have n4_ := Aside0.mk (Kd.R_elder' qyb_49 (Kd.R_base ho0) hb); have n5_ := Aside0.mk (Kd.R_elder' qyb_50 (Kd.R_base ho0) hb); have n6_ := Aside0.mk (Kd.R_elder' qyb_51 (Kd.R_base ho0) hb); have n7_ := Aside0.mk (Kd.R_elder' qyb_52 (Kd.R_base ho0) hb); have n8_ := Aside0.mk (Kd.R_lower (Kd.R_new' (Kd.R_new' (Kd.R_new' (Kd.R_new' (Kd.R_new' (Kd.R_new' (Kd.R_new' (Kd.R_new' ho0 (Kd.R_lt qyb_57)) (Kd.R_lt qyb_58)) (Kd.R_lt qyb_48)) (Kd.R_lt qyb_29)) (Kd.R_lt qyb_49)) (Kd.R_lt qyb_50)) (Kd.R_lt qyb_51)) (Kd.R_lt qyb_52)) (below_size qyb_18)); have n9_ := Aside0.mk (blk_below (g := gb392) (o := .cells #[.int .u8 a1_0, .int .u8 a1_1] 50 (0, 0)) (by (with_reducible repeat (first | refine blk_drewN ?_ _ | refine blk_drew ?_ | refine blk_alloc ?_ _)); refine blk_far ?_ NB392_432.out _; (with_reducible repeat (first | refine blk_drewN ?_ _ | refine blk_drew ?_ | refine blk_alloc ?_ _)); refine blk_far ?_ NB392_432.out _; (with_reducible repeat (first | refine blk_drewN ?_ _ | refine blk_drew ?_ | refine blk_alloc ?_ _)); exact BK392.out) hb); have n10_ := Aside0.mk (blk_below (g := gb414) (o := .cells #[.slice Ao32 t409.length co32, .int .i64 t412] 27 (0, 0)) (by (with_reducible repeat (first | refine blk_drewN ?_ _ | refine blk_drew ?_ | refine blk_alloc ?_ _)); refine blk_far ?_ NB414_432.out _; (with_reducible repeat (first | refine blk_drewN ?_ _ | refine blk_drew ?_ | refine blk_alloc ?_ _)); refine blk_far ?_ NB414_432.out _; (with_reducible repeat (first | refine blk_drewN ?_ _ | refine blk_drew ?_ | refine blk_alloc ?_ _)); exact BK414.out) hb); have n11_ := Aside0.mk (blk_below (g := gb420) (o := .cells #[.slice Ao38 t415.length co38, .int .i64 t418] 27 (0, 0)) (by (with_reducible repeat (first | refine blk_drewN ?_ _ | refine blk_drew ?_ | refine blk_alloc ?_ _)); refine blk_far ?_ NB420_432.out _; (with_reducible repeat (first | refine blk_drewN ?_ _ | refine blk_drew ?_ | refine blk_alloc ?_ _)); refine blk_far ?_ NB420_432.out _; (with_reducible repeat (first | refine blk_drewN ?_ _ | refine blk_drew ?_ | refine blk_alloc ?_ _)); exact BK420.out) hb); have n12_ := Aside0.mk (blk_below (g := gb426) (o := .cells #[.slice Ao45 t421.length co45, .int .i64 t424] 27 (0, 0)) (by (with_reducible repeat (first | refine blk_drewN ?_ _ | refine blk_drew ?_ | refine blk_alloc ?_ _)); refine blk_far ?_ NB426_432.out _; (with_reducible repeat (first | refine blk_drewN ?_ _ | refine blk_drew ?_ | refine blk_alloc ?_ _)); refine blk_far ?_ NB426_432.out _; (with_reducible repeat (first | refine blk_drewN ?_ _ | refine blk_drew ?_ | refine blk_alloc ?_ _)); exact BK426.out) hb); have n13_ := Aside0.mk (blk_below (g := gb432) (o := .cells #[.slice Ao53 t427.length co53, .int .i64 t430] 27 (0, 0)) (by (with_reducible repeat (first | refine blk_drewN ?_ _ | refine blk_drew ?_ | refine blk_alloc ?_ _)); refine blk_put (cs := #[.slice Ao53 t427.length co53, .int .i64 0]) ?_ 1 _ rfl; (with_reducible repeat (first | refine blk_drewN ?_ _ | refine blk_drew ?_ | refine blk_alloc ?_ _)); refine blk_put (cs := #[.slice none 0 0, .int .i64 0]) ?_ 0 _ rfl; (with_reducible repeat (first | refine blk_drewN ?_ _ | refine blk_drew ?_ | refine blk_alloc ?_ _)); exact BK432.out) hb); have n14_ := Aside0.mk (below_step qyb_18 hb); clear HO_7; clear HO_9; clear HO_10; clear HO_11; clear HO411; clear HO417; clear HO423; clear HO429; clear BK392; clear BK414; clear BK420; clear BK426; clear BK432; clear HB; have HO_7 := n0_; have HO_9 := n1_; have HO_10 := n2_; have HO_11 := n3_; have HO411 := n4_; have HO417 := n5_; have HO423 := n6_; have HO429 := n7_; have HO435 := n8_; have BK392 := n9_; have BK414 := n10_; have BK420 := n11_; have BK426 := n12_; have BK432 := n13_; have HB := n14_; clear n0_ n1_ n2_ n3_ n4_ n5_ n6_ n7_ n8_ n9_ n10_ n11_ n12_ n13_ n14_; (try clear hb); (try clear hb2); (try clear hk); (try clear hi); (try clear ho0)) | ((with_reducible refine gate_dst (N := 21) rfl ?_); (try (refine gate_guard (by rfl) ?_; dsimp only)); refine box_event ?hg (N := 21) ?hd (cs := #[.slice none 0 0, .int .i64 0]) (t := 27) ?hr ?_; (case hd => rfl); (case hg => rfl); (case hr => exact qyb_65); intro gb438 hg w61 hbox hb; have n0_ := Aside0.mk (Kd.R_below qyb_22 hb); have n1_ := Aside0.mk (Kd.R_below qyb_27 hb); have n2_ := Aside0.mk (Kd.R_below qyb_26 hb); have n3_ := Aside0.mk (Kd.R_below qyb_24 hb); have n4_ := Aside0.mk (Kd.R_below qyb_36 hb); have n5_ := Aside0.mk (Kd.R_below qyb_59 hb); have n6_ := Aside0.mk (Kd.R_below qyb_63 hb); have n7_ := Aside0.mk (Kd.R_below (by (with_reducible repeat (first | apply Kd.R_alloc | apply Kd.R_drewN | apply Kd.R_drew)); exact HO429.out) hb); have n8_ := Aside0.mk (Kd.R_below (by (with_reducible repeat (first | apply Kd.R_alloc | apply Kd.R_drewN | apply Kd.R_drew)); exact HO435.out) hb); have n9_ := Aside0.mk (blk_below (g := gb392) (o := .cells #[.int .u8 a1_0, .int .u8 a1_1] 50 (0, 0)) qyb_15 hb); have n10_ := Aside0.mk (blk_below (g := gb414) (o := .cells #[.slice Ao32 t409.length co32, .int .i64 t412] 27 (0, 0)) qyb_17 hb); have n11_ := Aside0.mk (blk_below (g := gb420) (o := .cells #[.slice Ao38 t415.length co38, .int .i64 t418] 27 (0, 0)) qyb_21 hb); have n12_ := Aside0.mk (blk_below (g := gb426) (o := .cells #[.slice Ao45 t421.length co45, .int .i64 t424] 27 (0, 0)) qyb_33 hb); have n13_ := Aside0.mk (blk_below (g := gb432) (o := .cells #[.slice Ao53 t427.length co53, .int .i64 t430] 27 (0, 0)) qyb_62 hb); have n14_ := Aside0.mk (below_step qyb_18 hb); have n15_ := Aside0.mk (hbox); have n16_ := Aside0.mk ((by rw [hg]; exact (below_size qyb_18) : w.heap.size ≤ gb438)); have n17_ := Aside0.mk ((by rw [hg]; exact (below_size qyb_18) : w.heap.size ≤ gb438)); have n18_ := Aside0.mk ((by rw [hg]; exact Nat.ne_of_lt (blk_lt (g := gb392) (o := .cells #[.int .u8 a1_0, .int .u8 a1_1] 50 (0, 0)) qyb_15) : gb392 ≠ gb438)); have n19_ := Aside0.mk ((by rw [hg]; exact Nat.ne_of_gt (blk_lt (g := gb392) (o := .cells #[.int .u8 a1_0, .int .u8 a1_1] 50 (0, 0)) qyb_15) : gb438 ≠ gb392)); have n20_ := Aside0.mk ((by rw [hg]; exact Nat.ne_of_lt (blk_lt (g := gb414) (o := .cells #[.slice Ao32 t409.length co32, .int .i64 t412] 27 (0, 0)) qyb_17) : gb414 ≠ gb438)); have n21_ := Aside0.mk ((by rw [hg]; exact Nat.ne_of_gt (blk_lt (g := gb414) (o := .cells #[.slice Ao32 t409.length co32, .int .i64 t412] 27 (0, 0)) qyb_17) : gb438 ≠ gb414)); have n22_ := Aside0.mk ((by rw [hg]; exact Nat.ne_of_lt (blk_lt (g := gb420) (o := .cells #[.slice Ao38 t415.length co38, .int .i64 t418] 27 (0, 0)) qyb_21) : gb420 ≠ gb438)); have n23_ := Aside0.mk ((by rw [hg]; exact Nat.ne_of_gt (blk_lt (g := gb420) (o := .cells #[.slice Ao38 t415.length co38, .int .i64 t418] 27 (0, 0)) qyb_21) : gb438 ≠ gb420)); have n24_ := Aside0.mk ((by rw [hg]; exact Nat.ne_of_lt (blk_lt (g := gb426) (o := .cells #[.slice Ao45 t421.length co45, .int .i64 t424] 27 (0, 0)) qyb_33) : gb426 ≠ gb438)); have n25_ := Aside0.mk ((by rw [hg]; exact Nat.ne_of_gt (blk_lt (g := gb426) (o := .cells #[.slice Ao45 t421.length co45, .int .i64 t424] 27 (0, 0)) qyb_33) : gb438 ≠ gb426)); have n26_ := Aside0.mk ((by rw [hg]; exact Nat.ne_of_lt (blk_lt (g := gb432) (o := .cells #[.slice Ao53 t427.length co53, .int .i64 t430] 27 (0, 0)) qyb_62) : gb432 ≠ gb438)); have n27_ := Aside0.mk ((by rw [hg]; exact Nat.ne_of_gt (blk_lt (g := gb432) (o := .cells #[.slice Ao53 t427.length co53, .int .i64 t430] 27 (0, 0)) qyb_62) : gb438 ≠ gb432)); clear HO_7; clear HO_9; clear HO_10; clear HO_11; clear HO411; clear HO417; clear HO423; clear HO429; clear HO435; clear BK392; clear BK414; clear BK420; clear BK426; clear BK432; clear HB; have HO_7 := n0_; have HO_9 := n1_; have HO_10 := n2_; have HO_11 := n3_; have HO411 := n4_; have HO417 := n5_; have HO423 := n6_; have HO429 := n7_; have HO435 := n8_; have BK392 := n9_; have BK414 := n10_; have BK420 := n11_; have BK426 := n12_; have BK432 := n13_; have HB := n14_; have BK438 := n15_; have GW438 := n16_; have GE438 := n17_; have NB392_438 := n18_; have NB438_392 := n19_; have NB414_438 := n20_; have NB438_414 := n21_; have NB420_438 := n22_; have NB438_420 := n23_; have NB426_438 := n24_; have NB438_426 := n25_; have NB432_438 := n26_; have NB438_432 := n27_; clear n0_ n1_ n2_ n3_ n4_ n5_ n6_ n7_ n8_ n9_ n10_ n11_ n12_ n13_ n14_ n15_ n16_ n17_ n18_ n19_ n20_ n21_ n22_ n23_ n24_ n25_ n26_ n27_; clear hb hbox hg; obtain ⟨Ao62, co62, eo62⟩ := Kd.R_slice HO435.out; subst eo62; have hnb63 := NB438_392.out; have hnc63 := NB392_438.out; have hnb64 := NB438_414.out; have hnc64 := NB414_438.out; have hnb65 := NB438_420.out; have hnc65 := NB420_438.out; have hnb66 := NB438_426.out; have hnc66 := NB426_438.out; have hnb67 := NB438_432.out; have hnc67 := NB432_438.out; have hcz68_0 : w61.cell? ⟨gb438, 0, none⟩ = some (.slice none 0 0) := (blk_cell BK438.out 0).trans rfl; have hcz68_1 : w61.cell? ⟨gb438, 1, none⟩ = some (.int .i64 0) := (blk_cell BK438.out 1).trans rfl; have hfz68_0 := blk_frozen BK438.out 0; have hfz68_1 := blk_frozen BK438.out 1))
     (try simp only [Act.put, List.setIfInBounds_toArray, List.set_cons_zero, List.set_cons_succ])
     go_cut [6] (fun v6 wc => ∃ (kq : Nat) (x6_27 : Bool), v6 = .bool x6_27 ∧ Aside0 (sleuthlaw44_SegmentationMoves.j1 kq x6_27 = some r) ∧ Aside0 (kq ≤ k1) ∧ Aside0 (Kd.R (Kd.int .i64) 3 wc w.heap.size (fun k_ => some k_ ≠ ((.slice Ao38 t415.length co38) : Value).ownBlock ∧ some k_ ≠ ((.slice Ao45 t421.length co45) : Value).ownBlock ∧ some k_ ≠ ((.slice Ao53 t427.length co53) : Value).ownBlock ∧ some k_ ≠ ((.slice Ao62 t433.length co62) : Value).ownBlock) (.slice Ao32 t409.length co32) t409) ∧ Aside0 (Kd.R (Kd.int .i64) 3 wc w.heap.size (fun k_ => some k_ ≠ ((.slice Ao32 t409.length co32) : Value).ownBlock ∧ some k_ ≠ ((.slice Ao45 t421.length co45) : Value).ownBlock ∧ some k_ ≠ ((.slice Ao53 t427.length co53) : Value).ownBlock ∧ some k_ ≠ ((.slice Ao62 t433.length co62) : Value).ownBlock) (.slice Ao38 t415.length co38) t415) ∧ Aside0 (Kd.R (Kd.int .i64) 3 wc w.heap.size (fun k_ => some k_ ≠ ((.slice Ao32 t409.length co32) : Value).ownBlock ∧ some k_ ≠ ((.slice Ao38 t415.length co38) : Value).ownBlock ∧ some k_ ≠ ((.slice Ao53 t427.length co53) : Value).ownBlock ∧ some k_ ≠ ((.slice Ao62 t433.length co62) : Value).ownBlock) (.slice Ao45 t421.length co45) t421) ∧ Aside0 (Kd.R (Kd.int .i64) 3 wc w.heap.size (fun k_ => some k_ ≠ ((.slice Ao32 t409.length co32) : Value).ownBlock ∧ some k_ ≠ ((.slice Ao38 t415.length co38) : Value).ownBlock ∧ some k_ ≠ ((.slice Ao45 t421.length co45) : Value).ownBlock ∧ some k_ ≠ ((.slice Ao62 t433.length co62) : Value).ownBlock) (.slice Ao53 t427.length co53) t427) ∧ Aside0 (Kd.R (Kd.int .i64) 3 wc w.heap.size (fun k_ => some k_ ≠ ((.slice Ao32 t409.length co32) : Value).ownBlock ∧ some k_ ≠ ((.slice Ao38 t415.length co38) : Value).ownBlock ∧ some k_ ≠ ((.slice Ao45 t421.length co45) : Value).ownBlock ∧ some k_ ≠ ((.slice Ao53 t427.length co53) : Value).ownBlock) (.slice Ao62 t433.length co62) t433) ∧ Aside0 (wc.heap[gb392]? = some (.cells #[.int .u8 a1_0, .int .u8 a1_1] 50 (0, 0))) ∧ Aside0 (wc.heap[gb414]? = some (.cells #[(.slice Ao32 t409.length co32), .int .i64 t412] 27 (0, 0))) ∧ Aside0 (wc.heap[gb420]? = some (.cells #[(.slice Ao38 t415.length co38), .int .i64 t418] 27 (0, 0))) ∧ Aside0 (wc.heap[gb426]? = some (.cells #[(.slice Ao45 t421.length co45), .int .i64 t424] 27 (0, 0))) ∧ Aside0 (wc.heap[gb432]? = some (.cells #[(.slice Ao53 t427.length co53), .int .i64 t430] 27 (0, 0))) ∧ Aside0 (wc.heap[gb438]? = some (.cells #[(.slice Ao62 t433.length co62), .int .i64 t436] 27 (0, 0))) ∧ Aside0 (Below w.heap.size w wc))
     case first =>
      have H := HC28.out
      clear HC28
      by_cases c69 : t413 = 0
      ·rw [if_pos c69] at H
       have c69b0 : (t413 == 0) = true := beq_iff_eq.mpr c69
       have c69b1 : (t413 != 0) = false := bne_eq_false_iff_eq.mpr c69
       clear c69
       (first | rw [c69b0] | (simp only [i64_w, i32_w]; rw [c69b0]) | skip)
       by_cases c70 : t419 = 0
       ·rw [if_pos c70] at H
        have c70b0 : (t419 == 0) = true := beq_iff_eq.mpr c70
        have c70b1 : (t419 != 0) = false := bne_eq_false_iff_eq.mpr c70
        clear c70
        by_cases c71 : t425 = 0
        ·rw [if_pos c71] at H
         have c71b0 : (t425 == 0) = true := beq_iff_eq.mpr c71
         have c71b1 : (t425 != 0) = false := bne_eq_false_iff_eq.mpr c71
         clear c71
         by_cases c72 : t431 = 0
         ·rw [if_pos c72] at H
          have c72b0 : (t431 == 0) = true := beq_iff_eq.mpr c72
          have c72b1 : (t431 != 0) = false := bne_eq_false_iff_eq.mpr c72
          clear c72
          by_cases c73 : t437 = 0
          ·rw [if_pos c73] at H
           have c73b0 : (t437 == 0) = true := beq_iff_eq.mpr c73
           have c73b1 : (t437 != 0) = false := bne_eq_false_iff_eq.mpr c73
           clear c73
           by_cases c74 : (t415.length : Int) ≤ (t409.length : Int)
           ·rw [if_pos c74] at H
            have c74b0 : decide ((t415.length : Int) ≤ (t409.length : Int)) = true := decide_eq_true c74
            have c74b1 : decide (t415.length ≤ t409.length) = true := decide_eq_true (Int.ofNat_le.mp c74)
            clear c74
            replace H := Option.bind_eq_some_iff.mp H
            obtain ⟨t439, A750, H⟩ := H
            replace H : (if t439 = true then (if t424 = t412 then ((sleuthlaw44_same.f k1 t427 t409).bind fun t440 => (if t440 = true then (if t430 = t412 then (sleuthlaw44_SegmentationMoves.j1 k1 (t436 == t412)) else (sleuthlaw44_SegmentationMoves.j1 k1 false)) else (sleuthlaw44_SegmentationMoves.j1 k1 false))) else (sleuthlaw44_SegmentationMoves.j1 k1 false)) else (sleuthlaw44_SegmentationMoves.j1 k1 false)) = some r := H
            have A75 := Aside0.mk A750
            clear A750
            by_cases c76 : t439 = true
            ·subst c76
             have H1 : (if t424 = t412 then ((sleuthlaw44_same.f k1 t427 t409).bind fun t440 => (if t440 = true then (if t430 = t412 then (sleuthlaw44_SegmentationMoves.j1 k1 (t436 == t412)) else (sleuthlaw44_SegmentationMoves.j1 k1 false)) else (sleuthlaw44_SegmentationMoves.j1 k1 false))) else (sleuthlaw44_SegmentationMoves.j1 k1 false)) = some r := by rw [if_pos rfl] at H; exact H
             clear H
             have H := H1
             clear H1
             by_cases c77 : t424 = t412
             ·rw [if_pos c77] at H
              have c77b0 : (t424 == t412) = true := beq_iff_eq.mpr c77
              have c77b1 : (t424 != t412) = false := bne_eq_false_iff_eq.mpr c77
              clear c77
              replace H := Option.bind_eq_some_iff.mp H
              obtain ⟨t440, A780, H⟩ := H
              replace H : (if t440 = true then (if t430 = t412 then (sleuthlaw44_SegmentationMoves.j1 k1 (t436 == t412)) else (sleuthlaw44_SegmentationMoves.j1 k1 false)) else (sleuthlaw44_SegmentationMoves.j1 k1 false)) = some r := H
              have A78 := Aside0.mk A780
              clear A780
              by_cases c79 : t440 = true
              ·subst c79
               have H1 : (if t430 = t412 then (sleuthlaw44_SegmentationMoves.j1 k1 (t436 == t412)) else (sleuthlaw44_SegmentationMoves.j1 k1 false)) = some r := by rw [if_pos rfl] at H; exact H
               clear H
               have H := H1
               clear H1
               by_cases c80 : t430 = t412
               ·rw [if_pos c80] at H
                have c80b0 : (t430 == t412) = true := beq_iff_eq.mpr c80
                have c80b1 : (t430 != t412) = false := bne_eq_false_iff_eq.mpr c80
                clear c80
                have H' := Aside0.mk H
                clear H
                have hnb81 := NB420_392.out
                have hnc81 := NB392_420.out
                have hnb82 := NB420_414.out
                have hnc82 := NB414_420.out
                have hnb83 := NB420_426.out
                have hnc83 := NB426_420.out
                have hnb84 := NB420_432.out
                have hnc84 := NB432_420.out
                have hnb85 := NB420_438.out
                have hnc85 := NB438_420.out
                have hcz86_0 : w61.cell? ⟨gb420, 0, none⟩ = some (.slice Ao38 t415.length co38) := (blk_cell BK420.out 0).trans rfl
                have hcz86_1 : w61.cell? ⟨gb420, 1, none⟩ = some (.int .i64 t418) := (blk_cell BK420.out 1).trans rfl
                have hfz86_0 := blk_frozen BK420.out 0
                have hfz86_1 := blk_frozen BK420.out 1
                have hnb87 := NB414_392.out
                have hnc87 := NB392_414.out
                have hnb88 := NB414_426.out
                have hnc88 := NB426_414.out
                have hnb89 := NB414_432.out
                have hnc89 := NB432_414.out
                have hnb90 := NB414_438.out
                have hnc90 := NB438_414.out
                have hcz91_0 : w61.cell? ⟨gb414, 0, none⟩ = some (.slice Ao32 t409.length co32) := (blk_cell BK414.out 0).trans rfl
                have hcz91_1 : w61.cell? ⟨gb414, 1, none⟩ = some (.int .i64 t412) := (blk_cell BK414.out 1).trans rfl
                have hfz91_0 := blk_frozen BK414.out 0
                have hfz91_1 := blk_frozen BK414.out 1
                have hnb92 := NB426_392.out
                have hnc92 := NB392_426.out
                have hnb93 := NB426_432.out
                have hnc93 := NB432_426.out
                have hnb94 := NB426_438.out
                have hnc94 := NB438_426.out
                have hcz95_0 : w61.cell? ⟨gb426, 0, none⟩ = some (.slice Ao45 t421.length co45) := (blk_cell BK426.out 0).trans rfl
                have hcz95_1 : w61.cell? ⟨gb426, 1, none⟩ = some (.int .i64 t424) := (blk_cell BK426.out 1).trans rfl
                have hfz95_0 := blk_frozen BK426.out 0
                have hfz95_1 := blk_frozen BK426.out 1
                go_wp2_with (first | (go_at_call 17; (with_reducible refine (sleuthlaw44_same.calls k1 _ _ t421 _ _ t409 true _ ?side1 ?side2 ?side3 ?side4 A75.out).mono ?_); (case side1 => exact qyb_2); (case side2 => exact (Kd.R_reads' HO423.out).2.1); (case side3 => exact qyb_0); (case side4 => exact qyb_66); rintro e w' ⟨rfl, ⟨nd, rfl⟩⟩; have hnb96 := NB432_392.out; have hnc96 := NB392_432.out; have hnb97 := NB432_438.out; have hnc97 := NB438_432.out; have hcz98_0 : w61.cell? ⟨gb432, 0, none⟩ = some (.slice Ao53 t427.length co53) := (blk_cell BK432.out 0).trans rfl; have hcz98_1 : w61.cell? ⟨gb432, 1, none⟩ = some (.int .i64 t430) := (blk_cell BK432.out 1).trans rfl; have hfz98_0 := blk_frozen BK432.out 0; have hfz98_1 := blk_frozen BK432.out 1) | (go_at_call 17; (with_reducible refine (sleuthlaw44_same.calls k1 _ _ t427 _ _ t409 true _ ?side1 ?side2 ?side3 ?side4 A78.out).mono ?_); (case side1 => exact qyb_16); (case side2 => exact (Kd.R_reads' HO429.out).2.1); (case side3 => exact qyb_0); (case side4 => exact qyb_66); rintro e w' ⟨rfl, ⟨nd, rfl⟩⟩; have hnb99 := NB438_392.out; have hnc99 := NB392_438.out; have hcz100_0 : w61.cell? ⟨gb438, 0, none⟩ = some (.slice none 0 0) := (blk_cell BK438.out 0).trans rfl; have hcz100_1 : w61.cell? ⟨gb438, 1, none⟩ = some (.int .i64 0) := (blk_cell BK438.out 1).trans rfl; have hfz100_0 := blk_frozen BK438.out 0; have hfz100_1 := blk_frozen BK438.out 1))
                go_meet
                case rel => exact ⟨_, ((t436 == t412)), qyb_34, H', ⟨qyb_35⟩, ⟨qyb_8⟩, ⟨qyb_9⟩, ⟨qyb_10⟩, ⟨qyb_11⟩, ⟨qyb_12⟩, ⟨qyb_3⟩, ⟨qyb_4⟩, ⟨qyb_5⟩, ⟨qyb_6⟩, ⟨qyb_7⟩, ⟨qyb_1⟩, ⟨qyb_13⟩⟩
               ·rw [if_neg c80] at H
                have c80b0 : (t430 == t412) = false := beq_eq_false_iff_ne.mpr c80
                have c80b1 : (t430 != t412) = true := bne_iff_ne.mpr c80
                have H' := Aside0.mk H
                clear H
                have hnb101 := NB420_392.out
                have hnc101 := NB392_420.out
                have hnb102 := NB420_414.out
                have hnc102 := NB414_420.out
                have hnb103 := NB420_426.out
                have hnc103 := NB426_420.out
                have hnb104 := NB420_432.out
                have hnc104 := NB432_420.out
                have hnb105 := NB420_438.out
                have hnc105 := NB438_420.out
                have hcz106_0 : w61.cell? ⟨gb420, 0, none⟩ = some (.slice Ao38 t415.length co38) := (blk_cell BK420.out 0).trans rfl
                have hcz106_1 : w61.cell? ⟨gb420, 1, none⟩ = some (.int .i64 t418) := (blk_cell BK420.out 1).trans rfl
                have hfz106_0 := blk_frozen BK420.out 0
                have hfz106_1 := blk_frozen BK420.out 1
                have hnb107 := NB414_392.out
                have hnc107 := NB392_414.out
                have hnb108 := NB414_426.out
                have hnc108 := NB426_414.out
                have hnb109 := NB414_432.out
                have hnc109 := NB432_414.out
                have hnb110 := NB414_438.out
                have hnc110 := NB438_414.out
                have hcz111_0 : w61.cell? ⟨gb414, 0, none⟩ = some (.slice Ao32 t409.length co32) := (blk_cell BK414.out 0).trans rfl
                have hcz111_1 : w61.cell? ⟨gb414, 1, none⟩ = some (.int .i64 t412) := (blk_cell BK414.out 1).trans rfl
                have hfz111_0 := blk_frozen BK414.out 0
                have hfz111_1 := blk_frozen BK414.out 1
                have hnb112 := NB426_392.out
                have hnc112 := NB392_426.out
                have hnb113 := NB426_432.out
                have hnc113 := NB432_426.out
                have hnb114 := NB426_438.out
                have hnc114 := NB438_426.out
                have hcz115_0 : w61.cell? ⟨gb426, 0, none⟩ = some (.slice Ao45 t421.length co45) := (blk_cell BK426.out 0).trans rfl
                have hcz115_1 : w61.cell? ⟨gb426, 1, none⟩ = some (.int .i64 t424) := (blk_cell BK426.out 1).trans rfl
                have hfz115_0 := blk_frozen BK426.out 0
                have hfz115_1 := blk_frozen BK426.out 1
                go_wp2_with (first | (go_at_call 17; (with_reducible refine (sleuthlaw44_same.calls k1 _ _ t421 _ _ t409 true _ ?side1 ?side2 ?side3 ?side4 A75.out).mono ?_); (case side1 => exact qyb_2); (case side2 => exact (Kd.R_reads' HO423.out).2.1); (case side3 => exact qyb_0); (case side4 => exact qyb_66); rintro e w' ⟨rfl, ⟨nd, rfl⟩⟩; have hnb116 := NB432_392.out; have hnc116 := NB392_432.out; have hnb117 := NB432_438.out; have hnc117 := NB438_432.out; have hcz118_0 : w61.cell? ⟨gb432, 0, none⟩ = some (.slice Ao53 t427.length co53) := (blk_cell BK432.out 0).trans rfl; have hcz118_1 : w61.cell? ⟨gb432, 1, none⟩ = some (.int .i64 t430) := (blk_cell BK432.out 1).trans rfl; have hfz118_0 := blk_frozen BK432.out 0; have hfz118_1 := blk_frozen BK432.out 1) | (go_at_call 17; (with_reducible refine (sleuthlaw44_same.calls k1 _ _ t427 _ _ t409 true _ ?side1 ?side2 ?side3 ?side4 A78.out).mono ?_); (case side1 => exact qyb_16); (case side2 => exact (Kd.R_reads' HO429.out).2.1); (case side3 => exact qyb_0); (case side4 => exact qyb_66); rintro e w' ⟨rfl, ⟨nd, rfl⟩⟩))
                go_meet
                case rel => exact ⟨_, (false), qyb_34, H', ⟨qyb_35⟩, ⟨qyb_8⟩, ⟨qyb_9⟩, ⟨qyb_10⟩, ⟨qyb_11⟩, ⟨qyb_12⟩, ⟨qyb_3⟩, ⟨qyb_4⟩, ⟨qyb_5⟩, ⟨qyb_6⟩, ⟨qyb_7⟩, ⟨qyb_1⟩, ⟨qyb_13⟩⟩
              ·replace c79 := Bool.eq_false_iff.mpr c79
               subst c79
               have H1 : (sleuthlaw44_SegmentationMoves.j1 k1 false) = some r := by rw [if_neg (show ¬ (false = true) by decide)] at H; exact H
               clear H
               have H := H1
               clear H1
               have H' := Aside0.mk H
               clear H
               have hnb119 := NB420_392.out
               have hnc119 := NB392_420.out
               have hnb120 := NB420_414.out
               have hnc120 := NB414_420.out
               have hnb121 := NB420_426.out
               have hnc121 := NB426_420.out
               have hnb122 := NB420_432.out
               have hnc122 := NB432_420.out
               have hnb123 := NB420_438.out
               have hnc123 := NB438_420.out
               have hcz124_0 : w61.cell? ⟨gb420, 0, none⟩ = some (.slice Ao38 t415.length co38) := (blk_cell BK420.out 0).trans rfl
               have hcz124_1 : w61.cell? ⟨gb420, 1, none⟩ = some (.int .i64 t418) := (blk_cell BK420.out 1).trans rfl
               have hfz124_0 := blk_frozen BK420.out 0
               have hfz124_1 := blk_frozen BK420.out 1
               have hnb125 := NB414_392.out
               have hnc125 := NB392_414.out
               have hnb126 := NB414_426.out
               have hnc126 := NB426_414.out
               have hnb127 := NB414_432.out
               have hnc127 := NB432_414.out
               have hnb128 := NB414_438.out
               have hnc128 := NB438_414.out
               have hcz129_0 : w61.cell? ⟨gb414, 0, none⟩ = some (.slice Ao32 t409.length co32) := (blk_cell BK414.out 0).trans rfl
               have hcz129_1 : w61.cell? ⟨gb414, 1, none⟩ = some (.int .i64 t412) := (blk_cell BK414.out 1).trans rfl
               have hfz129_0 := blk_frozen BK414.out 0
               have hfz129_1 := blk_frozen BK414.out 1
               have hnb130 := NB426_392.out
               have hnc130 := NB392_426.out
               have hnb131 := NB426_432.out
               have hnc131 := NB432_426.out
               have hnb132 := NB426_438.out
               have hnc132 := NB438_426.out
               have hcz133_0 : w61.cell? ⟨gb426, 0, none⟩ = some (.slice Ao45 t421.length co45) := (blk_cell BK426.out 0).trans rfl
               have hcz133_1 : w61.cell? ⟨gb426, 1, none⟩ = some (.int .i64 t424) := (blk_cell BK426.out 1).trans rfl
               have hfz133_0 := blk_frozen BK426.out 0
               have hfz133_1 := blk_frozen BK426.out 1
               go_wp2_with (first | (go_at_call 17; (with_reducible refine (sleuthlaw44_same.calls k1 _ _ t421 _ _ t409 true _ ?side1 ?side2 ?side3 ?side4 A75.out).mono ?_); (case side1 => exact qyb_2); (case side2 => exact (Kd.R_reads' HO423.out).2.1); (case side3 => exact qyb_0); (case side4 => exact qyb_66); rintro e w' ⟨rfl, ⟨nd, rfl⟩⟩; have hnb134 := NB432_392.out; have hnc134 := NB392_432.out; have hnb135 := NB432_438.out; have hnc135 := NB438_432.out; have hcz136_0 : w61.cell? ⟨gb432, 0, none⟩ = some (.slice Ao53 t427.length co53) := (blk_cell BK432.out 0).trans rfl; have hcz136_1 : w61.cell? ⟨gb432, 1, none⟩ = some (.int .i64 t430) := (blk_cell BK432.out 1).trans rfl; have hfz136_0 := blk_frozen BK432.out 0; have hfz136_1 := blk_frozen BK432.out 1) | (go_at_call 17; (with_reducible refine (sleuthlaw44_same.calls k1 _ _ t427 _ _ t409 false _ ?side1 ?side2 ?side3 ?side4 A78.out).mono ?_); (case side1 => exact qyb_16); (case side2 => exact (Kd.R_reads' HO429.out).2.1); (case side3 => exact qyb_0); (case side4 => exact qyb_66); rintro e w' ⟨rfl, ⟨nd, rfl⟩⟩))
               go_meet
               case rel => exact ⟨_, (false), qyb_34, H', ⟨qyb_35⟩, ⟨qyb_8⟩, ⟨qyb_9⟩, ⟨qyb_10⟩, ⟨qyb_11⟩, ⟨qyb_12⟩, ⟨qyb_3⟩, ⟨qyb_4⟩, ⟨qyb_5⟩, ⟨qyb_6⟩, ⟨qyb_7⟩, ⟨qyb_1⟩, ⟨qyb_13⟩⟩
             ·rw [if_neg c77] at H
              have c77b0 : (t424 == t412) = false := beq_eq_false_iff_ne.mpr c77
              have c77b1 : (t424 != t412) = true := bne_iff_ne.mpr c77
              have H' := Aside0.mk H
              clear H
              have hnb137 := NB420_392.out
              have hnc137 := NB392_420.out
              have hnb138 := NB420_414.out
              have hnc138 := NB414_420.out
              have hnb139 := NB420_426.out
              have hnc139 := NB426_420.out
              have hnb140 := NB420_432.out
              have hnc140 := NB432_420.out
              have hnb141 := NB420_438.out
              have hnc141 := NB438_420.out
              have hcz142_0 : w61.cell? ⟨gb420, 0, none⟩ = some (.slice Ao38 t415.length co38) := (blk_cell BK420.out 0).trans rfl
              have hcz142_1 : w61.cell? ⟨gb420, 1, none⟩ = some (.int .i64 t418) := (blk_cell BK420.out 1).trans rfl
              have hfz142_0 := blk_frozen BK420.out 0
              have hfz142_1 := blk_frozen BK420.out 1
              have hnb143 := NB414_392.out
              have hnc143 := NB392_414.out
              have hnb144 := NB414_426.out
              have hnc144 := NB426_414.out
              have hnb145 := NB414_432.out
              have hnc145 := NB432_414.out
              have hnb146 := NB414_438.out
              have hnc146 := NB438_414.out
              have hcz147_0 : w61.cell? ⟨gb414, 0, none⟩ = some (.slice Ao32 t409.length co32) := (blk_cell BK414.out 0).trans rfl
              have hcz147_1 : w61.cell? ⟨gb414, 1, none⟩ = some (.int .i64 t412) := (blk_cell BK414.out 1).trans rfl
              have hfz147_0 := blk_frozen BK414.out 0
              have hfz147_1 := blk_frozen BK414.out 1
              have hnb148 := NB426_392.out
              have hnc148 := NB392_426.out
              have hnb149 := NB426_432.out
              have hnc149 := NB432_426.out
              have hnb150 := NB426_438.out
              have hnc150 := NB438_426.out
              have hcz151_0 : w61.cell? ⟨gb426, 0, none⟩ = some (.slice Ao45 t421.length co45) := (blk_cell BK426.out 0).trans rfl
              have hcz151_1 : w61.cell? ⟨gb426, 1, none⟩ = some (.int .i64 t424) := (blk_cell BK426.out 1).trans rfl
              have hfz151_0 := blk_frozen BK426.out 0
              have hfz151_1 := blk_frozen BK426.out 1
              go_wp2_with (first | (go_at_call 17; (with_reducible refine (sleuthlaw44_same.calls k1 _ _ t421 _ _ t409 true _ ?side1 ?side2 ?side3 ?side4 A75.out).mono ?_); (case side1 => exact qyb_2); (case side2 => exact (Kd.R_reads' HO423.out).2.1); (case side3 => exact qyb_0); (case side4 => exact qyb_66); rintro e w' ⟨rfl, ⟨nd, rfl⟩⟩))
              go_meet
              case rel => exact ⟨_, (false), qyb_34, H', ⟨qyb_35⟩, ⟨qyb_8⟩, ⟨qyb_9⟩, ⟨qyb_10⟩, ⟨qyb_11⟩, ⟨qyb_12⟩, ⟨qyb_3⟩, ⟨qyb_4⟩, ⟨qyb_5⟩, ⟨qyb_6⟩, ⟨qyb_7⟩, ⟨qyb_1⟩, ⟨qyb_13⟩⟩
            ·replace c76 := Bool.eq_false_iff.mpr c76
             subst c76
             have H1 : (sleuthlaw44_SegmentationMoves.j1 k1 false) = some r := by rw [if_neg (show ¬ (false = true) by decide)] at H; exact H
             clear H
             have H := H1
             clear H1
             have H' := Aside0.mk H
             clear H
             have hnb152 := NB420_392.out
             have hnc152 := NB392_420.out
             have hnb153 := NB420_414.out
             have hnc153 := NB414_420.out
             have hnb154 := NB420_426.out
             have hnc154 := NB426_420.out
             have hnb155 := NB420_432.out
             have hnc155 := NB432_420.out
             have hnb156 := NB420_438.out
             have hnc156 := NB438_420.out
             have hcz157_0 : w61.cell? ⟨gb420, 0, none⟩ = some (.slice Ao38 t415.length co38) := (blk_cell BK420.out 0).trans rfl
             have hcz157_1 : w61.cell? ⟨gb420, 1, none⟩ = some (.int .i64 t418) := (blk_cell BK420.out 1).trans rfl
             have hfz157_0 := blk_frozen BK420.out 0
             have hfz157_1 := blk_frozen BK420.out 1
             have hnb158 := NB414_392.out
             have hnc158 := NB392_414.out
             have hnb159 := NB414_426.out
             have hnc159 := NB426_414.out
             have hnb160 := NB414_432.out
             have hnc160 := NB432_414.out
             have hnb161 := NB414_438.out
             have hnc161 := NB438_414.out
             have hcz162_0 : w61.cell? ⟨gb414, 0, none⟩ = some (.slice Ao32 t409.length co32) := (blk_cell BK414.out 0).trans rfl
             have hcz162_1 : w61.cell? ⟨gb414, 1, none⟩ = some (.int .i64 t412) := (blk_cell BK414.out 1).trans rfl
             have hfz162_0 := blk_frozen BK414.out 0
             have hfz162_1 := blk_frozen BK414.out 1
             have hnb163 := NB426_392.out
             have hnc163 := NB392_426.out
             have hnb164 := NB426_432.out
             have hnc164 := NB432_426.out
             have hnb165 := NB426_438.out
             have hnc165 := NB438_426.out
             have hcz166_0 : w61.cell? ⟨gb426, 0, none⟩ = some (.slice Ao45 t421.length co45) := (blk_cell BK426.out 0).trans rfl
             have hcz166_1 : w61.cell? ⟨gb426, 1, none⟩ = some (.int .i64 t424) := (blk_cell BK426.out 1).trans rfl
             have hfz166_0 := blk_frozen BK426.out 0
             have hfz166_1 := blk_frozen BK426.out 1
             go_wp2_with (first | (go_at_call 17; (with_reducible refine (sleuthlaw44_same.calls k1 _ _ t421 _ _ t409 false _ ?side1 ?side2 ?side3 ?side4 A75.out).mono ?_); (case side1 => exact qyb_2); (case side2 => exact (Kd.R_reads' HO423.out).2.1); (case side3 => exact qyb_0); (case side4 => exact qyb_66); rintro e w' ⟨rfl, ⟨nd, rfl⟩⟩))
             go_meet
             case rel => exact ⟨_, (false), qyb_34, H', ⟨qyb_35⟩, ⟨qyb_8⟩, ⟨qyb_9⟩, ⟨qyb_10⟩, ⟨qyb_11⟩, ⟨qyb_12⟩, ⟨qyb_3⟩, ⟨qyb_4⟩, ⟨qyb_5⟩, ⟨qyb_6⟩, ⟨qyb_7⟩, ⟨qyb_1⟩, ⟨qyb_13⟩⟩
           ·rw [if_neg c74] at H
            have c74b0 : decide ((t415.length : Int) ≤ (t409.length : Int)) = false := decide_eq_false c74
            have c74b1 : decide (t415.length ≤ t409.length) = false := decide_eq_false (fun h => c74 (Int.ofNat_le.mpr h))
            clear c74
            have H' := Aside0.mk H
            clear H
            have hnb167 := NB420_392.out
            have hnc167 := NB392_420.out
            have hnb168 := NB420_414.out
            have hnc168 := NB414_420.out
            have hnb169 := NB420_426.out
            have hnc169 := NB426_420.out
            have hnb170 := NB420_432.out
            have hnc170 := NB432_420.out
            have hnb171 := NB420_438.out
            have hnc171 := NB438_420.out
            have hcz172_0 : w61.cell? ⟨gb420, 0, none⟩ = some (.slice Ao38 t415.length co38) := (blk_cell BK420.out 0).trans rfl
            have hcz172_1 : w61.cell? ⟨gb420, 1, none⟩ = some (.int .i64 t418) := (blk_cell BK420.out 1).trans rfl
            have hfz172_0 := blk_frozen BK420.out 0
            have hfz172_1 := blk_frozen BK420.out 1
            have hnb173 := NB414_392.out
            have hnc173 := NB392_414.out
            have hnb174 := NB414_426.out
            have hnc174 := NB426_414.out
            have hnb175 := NB414_432.out
            have hnc175 := NB432_414.out
            have hnb176 := NB414_438.out
            have hnc176 := NB438_414.out
            have hcz177_0 : w61.cell? ⟨gb414, 0, none⟩ = some (.slice Ao32 t409.length co32) := (blk_cell BK414.out 0).trans rfl
            have hcz177_1 : w61.cell? ⟨gb414, 1, none⟩ = some (.int .i64 t412) := (blk_cell BK414.out 1).trans rfl
            have hfz177_0 := blk_frozen BK414.out 0
            have hfz177_1 := blk_frozen BK414.out 1
            go_wp2
            go_meet
            case rel => exact ⟨_, (false), qyb_34, H', ⟨qyb_35⟩, ⟨qyb_8⟩, ⟨qyb_9⟩, ⟨qyb_10⟩, ⟨qyb_11⟩, ⟨qyb_12⟩, ⟨qyb_3⟩, ⟨qyb_4⟩, ⟨qyb_5⟩, ⟨qyb_6⟩, ⟨qyb_7⟩, ⟨qyb_1⟩, ⟨qyb_13⟩⟩
          ·rw [if_neg c73] at H
           have c73b0 : (t437 == 0) = false := beq_eq_false_iff_ne.mpr c73
           have c73b1 : (t437 != 0) = true := bne_iff_ne.mpr c73
           have H' := Aside0.mk H
           clear H
           go_wp2
           go_meet
           case rel => exact ⟨_, (false), qyb_34, H', ⟨qyb_35⟩, ⟨qyb_8⟩, ⟨qyb_9⟩, ⟨qyb_10⟩, ⟨qyb_11⟩, ⟨qyb_12⟩, ⟨qyb_3⟩, ⟨qyb_4⟩, ⟨qyb_5⟩, ⟨qyb_6⟩, ⟨qyb_7⟩, ⟨qyb_1⟩, ⟨qyb_13⟩⟩
         ·rw [if_neg c72] at H
          have c72b0 : (t431 == 0) = false := beq_eq_false_iff_ne.mpr c72
          have c72b1 : (t431 != 0) = true := bne_iff_ne.mpr c72
          have H' := Aside0.mk H
          clear H
          go_wp2
          go_meet
          case rel => exact ⟨_, (false), qyb_34, H', ⟨qyb_35⟩, ⟨qyb_8⟩, ⟨qyb_9⟩, ⟨qyb_10⟩, ⟨qyb_11⟩, ⟨qyb_12⟩, ⟨qyb_3⟩, ⟨qyb_4⟩, ⟨qyb_5⟩, ⟨qyb_6⟩, ⟨qyb_7⟩, ⟨qyb_1⟩, ⟨qyb_13⟩⟩
        ·rw [if_neg c71] at H
         have c71b0 : (t425 == 0) = false := beq_eq_false_iff_ne.mpr c71
         have c71b1 : (t425 != 0) = true := bne_iff_ne.mpr c71
         have H' := Aside0.mk H
         clear H
         go_wp2
         go_meet
         case rel => exact ⟨_, (false), qyb_34, H', ⟨qyb_35⟩, ⟨qyb_8⟩, ⟨qyb_9⟩, ⟨qyb_10⟩, ⟨qyb_11⟩, ⟨qyb_12⟩, ⟨qyb_3⟩, ⟨qyb_4⟩, ⟨qyb_5⟩, ⟨qyb_6⟩, ⟨qyb_7⟩, ⟨qyb_1⟩, ⟨qyb_13⟩⟩
       ·rw [if_neg c70] at H
        have c70b0 : (t419 == 0) = false := beq_eq_false_iff_ne.mpr c70
        have c70b1 : (t419 != 0) = true := bne_iff_ne.mpr c70
        have H' := Aside0.mk H
        clear H
        go_wp2
        go_meet
        case rel => exact ⟨_, (false), qyb_34, H', ⟨qyb_35⟩, ⟨qyb_8⟩, ⟨qyb_9⟩, ⟨qyb_10⟩, ⟨qyb_11⟩, ⟨qyb_12⟩, ⟨qyb_3⟩, ⟨qyb_4⟩, ⟨qyb_5⟩, ⟨qyb_6⟩, ⟨qyb_7⟩, ⟨qyb_1⟩, ⟨qyb_13⟩⟩
      ·rw [if_neg c69] at H
       have c69b0 : (t413 == 0) = false := beq_eq_false_iff_ne.mpr c69
       have c69b1 : (t413 != 0) = true := bne_iff_ne.mpr c69
       (first | rw [c69b0] | (simp only [i64_w, i32_w]; rw [c69b0]) | skip)
       have H' := Aside0.mk H
       clear H
       go_wp2
       go_meet
       case rel => exact ⟨_, (false), qyb_34, H', ⟨qyb_35⟩, ⟨qyb_8⟩, ⟨qyb_9⟩, ⟨qyb_10⟩, ⟨qyb_11⟩, ⟨qyb_12⟩, ⟨qyb_3⟩, ⟨qyb_4⟩, ⟨qyb_5⟩, ⟨qyb_6⟩, ⟨qyb_7⟩, ⟨qyb_1⟩, ⟨qyb_13⟩⟩
     case rest =>
      clear HC28
      try clear c1
      try clear p2
      try clear c3
      try clear p3
      try clear q3
      try clear hx3
      try clear c4
      try clear p4
      try clear q4
      try clear hx4
      try clear c5
      try clear c6
      try clear p6
      try clear c7
      try clear c8
      try clear c9
      try clear c10
      try clear c11
      try clear c11b0
      try clear c12
      try clear c12b0
      try clear c13
      try clear c14
      try clear c15
      try clear c16
      try clear c16b0
      try clear c17
      try clear c17b0
      try clear c18
      try clear c33
      try clear c39
      try clear p39
      try clear q39
      try clear hx39
      try clear c40
      try clear p40
      try clear q40
      try clear hx40
      try clear c46
      try clear c47
      try clear c48
      try clear c54
      try clear c55
      try clear c56
      try clear c57
      try clear c63
      try clear c64
      try clear p64
      try clear c65
      try clear c66
      try clear c67
      try clear c69
      try clear c69b0
      try clear c69b1
      try clear c70
      try clear c70b0
      try clear c70b1
      try clear c71
      try clear c71b0
      try clear c71b1
      try clear c72
      try clear c72b0
      try clear c72b1
      try clear c73
      try clear c73b0
      try clear c73b1
      try clear c74
      try clear c74b0
      try clear c74b1
      try clear c76
      try clear c77
      try clear c77b0
      try clear c77b1
      try clear c79
      try clear c80
      try clear c80b0
      try clear c80b1
      try clear c81
      try clear c82
      try clear c83
      try clear c84
      try clear c85
      try clear c87
      try clear c88
      try clear c89
      try clear c90
      try clear c92
      try clear c93
      try clear c94
      try clear c96
      try clear c97
      try clear c99
      try clear c101
      try clear c102
      try clear c103
      try clear c104
      try clear c105
      try clear c107
      try clear c108
      try clear c109
      try clear c110
      try clear c112
      try clear c113
      try clear c114
      try clear c116
      try clear c117
      try clear c119
      try clear c120
      try clear c121
      try clear c122
      try clear c123
      try clear c125
      try clear c126
      try clear c127
      try clear c128
      try clear c130
      try clear c131
      try clear c132
      try clear c134
      try clear c135
      try clear c137
      try clear c138
      try clear c139
      try clear c140
      try clear c141
      try clear c143
      try clear c144
      try clear c145
      try clear c146
      try clear c148
      try clear c149
      try clear c150
      try clear c152
      try clear c153
      try clear c154
      try clear c155
      try clear c156
      try clear c158
      try clear c159
      try clear c160
      try clear c161
      try clear c163
      try clear c164
      try clear c165
      try clear c167
      try clear c168
      try clear c169
      try clear c170
      try clear c171
      try clear c173
      try clear c174
      try clear c175
      try clear c176
      try clear hcz100_0
      try clear hcz100_1
      try clear hcz106_0
      try clear hcz106_1
      try clear hcz111_0
      try clear hcz111_1
      try clear hcz115_0
      try clear hcz115_1
      try clear hcz118_0
      try clear hcz118_1
      try clear hcz124_0
      try clear hcz124_1
      try clear hcz129_0
      try clear hcz129_1
      try clear hcz133_0
      try clear hcz133_1
      try clear hcz136_0
      try clear hcz136_1
      try clear hcz142_0
      try clear hcz142_1
      try clear hcz147_0
      try clear hcz147_1
      try clear hcz151_0
      try clear hcz151_1
      try clear hcz157_0
      try clear hcz157_1
      try clear hcz162_0
      try clear hcz162_1
      try clear hcz166_0
      try clear hcz166_1
      try clear hcz172_0
      try clear hcz172_1
      try clear hcz177_0
      try clear hcz177_1
      try clear hcz34_0
      try clear hcz34_1
      try clear hcz35_0
      try clear hcz35_1
      try clear hcz41_0
      try clear hcz41_1
      try clear hcz49_0
      try clear hcz49_1
      try clear hcz58_0
      try clear hcz58_1
      try clear hcz68_0
      try clear hcz68_1
      try clear hcz86_0
      try clear hcz86_1
      try clear hcz91_0
      try clear hcz91_1
      try clear hcz95_0
      try clear hcz95_1
      try clear hcz98_0
      try clear hcz98_1
      try clear hfz100_0
      try clear hfz100_1
      try clear hfz106_0
      try clear hfz106_1
      try clear hfz111_0
      try clear hfz111_1
      try clear hfz115_0
      try clear hfz115_1
      try clear hfz118_0
      try clear hfz118_1
      try clear hfz124_0
      try clear hfz124_1
      try clear hfz129_0
      try clear hfz129_1
      try clear hfz133_0
      try clear hfz133_1
      try clear hfz136_0
      try clear hfz136_1
      try clear hfz142_0
      try clear hfz142_1
      try clear hfz147_0
      try clear hfz147_1
      try clear hfz151_0
      try clear hfz151_1
      try clear hfz157_0
      try clear hfz157_1
      try clear hfz162_0
      try clear hfz162_1
      try clear hfz166_0
      try clear hfz166_1
      try clear hfz172_0
      try clear hfz172_1
      try clear hfz177_0
      try clear hfz177_1
      try clear hfz34_0
      try clear hfz34_1
      try clear hfz35_0
      try clear hfz35_1
      try clear hfz41_0
      try clear hfz41_1
      try clear hfz49_0
      try clear hfz49_1
      try clear hfz58_0
      try clear hfz58_1
      try clear hfz68_0
      try clear hfz68_1
      try clear hfz86_0
      try clear hfz86_1
      try clear hfz91_0
      try clear hfz91_1
      try clear hfz95_0
      try clear hfz95_1
      try clear hfz98_0
      try clear hfz98_1
      try clear hx397_0
      try clear hx401_0
      try clear hx405_0
      try clear p2
      try clear p397
      try clear p401
      try clear p405
      try clear p6
      try clear q397
      try clear q401
      try clear q405
      obtain ⟨kq, x6_27, rfl, HA, HJ27, HO_415000, HO_421000, HO_427000, HO_433000, HO_439000, BK392, BK414, BK420, BK426, BK432, BK438, HB⟩ := hcut
      cases kq with
      | zero => exact absurd HA.out (by simp [sleuthlaw44_SegmentationMoves.j1])
      | succ kj27 =>
       have H := HA.out
       clear HA
       simp only [sleuthlaw44_SegmentationMoves.j1] at H
       obtain rfl := Option.some.inj H
       go_wp2
       go_ret
       exact ⟨by first | rfl | (simp [errW_none, errW_some] <;> rfl) | (simp [*, errW_none, errW_some] <;> rfl), qyb_13⟩
 ·replace c5 := Bool.eq_false_iff.mpr c5
  subst c5
  have H1 : (some false) = some r := by rw [if_neg (show ¬ (false = true) by decide)] at H; exact H
  clear H
  have H := H1
  clear H1
  obtain rfl := Option.some.inj H
  go_enter Try.func7, Try.ntmps7
  go_wp2_with (first | ((with_reducible refine gate_dst (N := 4) rfl ?_); (try (refine gate_guard (by rfl) ?_; dsimp only)); refine box_event ?hg (N := 4) ?hd (cs := #[.int .u8 a1_0, .int .u8 a1_1]) (t := 50) ?hr ?_; (case hd => rfl); (case hg => rfl); (case hr => exact qyb_65); intro gb392 hg w178 hbox hb; have n0_ := Aside0.mk (below_step qyb_32 hb); have n1_ := Aside0.mk (hbox); have n2_ := Aside0.mk ((by rw [hg]; exact (below_size qyb_32) : w.heap.size ≤ gb392)); have n3_ := Aside0.mk ((by rw [hg]; exact (below_size qyb_32) : w.heap.size ≤ gb392)); clear HB; have HB := n0_; have BK392 := n1_; have GW392 := n2_; have GE392 := n3_; clear n0_ n1_ n2_ n3_; clear hb hbox hg) | ((with_reducible refine gate_callee (f := 13) rfl ?_); refine goesL_ (some 23) rfl rfl Try.func13 (by kernel_rfl) rfl #[] rfl qyb_20 ?_; (with_reducible refine (sleuthlaw44_known.calls k  false _ A4.out).mono ?_); rintro e w179 ⟨rfl, hb⟩; refine ⟨_, rfl, ?_⟩; have n0_ := Aside0.mk (blk_below (g := gb392) (o := .cells #[.int .u8 a1_0, .int .u8 a1_1] 50 (0, 0)) qyb_15 hb); have n1_ := Aside0.mk (below_step qyb_14 hb); clear BK392; clear HB; have BK392 := n0_; have HB := n1_; clear n0_ n1_; (try clear hb); (try clear hb2); (try clear hk); (try clear hi)))
  go_ret
  exact ⟨by first | rfl | (simp [errW_none, errW_some] <;> rfl) | (simp [*, errW_none, errW_some] <;> rfl), qyb_14⟩

end Go.Proofs.Ytiimanpmidnffaa.Q
