-- Laid by myprint.py (a program of this session's, over the kit's printer and with functions proved by hand)
import Derived.Test.YthdifdnjodbdnaaTy
import Derived.Test.YthdifdnjodbdnaaQgL13
namespace Go.Proofs.Ythdifdnjodbdnaa.Q
open Go.RowKit Go.Proofs.YthdifdnjodbdnaaW.PrintWords Go.Proofs.YthdifdnjodbdnaaW.PrintLast Go.Proofs.YthdifdnjodbdnaaW.PrintMore
attribute [local go_sem] max2_int min2_int max_two min_two max_three min_three max_four min_four   -- for this text's walks alone
set_option linter.unusedVariables false
set_option linter.unusedSimpArgs false

abbrev T3449 : Bool := true
abbrev F3449 : Bool := false
theorem qgtms_0 {p : Prop} (h : p := by repeat (first | (with_reducible first | exact HB.out | apply below_alloc | apply pw_below_drewN | apply below_drew1 | refine below_set ?_ GE183.out | refine below_set ?_ GE185.out) | exact HB.out)) : p := h
theorem qgtms_1 {p : Prop} (h : p := by (with_reducible repeat (first | refine blk_drewN ?_ _ | refine blk_drew ?_ | refine blk_alloc ?_ _)); refine blk_put (cs := #[.int .u8 ((rd_T153 l0_2 x4_1).f0), .int .u8 ((rd_T153 l0_2 x4_1).f1), .int .u8 ((rd_T153 l0_2 x4_1).f2), .int .u8 ((rd_T153 l0_2 x4_1).f3), .int .u8 ((rd_T153 l0_2 x4_1).f4), .int .u8 ((rd_T153 l0_2 x4_1).f5), .int .u8 ((rd_T153 l0_2 x4_1).f6), .int .u8 ((rd_T153 l0_2 x4_1).f7), .int .u8 ((rd_T153 l0_2 x4_1).f8), .int .u8 ((rd_T153 l0_2 x4_1).f9), .bool false]) ?_ 10 _ rfl; (with_reducible repeat (first | refine blk_drewN ?_ _ | refine blk_drew ?_ | refine blk_alloc ?_ _)); refine blk_put (cs := #[.int .u8 ((rd_T153 l0_2 x4_1).f0), .int .u8 ((rd_T153 l0_2 x4_1).f1), .int .u8 ((rd_T153 l0_2 x4_1).f2), .int .u8 ((rd_T153 l0_2 x4_1).f3), .int .u8 ((rd_T153 l0_2 x4_1).f4), .int .u8 ((rd_T153 l0_2 x4_1).f5), .int .u8 ((rd_T153 l0_2 x4_1).f6), .int .u8 ((rd_T153 l0_2 x4_1).f7), .int .u8 ((rd_T153 l0_2 x4_1).f8), .int .u8 0, .bool false]) ?_ 9 _ rfl; (with_reducible repeat (first | refine blk_drewN ?_ _ | refine blk_drew ?_ | refine blk_alloc ?_ _)); refine blk_put (cs := #[.int .u8 ((rd_T153 l0_2 x4_1).f0), .int .u8 ((rd_T153 l0_2 x4_1).f1), .int .u8 ((rd_T153 l0_2 x4_1).f2), .int .u8 ((rd_T153 l0_2 x4_1).f3), .int .u8 ((rd_T153 l0_2 x4_1).f4), .int .u8 ((rd_T153 l0_2 x4_1).f5), .int .u8 ((rd_T153 l0_2 x4_1).f6), .int .u8 ((rd_T153 l0_2 x4_1).f7), .int .u8 0, .int .u8 0, .bool false]) ?_ 8 _ rfl; (with_reducible repeat (first | refine blk_drewN ?_ _ | refine blk_drew ?_ | refine blk_alloc ?_ _)); refine blk_put (cs := #[.int .u8 ((rd_T153 l0_2 x4_1).f0), .int .u8 ((rd_T153 l0_2 x4_1).f1), .int .u8 ((rd_T153 l0_2 x4_1).f2), .int .u8 ((rd_T153 l0_2 x4_1).f3), .int .u8 ((rd_T153 l0_2 x4_1).f4), .int .u8 ((rd_T153 l0_2 x4_1).f5), .int .u8 ((rd_T153 l0_2 x4_1).f6), .int .u8 0, .int .u8 0, .int .u8 0, .bool false]) ?_ 7 _ rfl; (with_reducible repeat (first | refine blk_drewN ?_ _ | refine blk_drew ?_ | refine blk_alloc ?_ _)); refine blk_put (cs := #[.int .u8 ((rd_T153 l0_2 x4_1).f0), .int .u8 ((rd_T153 l0_2 x4_1).f1), .int .u8 ((rd_T153 l0_2 x4_1).f2), .int .u8 ((rd_T153 l0_2 x4_1).f3), .int .u8 ((rd_T153 l0_2 x4_1).f4), .int .u8 ((rd_T153 l0_2 x4_1).f5), .int .u8 0, .int .u8 0, .int .u8 0, .int .u8 0, .bool false]) ?_ 6 _ rfl; (with_reducible repeat (first | refine blk_drewN ?_ _ | refine blk_drew ?_ | refine blk_alloc ?_ _)); refine blk_put (cs := #[.int .u8 ((rd_T153 l0_2 x4_1).f0), .int .u8 ((rd_T153 l0_2 x4_1).f1), .int .u8 ((rd_T153 l0_2 x4_1).f2), .int .u8 ((rd_T153 l0_2 x4_1).f3), .int .u8 ((rd_T153 l0_2 x4_1).f4), .int .u8 0, .int .u8 0, .int .u8 0, .int .u8 0, .int .u8 0, .bool false]) ?_ 5 _ rfl; (with_reducible repeat (first | refine blk_drewN ?_ _ | refine blk_drew ?_ | refine blk_alloc ?_ _)); refine blk_put (cs := #[.int .u8 ((rd_T153 l0_2 x4_1).f0), .int .u8 ((rd_T153 l0_2 x4_1).f1), .int .u8 ((rd_T153 l0_2 x4_1).f2), .int .u8 ((rd_T153 l0_2 x4_1).f3), .int .u8 0, .int .u8 0, .int .u8 0, .int .u8 0, .int .u8 0, .int .u8 0, .bool false]) ?_ 4 _ rfl; (with_reducible repeat (first | refine blk_drewN ?_ _ | refine blk_drew ?_ | refine blk_alloc ?_ _)); refine blk_put (cs := #[.int .u8 ((rd_T153 l0_2 x4_1).f0), .int .u8 ((rd_T153 l0_2 x4_1).f1), .int .u8 ((rd_T153 l0_2 x4_1).f2), .int .u8 0, .int .u8 0, .int .u8 0, .int .u8 0, .int .u8 0, .int .u8 0, .int .u8 0, .bool false]) ?_ 3 _ rfl; (with_reducible repeat (first | refine blk_drewN ?_ _ | refine blk_drew ?_ | refine blk_alloc ?_ _)); refine blk_put (cs := #[.int .u8 ((rd_T153 l0_2 x4_1).f0), .int .u8 ((rd_T153 l0_2 x4_1).f1), .int .u8 0, .int .u8 0, .int .u8 0, .int .u8 0, .int .u8 0, .int .u8 0, .int .u8 0, .int .u8 0, .bool false]) ?_ 2 _ rfl; (with_reducible repeat (first | refine blk_drewN ?_ _ | refine blk_drew ?_ | refine blk_alloc ?_ _)); refine blk_put (cs := #[.int .u8 ((rd_T153 l0_2 x4_1).f0), .int .u8 0, .int .u8 0, .int .u8 0, .int .u8 0, .int .u8 0, .int .u8 0, .int .u8 0, .int .u8 0, .int .u8 0, .bool false]) ?_ 1 _ rfl; (with_reducible repeat (first | refine blk_drewN ?_ _ | refine blk_drew ?_ | refine blk_alloc ?_ _)); refine blk_put (cs := #[.int .u8 0, .int .u8 0, .int .u8 0, .int .u8 0, .int .u8 0, .int .u8 0, .int .u8 0, .int .u8 0, .int .u8 0, .int .u8 0, .bool false]) ?_ 0 _ rfl; (with_reducible repeat (first | refine blk_drewN ?_ _ | refine blk_drew ?_ | refine blk_alloc ?_ _)); exact BK185.out) : p := h
theorem qgtms_2 {p : Prop} (h : p := by (with_reducible repeat (first | refine blk_drewN ?_ _ | refine blk_drew ?_ | refine blk_alloc ?_ _)); exact BK183.out) : p := h
theorem qgtms_3 {p : Prop} (h : p := by (with_reducible repeat (first | apply Kd.R_alloc | apply Kd.R_drewN | apply Kd.R_drew)); exact HO_3.out) : p := h
theorem qgtms_4 {p : Prop} (h : p := by repeat (first | (with_reducible first | exact HB.out | apply below_alloc | apply pw_below_drewN | apply below_drew1 | refine below_set ?_ GE183.out) | exact HB.out)) : p := h
theorem qgtms_5 {p : Prop} (h : p := by (with_reducible repeat (first | apply Kd.R_alloc | apply Kd.R_drewN | apply Kd.R_drew)); exact HO_2.out) : p := h
theorem qgtms_6 {p : Prop} (h : p := by (with_reducible repeat (first | refine blk_drewN ?_ _ | refine blk_drew ?_ | refine blk_alloc ?_ _)); refine blk_far ?_ NB183_185.out _; (with_reducible repeat (first | refine blk_drewN ?_ _ | refine blk_drew ?_ | refine blk_alloc ?_ _)); refine blk_far ?_ NB183_185.out _; (with_reducible repeat (first | refine blk_drewN ?_ _ | refine blk_drew ?_ | refine blk_alloc ?_ _)); refine blk_far ?_ NB183_185.out _; (with_reducible repeat (first | refine blk_drewN ?_ _ | refine blk_drew ?_ | refine blk_alloc ?_ _)); refine blk_far ?_ NB183_185.out _; (with_reducible repeat (first | refine blk_drewN ?_ _ | refine blk_drew ?_ | refine blk_alloc ?_ _)); refine blk_far ?_ NB183_185.out _; (with_reducible repeat (first | refine blk_drewN ?_ _ | refine blk_drew ?_ | refine blk_alloc ?_ _)); refine blk_far ?_ NB183_185.out _; (with_reducible repeat (first | refine blk_drewN ?_ _ | refine blk_drew ?_ | refine blk_alloc ?_ _)); refine blk_far ?_ NB183_185.out _; (with_reducible repeat (first | refine blk_drewN ?_ _ | refine blk_drew ?_ | refine blk_alloc ?_ _)); refine blk_far ?_ NB183_185.out _; (with_reducible repeat (first | refine blk_drewN ?_ _ | refine blk_drew ?_ | refine blk_alloc ?_ _)); refine blk_far ?_ NB183_185.out _; (with_reducible repeat (first | refine blk_drewN ?_ _ | refine blk_drew ?_ | refine blk_alloc ?_ _)); refine blk_far ?_ NB183_185.out _; (with_reducible repeat (first | refine blk_drewN ?_ _ | refine blk_drew ?_ | refine blk_alloc ?_ _)); refine blk_far ?_ NB183_185.out _; (with_reducible repeat (first | refine blk_drewN ?_ _ | refine blk_drew ?_ | refine blk_alloc ?_ _)); exact BK183.out) : p := h
theorem qgtms_7 {p : Prop} (h : p := by (with_reducible repeat (first | refine blk_drewN ?_ _ | refine blk_drew ?_ | refine blk_alloc ?_ _)); exact BK185.out) : p := h
theorem qgtms_8 {p : Prop} (h : p := by (with_reducible repeat (first | apply Kd.R_alloc | apply Kd.R_drewN | apply Kd.R_drew)); exact Kd.R_mono (Kd.R_far (p := ⟨gb185, 10, none⟩) (Kd.R_far (p := ⟨gb185, 9, none⟩) (Kd.R_far (p := ⟨gb185, 8, none⟩) (Kd.R_far (p := ⟨gb185, 7, none⟩) (Kd.R_far (p := ⟨gb185, 6, none⟩) (Kd.R_far (p := ⟨gb185, 5, none⟩) (Kd.R_far (p := ⟨gb185, 4, none⟩) (Kd.R_far (p := ⟨gb185, 3, none⟩) (Kd.R_far (p := ⟨gb185, 2, none⟩) (Kd.R_far (p := ⟨gb185, 1, none⟩) (Kd.R_far (p := ⟨gb185, 0, none⟩) (Kd.R_types HO_2.out BK185.out (by decide)) (fun _ hk => hk.2) (.int .u8 ((rd_T153 l0_2 x4_1).f0))) (fun _ hk => hk.2) (.int .u8 ((rd_T153 l0_2 x4_1).f1))) (fun _ hk => hk.2) (.int .u8 ((rd_T153 l0_2 x4_1).f2))) (fun _ hk => hk.2) (.int .u8 ((rd_T153 l0_2 x4_1).f3))) (fun _ hk => hk.2) (.int .u8 ((rd_T153 l0_2 x4_1).f4))) (fun _ hk => hk.2) (.int .u8 ((rd_T153 l0_2 x4_1).f5))) (fun _ hk => hk.2) (.int .u8 ((rd_T153 l0_2 x4_1).f6))) (fun _ hk => hk.2) (.int .u8 ((rd_T153 l0_2 x4_1).f7))) (fun _ hk => hk.2) (.int .u8 ((rd_T153 l0_2 x4_1).f8))) (fun _ hk => hk.2) (.int .u8 ((rd_T153 l0_2 x4_1).f9))) (fun _ hk => hk.2) (.bool ((rd_T153 l0_2 x4_1).f10))) (fun _ hk => hk.1)) : p := h
theorem qgtms_9 {p : Prop} (h : p := by (with_reducible repeat (first | apply Kd.R_alloc | apply Kd.R_drewN | apply Kd.R_drew)); exact Kd.R_mono (Kd.R_far (p := ⟨gb185, 10, none⟩) (Kd.R_far (p := ⟨gb185, 9, none⟩) (Kd.R_far (p := ⟨gb185, 8, none⟩) (Kd.R_far (p := ⟨gb185, 7, none⟩) (Kd.R_far (p := ⟨gb185, 6, none⟩) (Kd.R_far (p := ⟨gb185, 5, none⟩) (Kd.R_far (p := ⟨gb185, 4, none⟩) (Kd.R_far (p := ⟨gb185, 3, none⟩) (Kd.R_far (p := ⟨gb185, 2, none⟩) (Kd.R_far (p := ⟨gb185, 1, none⟩) (Kd.R_far (p := ⟨gb185, 0, none⟩) (Kd.R_types HO_3.out BK185.out (by decide)) (fun _ hk => hk.2) (.int .u8 ((rd_T153 l0_2 x4_1).f0))) (fun _ hk => hk.2) (.int .u8 ((rd_T153 l0_2 x4_1).f1))) (fun _ hk => hk.2) (.int .u8 ((rd_T153 l0_2 x4_1).f2))) (fun _ hk => hk.2) (.int .u8 ((rd_T153 l0_2 x4_1).f3))) (fun _ hk => hk.2) (.int .u8 ((rd_T153 l0_2 x4_1).f4))) (fun _ hk => hk.2) (.int .u8 ((rd_T153 l0_2 x4_1).f5))) (fun _ hk => hk.2) (.int .u8 ((rd_T153 l0_2 x4_1).f6))) (fun _ hk => hk.2) (.int .u8 ((rd_T153 l0_2 x4_1).f7))) (fun _ hk => hk.2) (.int .u8 ((rd_T153 l0_2 x4_1).f8))) (fun _ hk => hk.2) (.int .u8 ((rd_T153 l0_2 x4_1).f9))) (fun _ hk => hk.2) (.bool ((rd_T153 l0_2 x4_1).f10))) (fun _ hk => hk.1)) : p := h
theorem qgtms_10 {p : Prop} (h : p := by first | (with_reducible assumption) | assumption) : p := h
theorem qgtms_11 {p : Prop} (h : p := by (with_reducible repeat (first | apply Kd.R_alloc | apply Kd.R_drewN | apply Kd.R_drew)); exact HO189.out) : p := h
theorem qgtms_12 {p : Prop} (h : p := by first | rfl | (simp; done) | (simp [*]; done)) : p := h
theorem qgtms_13 {p : Prop} (h : p := by (with_reducible repeat (first | apply Kd.R_alloc | apply Kd.R_drewN | apply Kd.R_drew)); exact HO195.out) : p := h
theorem qgtms_14 {p : Prop} (h : p := by exact (Reps.one (show Kd.M (Kd.int .i64) _ _ _ (wrap64 (x6_16 + (wrap64 (Int.tmod ((rd_T153 l0_2 x4_1).f7) 32)))) [.int .i64 (wrap64 (x6_16 + (wrap64 (Int.tmod ((rd_T153 l0_2 x4_1).f7) 32))))] from rfl) (Reps.none _ _))) : p := h
theorem qgtms_15 {p : Prop} (h : p := by repeat (first | exact (Kd.R_reads' HO189.out).2.2 | (with_reducible refine Kd.C_alloc ?_ _) | (with_reducible refine Kd.C_drewN ?_ _) | (with_reducible refine Kd.C_drew ?_))) : p := h
theorem qgtms_16 {p : Prop} (h : p := by repeat (first | (with_reducible first | exact HB.out | apply below_alloc | apply pw_below_drewN | apply below_drew1) | exact HB.out)) : p := h
theorem qgtms_17 {p : Prop} (h : p := by (with_reducible repeat (first | apply Kd.R_alloc | apply Kd.R_drewN | apply Kd.R_drew)); exact HO192.out) : p := h
theorem qgtms_18 {p : Prop} (h : p := by have := HK1.out; have := HK2.out; first | omega | exact Nat.le_refl _) : p := h
theorem qgtms_19 {p : Prop} (h : p := by simp only [putAll, Act.put, List.setIfInBounds_toArray, List.set_cons_zero, List.set_cons_succ]) : p := h
theorem qgtms_20 {p : Prop} (h : p := by (with_reducible repeat (first | apply Kd.R_alloc | apply Kd.R_drewN | apply Kd.R_drew)); exact Kd.R_mono HO189.out (fun _ hk => ⟨⟨hk.1.2, hk.2⟩, hk.1.1.2⟩)) : p := h
theorem qgtms_21 {p : Prop} (h : p := by (with_reducible repeat (first | apply Kd.R_alloc | apply Kd.R_drewN | apply Kd.R_drew)); exact Kd.R_mono HO195.out (fun _ hk => ⟨⟨hk.1.2, hk.2⟩, hk.1.1.2⟩)) : p := h
theorem qgtms_22 {p : Prop} (h : p := by (with_reducible repeat (first | apply Kd.R_alloc | apply Kd.R_drewN | apply Kd.R_drew)); exact Kd.R_mono HO189.out (fun _ hk => ⟨hk.2, ⟨hk.1.2, hk.1.1⟩⟩)) : p := h
theorem qgtms_23 {p : Prop} (h : p := by (with_reducible repeat (first | apply Kd.R_alloc | apply Kd.R_drewN | apply Kd.R_drew)); exact Kd.R_mono HO195.out (fun _ hk => ⟨hk.1.2, ⟨hk.2, hk.1.1⟩⟩)) : p := h
theorem qgtms_24 {p : Prop} (h : p := by (with_reducible repeat (first | apply Kd.R_alloc | apply Kd.R_drewN | apply Kd.R_drew)); exact Kd.R_mono HO_2.out (fun _ hk => ⟨hk.1.1, ⟨hk.1.2, hk.2⟩⟩)) : p := h
theorem qgtms_25 {p : Prop} (h : p := by (with_reducible repeat (first | apply Kd.R_alloc | apply Kd.R_drewN | apply Kd.R_drew)); exact Kd.R_mono HO_3.out (fun _ hk => ⟨⟨hk.1.2, hk.2⟩, hk.1.1⟩)) : p := h
theorem qgtms_26 {p : Prop} (h : p := by first | (go_simp; done) | (go_simp; rfl)) : p := h
theorem qgtms_27 {p : Prop} (h : p := by first | exact Kd.R_nil _ _ _ _ _ | exact Kd.N_nil _ _ _ _ _ | exact Kd.V_nil _ _ _ _ _ | exact Kd.Q_nil _ _ _ _ _ | exact Kd.S_nil _ _ _ _ _) : p := h
/-! ### sleuthlaw13_times: function 68 -/
mutual
def sleuthlaw13_times.l0 : Nat → List Int → List Int → Int → Int → Int → List (S153) → Option (List Int × List Int)
 | 0, _, _, _, _, _, _ => none
 | k + 1, x2, x3, x4, x184000, x184001, x184002 => if x4 < (x184002.length : Int) then (if 0 ≤ x4 then (if (wrap64 (x4 + 1)) = 0 then (none) else (if (Int.tmod (wrap64 ((rd_T153 x184002 x4).f0)) (wrap64 (x4 + 1))) < x4 then (if 0 ≤ (Int.tmod (wrap64 ((rd_T153 x184002 x4).f0)) (wrap64 (x4 + 1))) then (if (Int.tmod (wrap64 ((rd_T153 x184002 x4).f0)) (wrap64 (x4 + 1))) < (x2.length : Int) then (sleuthlaw13_times.j1 k x2 x3 x4 (rd x2 (Int.tmod (wrap64 ((rd_T153 x184002 x4).f0)) (wrap64 (x4 + 1)))) x184000 x184001 x184002 ((rd_T153 x184002 x4).f0) ((rd_T153 x184002 x4).f1) ((rd_T153 x184002 x4).f2) ((rd_T153 x184002 x4).f3) ((rd_T153 x184002 x4).f4) ((rd_T153 x184002 x4).f5) ((rd_T153 x184002 x4).f6) ((rd_T153 x184002 x4).f7) ((rd_T153 x184002 x4).f8) ((rd_T153 x184002 x4).f9) ((rd_T153 x184002 x4).f10)) else (none)) else (none)) else (sleuthlaw13_times.j1 k x2 x3 x4 (wrap64 (1000 + (wrap64 (Int.tmod x184001 32)))) x184000 x184001 x184002 ((rd_T153 x184002 x4).f0) ((rd_T153 x184002 x4).f1) ((rd_T153 x184002 x4).f2) ((rd_T153 x184002 x4).f3) ((rd_T153 x184002 x4).f4) ((rd_T153 x184002 x4).f5) ((rd_T153 x184002 x4).f6) ((rd_T153 x184002 x4).f7) ((rd_T153 x184002 x4).f8) ((rd_T153 x184002 x4).f9) ((rd_T153 x184002 x4).f10)))) else (none)) else (sleuthlaw13_times.l1 k x2 x3 (wrap64 ((x184002.length : Int) - 1)) x184000 x184001 x184002)
def sleuthlaw13_times.j1 : Nat → List Int → List Int → Int → Int → Int → Int → List (S153) → Int → Int → Int → Int → Int → Int → Int → Int → Int → Int → Bool → Option (List Int × List Int)
 | 0, _, _, _, _, _, _, _, _, _, _, _, _, _, _, _, _, _, _ => none
 | k + 1, x2, x3, x4, x6, x184000, x184001, x184002, x186000, x186001, x186002, x186003, x186004, x186005, x186006, x186007, x186008, x186009, x186010 => if x4 > 0 then (sleuthlaw13_times.j2 k x2 x3 x4 (wrap64 (x6 + (wrap64 (Int.tmod x186006 32)))) x184000 x184001 x184002 x186000 x186001 x186002 x186003 x186004 x186005 x186006 x186007 x186008 x186009 x186010) else (sleuthlaw13_times.j2 k x2 x3 x4 x6 x184000 x184001 x184002 x186000 x186001 x186002 x186003 x186004 x186005 x186006 x186007 x186008 x186009 x186010)
def sleuthlaw13_times.j2 : Nat → List Int → List Int → Int → Int → Int → Int → List (S153) → Int → Int → Int → Int → Int → Int → Int → Int → Int → Int → Bool → Option (List Int × List Int)
 | 0, _, _, _, _, _, _, _, _, _, _, _, _, _, _, _, _, _, _ => none
 | k + 1, x2, x3, x4, x6, x184000, x184001, x184002, x186000, x186001, x186002, x186003, x186004, x186005, x186006, x186007, x186008, x186009, x186010 => (some (([x6] : List Int) : List Int)).bind fun y187 => (if x2.length + y187.length < 17592186044416 then ((some (([wrap64 (x6 + (wrap64 (Int.tmod x186007 32)))] : List Int) : List Int)).bind fun y193 => (if x3.length + y193.length < 17592186044416 then (sleuthlaw13_times.l0 k (x2 ++ y187) (x3 ++ y193) (wrap64 (x4 + 1)) x184000 x184001 x184002) else (none))) else (none))
def sleuthlaw13_times.l1 : Nat → List Int → List Int → Int → Int → Int → List (S153) → Option (List Int × List Int)
 | 0, _, _, _, _, _, _ => none
 | k + 1, x2, x3, x8, x184000, x184001, x184002 => if x8 > 0 then (if 0 ≤ x8 then (if x8 < (x184002.length : Int) then (if (wrap64 (x8 + 1)) = 0 then (none) else (if (Int.tmod (wrap64 ((rd_T153 x184002 x8).f0)) (wrap64 (x8 + 1))) < x8 then ((sleuthlaw13_kind.f ((rd_T153 x184002 x8).f0) ((rd_T153 x184002 x8).f1) ((rd_T153 x184002 x8).f2) ((rd_T153 x184002 x8).f3) ((rd_T153 x184002 x8).f4) ((rd_T153 x184002 x8).f5) ((rd_T153 x184002 x8).f6) ((rd_T153 x184002 x8).f7) ((rd_T153 x184002 x8).f8) ((rd_T153 x184002 x8).f9) ((rd_T153 x184002 x8).f10)).bind fun t201 => (if t201 = 3 then (if 0 ≤ (Int.tmod (wrap64 ((rd_T153 x184002 x8).f0)) (wrap64 (x8 + 1))) then (if (Int.tmod (wrap64 ((rd_T153 x184002 x8).f0)) (wrap64 (x8 + 1))) < (x184002.length : Int) then ((sleuthlaw13_kind.f ((rd_T153 x184002 (Int.tmod (wrap64 ((rd_T153 x184002 x8).f0)) (wrap64 (x8 + 1)))).f0) ((rd_T153 x184002 (Int.tmod (wrap64 ((rd_T153 x184002 x8).f0)) (wrap64 (x8 + 1)))).f1) ((rd_T153 x184002 (Int.tmod (wrap64 ((rd_T153 x184002 x8).f0)) (wrap64 (x8 + 1)))).f2) ((rd_T153 x184002 (Int.tmod (wrap64 ((rd_T153 x184002 x8).f0)) (wrap64 (x8 + 1)))).f3) ((rd_T153 x184002 (Int.tmod (wrap64 ((rd_T153 x184002 x8).f0)) (wrap64 (x8 + 1)))).f4) ((rd_T153 x184002 (Int.tmod (wrap64 ((rd_T153 x184002 x8).f0)) (wrap64 (x8 + 1)))).f5) ((rd_T153 x184002 (Int.tmod (wrap64 ((rd_T153 x184002 x8).f0)) (wrap64 (x8 + 1)))).f6) ((rd_T153 x184002 (Int.tmod (wrap64 ((rd_T153 x184002 x8).f0)) (wrap64 (x8 + 1)))).f7) ((rd_T153 x184002 (Int.tmod (wrap64 ((rd_T153 x184002 x8).f0)) (wrap64 (x8 + 1)))).f8) ((rd_T153 x184002 (Int.tmod (wrap64 ((rd_T153 x184002 x8).f0)) (wrap64 (x8 + 1)))).f9) ((rd_T153 x184002 (Int.tmod (wrap64 ((rd_T153 x184002 x8).f0)) (wrap64 (x8 + 1)))).f10)).bind fun t203 => (if t203 = 2 then (sleuthlaw13_times.j4 k x2 x3 x8 (Int.tmod (wrap64 ((rd_T153 x184002 x8).f0)) (wrap64 (x8 + 1))) (!((rd_T153 x184002 (Int.tmod (wrap64 ((rd_T153 x184002 x8).f0)) (wrap64 (x8 + 1)))).f10)) x184000 x184001 x184002) else (sleuthlaw13_times.j4 k x2 x3 x8 (Int.tmod (wrap64 ((rd_T153 x184002 x8).f0)) (wrap64 (x8 + 1))) false x184000 x184001 x184002))) else (none)) else (none)) else (sleuthlaw13_times.j4 k x2 x3 x8 (Int.tmod (wrap64 ((rd_T153 x184002 x8).f0)) (wrap64 (x8 + 1))) false x184000 x184001 x184002))) else (sleuthlaw13_times.j4 k x2 x3 x8 (Int.tmod (wrap64 ((rd_T153 x184002 x8).f0)) (wrap64 (x8 + 1))) false x184000 x184001 x184002))) else (none)) else (none)) else (some (x2, x3))
def sleuthlaw13_times.j4 : Nat → List Int → List Int → Int → Int → Bool → Int → Int → List (S153) → Option (List Int × List Int)
 | 0, _, _, _, _, _, _, _, _ => none
 | k + 1, x2, x3, x8, x9, x108, x184000, x184001, x184002 => if x108 = true then (if 0 ≤ x9 then (if x9 < (x3.length : Int) then (if 0 ≤ x8 then (if x8 < (x3.length : Int) then (sleuthlaw13_times.l1 k x2 (x3.set (x9 : Int).toNat (mx (rd x3 x9) (rd x3 x8))) (wrap64 (x8 - 1)) x184000 x184001 x184002) else (none)) else (none)) else (none)) else (none)) else (sleuthlaw13_times.l1 k x2 x3 (wrap64 (x8 - 1)) x184000 x184001 x184002)
end
def sleuthlaw13_times.f (k : Nat) (a0_0 : Int) (a0_1 : Int) (l0_2 : List (S153)) : Option (List Int × List Int) := sleuthlaw13_times.l0 k ([] : List Int) ([] : List Int) 0 a0_0 a0_1 l0_2
theorem sleuthlaw13_times.mono_l : ∀ k, (∀ y0 y1 y2 y3 y4 y5, LeO (sleuthlaw13_times.l0 k y0 y1 y2 y3 y4 y5) (sleuthlaw13_times.l0 (k + 1) y0 y1 y2 y3 y4 y5)) ∧ (∀ y0 y1 y2 y3 y4 y5 y6 y7 y8 y9 y10 y11 y12 y13 y14 y15 y16 y17, LeO (sleuthlaw13_times.j1 k y0 y1 y2 y3 y4 y5 y6 y7 y8 y9 y10 y11 y12 y13 y14 y15 y16 y17) (sleuthlaw13_times.j1 (k + 1) y0 y1 y2 y3 y4 y5 y6 y7 y8 y9 y10 y11 y12 y13 y14 y15 y16 y17)) ∧ (∀ y0 y1 y2 y3 y4 y5 y6 y7 y8 y9 y10 y11 y12 y13 y14 y15 y16 y17, LeO (sleuthlaw13_times.j2 k y0 y1 y2 y3 y4 y5 y6 y7 y8 y9 y10 y11 y12 y13 y14 y15 y16 y17) (sleuthlaw13_times.j2 (k + 1) y0 y1 y2 y3 y4 y5 y6 y7 y8 y9 y10 y11 y12 y13 y14 y15 y16 y17)) ∧ (∀ y0 y1 y2 y3 y4 y5, LeO (sleuthlaw13_times.l1 k y0 y1 y2 y3 y4 y5) (sleuthlaw13_times.l1 (k + 1) y0 y1 y2 y3 y4 y5)) ∧ (∀ y0 y1 y2 y3 y4 y5 y6 y7, LeO (sleuthlaw13_times.j4 k y0 y1 y2 y3 y4 y5 y6 y7) (sleuthlaw13_times.j4 (k + 1) y0 y1 y2 y3 y4 y5 y6 y7))
 | 0 => ⟨fun _ _ _ _ _ _ r h => by simp [sleuthlaw13_times.l0] at h, fun _ _ _ _ _ _ _ _ _ _ _ _ _ _ _ _ _ _ r h => by simp [sleuthlaw13_times.j1] at h, fun _ _ _ _ _ _ _ _ _ _ _ _ _ _ _ _ _ _ r h => by simp [sleuthlaw13_times.j2] at h, fun _ _ _ _ _ _ r h => by simp [sleuthlaw13_times.l1] at h, fun _ _ _ _ _ _ _ _ r h => by simp [sleuthlaw13_times.j4] at h⟩
 | k + 1 => by
  obtain ⟨ih0, ih1, ih2, ih3, ih4⟩ := sleuthlaw13_times.mono_l k
  refine ⟨?_, ?_, ?_, ?_, ?_⟩
  ·intro y0 y1 y2 y3 y4 y5
   unfold sleuthlaw13_times.l0
   repeat' first
   | (with_reducible exact ih0 _ _ _ _ _ _)
   | (with_reducible exact ih1 _ _ _ _ _ _ _ _ _ _ _ _ _ _ _ _ _ _)
   | (with_reducible exact ih2 _ _ _ _ _ _ _ _ _ _ _ _ _ _ _ _ _ _)
   | (with_reducible exact ih3 _ _ _ _ _ _)
   | (with_reducible exact ih4 _ _ _ _ _ _ _ _)
   | (with_reducible exact LeO.refl _)
   | (with_reducible exact LeO.none _)
   | (with_reducible refine LeO.ite ?_ ?_)
   | (with_reducible refine LeO.bind ?_ (fun _ => ?_))
   | exact ih0 _ _ _ _ _ _
   | exact ih1 _ _ _ _ _ _ _ _ _ _ _ _ _ _ _ _ _ _
   | exact ih2 _ _ _ _ _ _ _ _ _ _ _ _ _ _ _ _ _ _
   | exact ih3 _ _ _ _ _ _
   | exact ih4 _ _ _ _ _ _ _ _
   | exact LeO.none _
   | refine LeO.ite ?_ ?_
   | refine LeO.bind ?_ (fun _ => ?_)
  ·intro y0 y1 y2 y3 y4 y5 y6 y7 y8 y9 y10 y11 y12 y13 y14 y15 y16 y17
   unfold sleuthlaw13_times.j1
   repeat' first
   | (with_reducible exact ih0 _ _ _ _ _ _)
   | (with_reducible exact ih1 _ _ _ _ _ _ _ _ _ _ _ _ _ _ _ _ _ _)
   | (with_reducible exact ih2 _ _ _ _ _ _ _ _ _ _ _ _ _ _ _ _ _ _)
   | (with_reducible exact ih3 _ _ _ _ _ _)
   | (with_reducible exact ih4 _ _ _ _ _ _ _ _)
   | (with_reducible exact LeO.refl _)
   | (with_reducible exact LeO.none _)
   | (with_reducible refine LeO.ite ?_ ?_)
   | (with_reducible refine LeO.bind ?_ (fun _ => ?_))
   | exact ih0 _ _ _ _ _ _
   | exact ih1 _ _ _ _ _ _ _ _ _ _ _ _ _ _ _ _ _ _
   | exact ih2 _ _ _ _ _ _ _ _ _ _ _ _ _ _ _ _ _ _
   | exact ih3 _ _ _ _ _ _
   | exact ih4 _ _ _ _ _ _ _ _
   | exact LeO.none _
   | refine LeO.ite ?_ ?_
   | refine LeO.bind ?_ (fun _ => ?_)
  ·intro y0 y1 y2 y3 y4 y5 y6 y7 y8 y9 y10 y11 y12 y13 y14 y15 y16 y17
   unfold sleuthlaw13_times.j2
   repeat' first
   | (with_reducible exact ih0 _ _ _ _ _ _)
   | (with_reducible exact ih1 _ _ _ _ _ _ _ _ _ _ _ _ _ _ _ _ _ _)
   | (with_reducible exact ih2 _ _ _ _ _ _ _ _ _ _ _ _ _ _ _ _ _ _)
   | (with_reducible exact ih3 _ _ _ _ _ _)
   | (with_reducible exact ih4 _ _ _ _ _ _ _ _)
   | (with_reducible exact LeO.refl _)
   | (with_reducible exact LeO.none _)
   | (with_reducible refine LeO.ite ?_ ?_)
   | (with_reducible refine LeO.bind ?_ (fun _ => ?_))
   | exact ih0 _ _ _ _ _ _
   | exact ih1 _ _ _ _ _ _ _ _ _ _ _ _ _ _ _ _ _ _
   | exact ih2 _ _ _ _ _ _ _ _ _ _ _ _ _ _ _ _ _ _
   | exact ih3 _ _ _ _ _ _
   | exact ih4 _ _ _ _ _ _ _ _
   | exact LeO.none _
   | refine LeO.ite ?_ ?_
   | refine LeO.bind ?_ (fun _ => ?_)
  ·intro y0 y1 y2 y3 y4 y5
   unfold sleuthlaw13_times.l1
   repeat' first
   | (with_reducible exact ih0 _ _ _ _ _ _)
   | (with_reducible exact ih1 _ _ _ _ _ _ _ _ _ _ _ _ _ _ _ _ _ _)
   | (with_reducible exact ih2 _ _ _ _ _ _ _ _ _ _ _ _ _ _ _ _ _ _)
   | (with_reducible exact ih3 _ _ _ _ _ _)
   | (with_reducible exact ih4 _ _ _ _ _ _ _ _)
   | (with_reducible exact LeO.refl _)
   | (with_reducible exact LeO.none _)
   | (with_reducible refine LeO.ite ?_ ?_)
   | (with_reducible refine LeO.bind ?_ (fun _ => ?_))
   | exact ih0 _ _ _ _ _ _
   | exact ih1 _ _ _ _ _ _ _ _ _ _ _ _ _ _ _ _ _ _
   | exact ih2 _ _ _ _ _ _ _ _ _ _ _ _ _ _ _ _ _ _
   | exact ih3 _ _ _ _ _ _
   | exact ih4 _ _ _ _ _ _ _ _
   | exact LeO.none _
   | refine LeO.ite ?_ ?_
   | refine LeO.bind ?_ (fun _ => ?_)
  ·intro y0 y1 y2 y3 y4 y5 y6 y7
   unfold sleuthlaw13_times.j4
   repeat' first
   | (with_reducible exact ih0 _ _ _ _ _ _)
   | (with_reducible exact ih1 _ _ _ _ _ _ _ _ _ _ _ _ _ _ _ _ _ _)
   | (with_reducible exact ih2 _ _ _ _ _ _ _ _ _ _ _ _ _ _ _ _ _ _)
   | (with_reducible exact ih3 _ _ _ _ _ _)
   | (with_reducible exact ih4 _ _ _ _ _ _ _ _)
   | (with_reducible exact LeO.refl _)
   | (with_reducible exact LeO.none _)
   | (with_reducible refine LeO.ite ?_ ?_)
   | (with_reducible refine LeO.bind ?_ (fun _ => ?_))
   | exact ih0 _ _ _ _ _ _
   | exact ih1 _ _ _ _ _ _ _ _ _ _ _ _ _ _ _ _ _ _
   | exact ih2 _ _ _ _ _ _ _ _ _ _ _ _ _ _ _ _ _ _
   | exact ih3 _ _ _ _ _ _
   | exact ih4 _ _ _ _ _ _ _ _
   | exact LeO.none _
   | refine LeO.ite ?_ ?_
   | refine LeO.bind ?_ (fun _ => ?_)
theorem sleuthlaw13_times.mono : ∀ a0 a1 a2 k, LeO (sleuthlaw13_times.f k a0 a1 a2) (sleuthlaw13_times.f (k + 1) a0 a1 a2) := by
 intro a0 a1 a2 k
 obtain ⟨ih0, ih1, ih2, ih3, ih4⟩ := sleuthlaw13_times.mono_l k
 unfold sleuthlaw13_times.f
 repeat' first
   | (with_reducible exact ih0 _ _ _ _ _ _)
   | (with_reducible exact ih1 _ _ _ _ _ _ _ _ _ _ _ _ _ _ _ _ _ _)
   | (with_reducible exact ih2 _ _ _ _ _ _ _ _ _ _ _ _ _ _ _ _ _ _)
   | (with_reducible exact ih3 _ _ _ _ _ _)
   | (with_reducible exact ih4 _ _ _ _ _ _ _ _)
   | (with_reducible exact LeO.refl _)
   | (with_reducible exact LeO.none _)
   | (with_reducible refine LeO.ite ?_ ?_)
   | (with_reducible refine LeO.bind ?_ (fun _ => ?_))
   | exact ih0 _ _ _ _ _ _
   | exact ih1 _ _ _ _ _ _ _ _ _ _ _ _ _ _ _ _ _ _
   | exact ih2 _ _ _ _ _ _ _ _ _ _ _ _ _ _ _ _ _ _
   | exact ih3 _ _ _ _ _ _
   | exact ih4 _ _ _ _ _ _ _ _
   | exact LeO.none _
   | refine LeO.ite ?_ ?_
   | refine LeO.bind ?_ (fun _ => ?_)
def sleuthlaw13_times.T11 : Bool × List (List Nat × List Nat) := (true, [([], []), ([], []), ([1], [1]), ([0, 2], [0, 2]), ([], []), ([], []), ([], []), ([6], [6]), ([7], [7]), ([8], [8]), ([5, 9], [5, 9]), ([10], [10]), ([4, 11, 3], [4, 11]), ([3, 12, 0, 1, 2, 3], [0, 3]), ([12, 13, 0, 1, 2, 3, 4, 5, 6, 7, 8, 9, 10, 11, 12, 13], [4, 12])])
def sleuthlaw13_times.B11 : List Nat := [0, 0, 2, 7, 0, 0, 0, 64, 192, 448, 992, 2016, 4095, 8191, 16383]
theorem sleuthlaw13_times.tab11 : rtab .any (opsOf Try.f68 11) = sleuthlaw13_times.T11 := by kernel_rfl
theorem sleuthlaw13_times.bits11 : waitsOk sleuthlaw13_times.T11.2 sleuthlaw13_times.B11 = true := by kernel_rfl
def sleuthlaw13_times.T17 : Bool × List (List Nat × List Nat) := (true, [([], []), ([], []), ([], []), ([], []), ([2, 3], [2, 3]), ([4], [4]), ([], []), ([], []), ([6, 7], [6, 7]), ([8], [8]), ([5, 9], [5, 9]), ([0, 1, 0, 1, 2, 3, 4, 5, 6, 7, 8, 9, 10], [0, 1]), ([11, 10, 0, 1, 2, 3, 4, 5, 6, 7, 8, 9, 10], [10, 11])])
def sleuthlaw13_times.B17 : List Nat := [0, 0, 0, 0, 12, 28, 0, 0, 192, 448, 1020, 2047, 4095]
theorem sleuthlaw13_times.tab17 : rtab .any (opsOf Try.f68 17) = sleuthlaw13_times.T17 := by kernel_rfl
theorem sleuthlaw13_times.bits17 : waitsOk sleuthlaw13_times.T17.2 sleuthlaw13_times.B17 = true := by kernel_rfl
set_option maxHeartbeats 8000000 in
set_option maxRecDepth 100000 in
theorem sleuthlaw13_times.calls (k : Nat) (a0_0 : Int) (a0_1 : Int) (A0_2 : Option Addr) (c0_2 : Nat) (l0_2 : List (S153)) (r1 : List Int) (r2 : List Int) (w : World) (hr0_2 : Kd.C k153 w A0_2 l0_2.length l0_2) (hc0_2 : l0_2.length ≤ c0_2) (h : sleuthlaw13_times.f k a0_0 a0_1 l0_2 = some (r1, r2)) :
  Calls Try.prog 68 #[.agg #[.int .u8 a0_0, .int .u8 a0_1, .slice A0_2 l0_2.length c0_2]] w fun e w' => ∃ v0_ v1_ : Value, e = .returned (.tuple #[v0_, v1_]) ∧ Kd.R (Kd.int .i64) 3 w' w.heap.size (fun k_ => some k_ ≠ (v1_ : Value).ownBlock) v0_ r1 ∧ Kd.R (Kd.int .i64) 3 w' w.heap.size (fun k_ => some k_ ≠ (v0_ : Value).ownBlock) v1_ r2 ∧ Below w.heap.size w w' := by
 have hu104 := Try.underlying104
 have hu153 := Try.underlying153
 have HR0_2 := Aside0.mk hr0_2
 have HC0_2 := Aside0.mk hc0_2
 clear hr0_2 hc0_2
 have HB := Aside0.mk (Below.refl w.heap.size w)
 have H : (sleuthlaw13_times.l0 k ([] : List Int) ([] : List Int) 0 a0_0 a0_1 l0_2) = some (r1, r2) := h
 clear h
 have H' := Aside0.mk H
 clear H
 go_enter Try.func68, Try.ntmps68
 go_wp2_with (first | ((with_reducible refine gate_dst (N := 1) rfl ?_); refine box_event ?hg (N := 1) ?hd (cs := #[.int .u8 a0_0, .int .u8 a0_1, .slice A0_2 l0_2.length c0_2]) (t := 104) ?hr ?_; (case hd => rfl); (case hg => rfl); (case hr => exact qgtms_26); intro gb183 hg w2 hbox hb; have n0_ := Aside0.mk (below_step qgtms_16 hb); have n1_ := Aside0.mk (hbox); have n2_ := Aside0.mk ((by rw [hg]; exact (below_size qgtms_16) : w.heap.size ≤ gb183)); have n3_ := Aside0.mk ((by rw [hg]; exact (below_size qgtms_16) : w.heap.size ≤ gb183)); clear HB; have HB := n0_; have BK183 := n1_; have GW183 := n2_; have GE183 := n3_; clear n0_ n1_ n2_ n3_; clear hb hbox hg))
 go_loopg [2, 3, 4] k (fun kq v2 v3 v4 w' => ∃ (x2_1 : List Int) (x3_1 : List Int) (x4_1 : Int), v4 = .int .i64 x4_1 ∧ Aside0 (sleuthlaw13_times.l0 kq x2_1 x3_1 x4_1 a0_0 a0_1 l0_2 = some (r1, r2)) ∧ Aside0 (kq ≤ k) ∧ Aside0 (Kd.R (Kd.int .i64) 3 w' w.heap.size (fun k_ => some k_ ≠ (v3 : Value).ownBlock) v2 x2_1) ∧ Aside0 (Kd.R (Kd.int .i64) 3 w' w.heap.size (fun k_ => some k_ ≠ (v2 : Value).ownBlock) v3 x3_1) ∧ Aside0 (w'.heap[gb183]? = some (.cells #[.int .u8 a0_0, .int .u8 a0_1, (.slice A0_2 l0_2.length c0_2)] 104 (0, 0))) ∧ Aside0 (Below w.heap.size w w'))
 case atStart => exact ⟨(([] : List Int)), (([] : List Int)), (0), qgtms_12, H', ⟨Nat.le_refl _⟩, ⟨qgtms_27⟩, ⟨qgtms_27⟩, ⟨qgtms_2⟩, ⟨qgtms_4⟩⟩
 clear H'
 try clear p2
 obtain ⟨x2_1, x3_1, x4_1, rfl, HA, HK1, HO_2, HO_3, BK183, HB⟩ := hrel
 cases gk with
 | zero => exact absurd HA.out (by simp [sleuthlaw13_times.l0])
 | succ k1 =>
  have H := HA.out
  clear HA
  simp only [sleuthlaw13_times.l0] at H
  by_cases c3 : x4_1 < (l0_2.length : Int)
  rotate_left
  ·rw [if_neg c3] at H
   have c3b0 : decide (x4_1 < (l0_2.length : Int)) = false := decide_eq_false c3
   clear c3
   have H' := Aside0.mk H
   clear H
   have hcz35_0 : wr.cell? ⟨gb183, 0, none⟩ = some (.int .u8 a0_0) := (blk_cell BK183.out 0).trans rfl
   have hcz35_1 : wr.cell? ⟨gb183, 1, none⟩ = some (.int .u8 a0_1) := (blk_cell BK183.out 1).trans rfl
   have hcz35_2 : wr.cell? ⟨gb183, 2, none⟩ = some (.slice A0_2 l0_2.length c0_2) := (blk_cell BK183.out 2).trans rfl
   have hfz35_0 := blk_frozen BK183.out 0
   have hfz35_1 := blk_frozen BK183.out 1
   have hfz35_2 := blk_frozen BK183.out 2
   go_wp2
   go_loopg [8] k1 (fun kq v8 w' => ∃ (x3_2 : List Int) (x8_2 : Int), v8 = .int .i64 x8_2 ∧ Aside0 (sleuthlaw13_times.l1 kq x2_1 x3_2 x8_2 a0_0 a0_1 l0_2 = some (r1, r2)) ∧ Aside0 (kq ≤ k1) ∧ Aside0 (Kd.R (Kd.int .i64) 3 w' w.heap.size (fun k_ => some k_ ≠ (u3 : Value).ownBlock) u2 x2_1) ∧ Aside0 (Kd.R (Kd.int .i64) 3 w' w.heap.size (fun k_ => some k_ ≠ (u2 : Value).ownBlock) u3 x3_2) ∧ Aside0 (w'.heap[gb183]? = some (.cells #[.int .u8 a0_0, .int .u8 a0_1, (.slice A0_2 l0_2.length c0_2)] 104 (0, 0))) ∧ Aside0 (Below w.heap.size w w'))
   case atStart => exact ⟨(x3_1), (wrap64 ((l0_2.length : Int) - 1)), qgtms_12, H', ⟨Nat.le_refl _⟩, ⟨qgtms_5⟩, ⟨qgtms_3⟩, ⟨qgtms_2⟩, ⟨qgtms_4⟩⟩
   clear H'
   try clear p1
   try clear q1
   try clear hx1
   try clear c2
   try clear p2
   try clear c3
   try clear c3b0
   try clear c4
   try clear p6
   try clear p18
   try clear q18
   try clear hx18
   try clear c21
   try clear c22
   try clear hcz11_0
   try clear hcz11_1
   try clear hcz11_2
   try clear hcz20_0
   try clear hcz20_1
   try clear hcz20_10
   try clear hcz20_2
   try clear hcz20_3
   try clear hcz20_4
   try clear hcz20_5
   try clear hcz20_6
   try clear hcz20_7
   try clear hcz20_8
   try clear hcz20_9
   try clear hcz35_0
   try clear hcz35_1
   try clear hcz35_2
   try clear hcz7_0
   try clear hcz7_1
   try clear hcz7_2
   try clear hfz10_0
   try clear hfz10_1
   try clear hfz10_10
   try clear hfz10_2
   try clear hfz10_3
   try clear hfz10_4
   try clear hfz10_5
   try clear hfz10_6
   try clear hfz10_7
   try clear hfz10_8
   try clear hfz10_9
   try clear hfz11_0
   try clear hfz11_1
   try clear hfz11_2
   try clear hfz20_0
   try clear hfz20_1
   try clear hfz20_10
   try clear hfz20_2
   try clear hfz20_3
   try clear hfz20_4
   try clear hfz20_5
   try clear hfz20_6
   try clear hfz20_7
   try clear hfz20_8
   try clear hfz20_9
   try clear hfz35_0
   try clear hfz35_1
   try clear hfz35_2
   try clear hfz7_0
   try clear hfz7_1
   try clear hfz7_2
   try clear hx184_0
   try clear hx184_1
   try clear hx184_10
   try clear hx184_2
   try clear hx184_3
   try clear hx184_4
   try clear hx184_5
   try clear hx184_6
   try clear hx184_7
   try clear hx184_8
   try clear hx184_9
   try clear hx186_0
   try clear p1
   try clear p184
   try clear p186
   try clear p2
   try clear p6
   try clear q1
   try clear q184
   try clear q186
   obtain ⟨x3_2, x8_2, rfl, HA, HK2, HO_2, HO_3, BK183, HB⟩ := hrel
   cases gk with
   | zero => exact absurd HA.out (by simp [sleuthlaw13_times.l1])
   | succ k2 =>
    have H := HA.out
    clear HA
    simp only [sleuthlaw13_times.l1] at H
    by_cases c36 : x8_2 > 0
    rotate_left
    ·rw [if_neg c36] at H
     have c36b0 : decide (0 < x8_2) = false := decide_eq_false c36
     clear c36
     simp only [Option.some.injEq, Prod.mk.injEq] at H
     obtain ⟨rfl, rfl⟩ := H
     go_wp2
     go_ret2
     exact ⟨_, _, by first | rfl | (simp [errW_none, errW_some] <;> rfl) | (simp [*, errW_none, errW_some] <;> rfl), qgtms_5, qgtms_3, qgtms_4⟩
    rw [if_pos c36] at H
    have c36b0 : decide (0 < x8_2) = true := decide_eq_true c36
    clear c36
    by_cases c37 : 0 ≤ x8_2
    rotate_left
    ·rw [if_neg c37] at H
     exact absurd H (by simp)
    rw [if_pos c37] at H
    have c37b0 : decide (0 ≤ x8_2) = true := decide_eq_true c37
    clear c37
    by_cases c38 : x8_2 < (l0_2.length : Int)
    rotate_left
    ·rw [if_neg c38] at H
     exact absurd H (by simp)
    rw [if_pos c38] at H
    have c38b0 : decide (x8_2 < (l0_2.length : Int)) = true := decide_eq_true c38
    clear c38
    by_cases c39 : (wrap64 (x8_2 + 1)) = 0
    ·rw [if_pos c39] at H
     exact absurd H (by simp)
    rw [if_neg c39] at H
    have c39b0 : ((wrap64 (x8_2 + 1)) == 0) = false := beq_eq_false_iff_ne.mpr c39
    have c39b1 : ((wrap64 (x8_2 + 1)) != 0) = true := bne_iff_ne.mpr c39
    have HC40 := Aside0.mk H
    clear H
    have hcz41_0 : wr.cell? ⟨gb183, 0, none⟩ = some (.int .u8 a0_0) := (blk_cell BK183.out 0).trans rfl
    have hcz41_1 : wr.cell? ⟨gb183, 1, none⟩ = some (.int .u8 a0_1) := (blk_cell BK183.out 1).trans rfl
    have hcz41_2 : wr.cell? ⟨gb183, 2, none⟩ = some (.slice A0_2 l0_2.length c0_2) := (blk_cell BK183.out 2).trans rfl
    have hfz41_0 := blk_frozen BK183.out 0
    have hfz41_1 := blk_frozen BK183.out 1
    have hfz41_2 := blk_frozen BK183.out 2
    have p199 : 0 ≤ (x8_2 : Int) := of_decide_eq_true qgtms_10
    have q199 : x8_2 < (l0_2.length : Int) := of_decide_eq_true qgtms_10
    obtain ⟨ad199, e199, hx199_0, hx199_1, hx199_2, hx199_3, hx199_4, hx199_5, hx199_6, hx199_7, hx199_8, hx199_9, hx199_10⟩ := at_T153 HR0_2.out x8_2 p199 q199
    cases e199
    replace hx199_0 := (HB.out.cell (World.block_lt_of_cell? w _ hx199_0)).trans hx199_0
    replace hx199_1 := (HB.out.cell (World.block_lt_of_cell? w _ hx199_1)).trans hx199_1
    replace hx199_2 := (HB.out.cell (World.block_lt_of_cell? w _ hx199_2)).trans hx199_2
    replace hx199_3 := (HB.out.cell (World.block_lt_of_cell? w _ hx199_3)).trans hx199_3
    replace hx199_4 := (HB.out.cell (World.block_lt_of_cell? w _ hx199_4)).trans hx199_4
    replace hx199_5 := (HB.out.cell (World.block_lt_of_cell? w _ hx199_5)).trans hx199_5
    replace hx199_6 := (HB.out.cell (World.block_lt_of_cell? w _ hx199_6)).trans hx199_6
    replace hx199_7 := (HB.out.cell (World.block_lt_of_cell? w _ hx199_7)).trans hx199_7
    replace hx199_8 := (HB.out.cell (World.block_lt_of_cell? w _ hx199_8)).trans hx199_8
    replace hx199_9 := (HB.out.cell (World.block_lt_of_cell? w _ hx199_9)).trans hx199_9
    replace hx199_10 := (HB.out.cell (World.block_lt_of_cell? w _ hx199_10)).trans hx199_10
    replace p199 := eq_true p199
    replace q199 := eq_true q199
    go_upto_region 16 with (fail)
    go_cut [108] (fun v108 wc => ∃ (kq : Nat) (x108_39 : Bool), v108 = .bool x108_39 ∧ Aside0 (sleuthlaw13_times.j4 kq x2_1 x3_2 x8_2 (Int.tmod (wrap64 ((rd_T153 l0_2 x8_2).f0)) (wrap64 (x8_2 + 1))) x108_39 a0_0 a0_1 l0_2 = some (r1, r2)) ∧ Aside0 (kq ≤ k2) ∧ Aside0 (Kd.R (Kd.int .i64) 3 wc w.heap.size (fun k_ => some k_ ≠ (u3 : Value).ownBlock) u2 x2_1) ∧ Aside0 (Kd.R (Kd.int .i64) 3 wc w.heap.size (fun k_ => some k_ ≠ (u2 : Value).ownBlock) u3 x3_2) ∧ Aside0 (wc.heap[gb183]? = some (.cells #[.int .u8 a0_0, .int .u8 a0_1, (.slice (some ad199) l0_2.length c0_2)] 104 (0, 0))) ∧ Aside0 (Below w.heap.size w wc))
    case first =>
     have H := HC40.out
     clear HC40
     by_cases c42 : (Int.tmod (wrap64 ((rd_T153 l0_2 x8_2).f0)) (wrap64 (x8_2 + 1))) < x8_2
     rotate_left
     ·rw [if_neg c42] at H
      have c42b0 : decide ((Int.tmod (wrap64 ((rd_T153 l0_2 x8_2).f0)) (wrap64 (x8_2 + 1))) < x8_2) = false := decide_eq_false c42
      clear c42
      (first | rw [c42b0] | (simp only [i64_w, i32_w]; rw [c42b0]) | skip)
      have H' := Aside0.mk H
      clear H
      go_wp2
      go_meet
      case rel => exact ⟨_, (false), qgtms_12, H', ⟨qgtms_18⟩, ⟨qgtms_5⟩, ⟨qgtms_3⟩, ⟨qgtms_2⟩, ⟨qgtms_4⟩⟩
     rw [if_pos c42] at H
     have c42b0 : decide ((Int.tmod (wrap64 ((rd_T153 l0_2 x8_2).f0)) (wrap64 (x8_2 + 1))) < x8_2) = true := decide_eq_true c42
     clear c42
     (first | rw [c42b0] | (simp only [i64_w, i32_w]; rw [c42b0]) | skip)
     replace H := Option.bind_eq_some_iff.mp H
     obtain ⟨t201, A430, H⟩ := H
     replace H : (if t201 = 3 then (if 0 ≤ (Int.tmod (wrap64 ((rd_T153 l0_2 x8_2).f0)) (wrap64 (x8_2 + 1))) then (if (Int.tmod (wrap64 ((rd_T153 l0_2 x8_2).f0)) (wrap64 (x8_2 + 1))) < (l0_2.length : Int) then ((sleuthlaw13_kind.f ((rd_T153 l0_2 (Int.tmod (wrap64 ((rd_T153 l0_2 x8_2).f0)) (wrap64 (x8_2 + 1)))).f0) ((rd_T153 l0_2 (Int.tmod (wrap64 ((rd_T153 l0_2 x8_2).f0)) (wrap64 (x8_2 + 1)))).f1) ((rd_T153 l0_2 (Int.tmod (wrap64 ((rd_T153 l0_2 x8_2).f0)) (wrap64 (x8_2 + 1)))).f2) ((rd_T153 l0_2 (Int.tmod (wrap64 ((rd_T153 l0_2 x8_2).f0)) (wrap64 (x8_2 + 1)))).f3) ((rd_T153 l0_2 (Int.tmod (wrap64 ((rd_T153 l0_2 x8_2).f0)) (wrap64 (x8_2 + 1)))).f4) ((rd_T153 l0_2 (Int.tmod (wrap64 ((rd_T153 l0_2 x8_2).f0)) (wrap64 (x8_2 + 1)))).f5) ((rd_T153 l0_2 (Int.tmod (wrap64 ((rd_T153 l0_2 x8_2).f0)) (wrap64 (x8_2 + 1)))).f6) ((rd_T153 l0_2 (Int.tmod (wrap64 ((rd_T153 l0_2 x8_2).f0)) (wrap64 (x8_2 + 1)))).f7) ((rd_T153 l0_2 (Int.tmod (wrap64 ((rd_T153 l0_2 x8_2).f0)) (wrap64 (x8_2 + 1)))).f8) ((rd_T153 l0_2 (Int.tmod (wrap64 ((rd_T153 l0_2 x8_2).f0)) (wrap64 (x8_2 + 1)))).f9) ((rd_T153 l0_2 (Int.tmod (wrap64 ((rd_T153 l0_2 x8_2).f0)) (wrap64 (x8_2 + 1)))).f10)).bind fun t203 => (if t203 = 2 then (sleuthlaw13_times.j4 k2 x2_1 x3_2 x8_2 (Int.tmod (wrap64 ((rd_T153 l0_2 x8_2).f0)) (wrap64 (x8_2 + 1))) (!((rd_T153 l0_2 (Int.tmod (wrap64 ((rd_T153 l0_2 x8_2).f0)) (wrap64 (x8_2 + 1)))).f10)) a0_0 a0_1 l0_2) else (sleuthlaw13_times.j4 k2 x2_1 x3_2 x8_2 (Int.tmod (wrap64 ((rd_T153 l0_2 x8_2).f0)) (wrap64 (x8_2 + 1))) false a0_0 a0_1 l0_2))) else (none)) else (none)) else (sleuthlaw13_times.j4 k2 x2_1 x3_2 x8_2 (Int.tmod (wrap64 ((rd_T153 l0_2 x8_2).f0)) (wrap64 (x8_2 + 1))) false a0_0 a0_1 l0_2)) = some (r1, r2) := H
     have A43 := Aside0.mk A430
     clear A430
     by_cases c44 : t201 = 3
     rotate_left
     ·rw [if_neg c44] at H
      have c44b0 : (t201 == 3) = false := beq_eq_false_iff_ne.mpr c44
      have c44b1 : (t201 != 3) = true := bne_iff_ne.mpr c44
      have H' := Aside0.mk H
      clear H
      have hcz59_0 : wr.cell? ⟨gb183, 0, none⟩ = some (.int .u8 a0_0) := (blk_cell BK183.out 0).trans rfl
      have hcz59_1 : wr.cell? ⟨gb183, 1, none⟩ = some (.int .u8 a0_1) := (blk_cell BK183.out 1).trans rfl
      have hcz59_2 : wr.cell? ⟨gb183, 2, none⟩ = some (.slice (some ad199) l0_2.length c0_2) := (blk_cell BK183.out 2).trans rfl
      have hfz59_0 := blk_frozen BK183.out 0
      have hfz59_1 := blk_frozen BK183.out 1
      have hfz59_2 := blk_frozen BK183.out 2
      have p200 : 0 ≤ (x8_2 : Int) := of_decide_eq_true qgtms_10
      have q200 : x8_2 < (l0_2.length : Int) := of_decide_eq_true qgtms_10
      obtain ⟨ad200, e200, hx200_0, hx200_1, hx200_2, hx200_3, hx200_4, hx200_5, hx200_6, hx200_7, hx200_8, hx200_9, hx200_10⟩ := at_T153 HR0_2.out x8_2 p200 q200
      obtain rfl : ad199 = ad200 := (by injection e200)
      replace hx200_0 := (HB.out.cell (World.block_lt_of_cell? w _ hx200_0)).trans hx200_0
      replace hx200_1 := (HB.out.cell (World.block_lt_of_cell? w _ hx200_1)).trans hx200_1
      replace hx200_2 := (HB.out.cell (World.block_lt_of_cell? w _ hx200_2)).trans hx200_2
      replace hx200_3 := (HB.out.cell (World.block_lt_of_cell? w _ hx200_3)).trans hx200_3
      replace hx200_4 := (HB.out.cell (World.block_lt_of_cell? w _ hx200_4)).trans hx200_4
      replace hx200_5 := (HB.out.cell (World.block_lt_of_cell? w _ hx200_5)).trans hx200_5
      replace hx200_6 := (HB.out.cell (World.block_lt_of_cell? w _ hx200_6)).trans hx200_6
      replace hx200_7 := (HB.out.cell (World.block_lt_of_cell? w _ hx200_7)).trans hx200_7
      replace hx200_8 := (HB.out.cell (World.block_lt_of_cell? w _ hx200_8)).trans hx200_8
      replace hx200_9 := (HB.out.cell (World.block_lt_of_cell? w _ hx200_9)).trans hx200_9
      replace hx200_10 := (HB.out.cell (World.block_lt_of_cell? w _ hx200_10)).trans hx200_10
      replace p200 := eq_true p200
      replace q200 := eq_true q200
      go_wp2_with (first | (go_at_call 83; (with_reducible refine (sleuthlaw13_kind.calls ((rd_T153 l0_2 x8_2).f0) ((rd_T153 l0_2 x8_2).f1) ((rd_T153 l0_2 x8_2).f2) ((rd_T153 l0_2 x8_2).f3) ((rd_T153 l0_2 x8_2).f4) ((rd_T153 l0_2 x8_2).f5) ((rd_T153 l0_2 x8_2).f6) ((rd_T153 l0_2 x8_2).f7) ((rd_T153 l0_2 x8_2).f8) ((rd_T153 l0_2 x8_2).f9) ((rd_T153 l0_2 x8_2).f10) t201 _ A43.out).mono ?_); rintro e w60 ⟨rfl, hb⟩; have n0_ := Aside0.mk (Kd.R_below qgtms_5 hb); have n1_ := Aside0.mk (Kd.R_below qgtms_3 hb); have n2_ := Aside0.mk (blk_below (g := gb183) (o := .cells #[.int .u8 a0_0, .int .u8 a0_1, .slice (some ad199) l0_2.length c0_2] 104 (0, 0)) qgtms_2 hb); have n3_ := Aside0.mk (below_step qgtms_4 hb); clear HO_2; clear HO_3; clear BK183; clear HB; have HO_2 := n0_; have HO_3 := n1_; have BK183 := n2_; have HB := n3_; clear n0_ n1_ n2_ n3_; (try clear hb); (try clear hb2); (try clear hk); (try clear hi)))
      go_meet
      case rel => exact ⟨_, (false), qgtms_12, H', ⟨qgtms_18⟩, ⟨qgtms_5⟩, ⟨qgtms_3⟩, ⟨qgtms_2⟩, ⟨qgtms_4⟩⟩
     rw [if_pos c44] at H
     have c44b0 : (t201 == 3) = true := beq_iff_eq.mpr c44
     have c44b1 : (t201 != 3) = false := bne_eq_false_iff_eq.mpr c44
     clear c44
     obtain ⟨ji45, hji45⟩ : ∃ j_ : Int, (Int.tmod (wrap64 ((rd_T153 l0_2 x8_2).f0)) (wrap64 (x8_2 + 1))) = j_ := ⟨_, rfl⟩
     replace H : (if 0 ≤ (ji45) then (if (ji45) < (l0_2.length : Int) then ((sleuthlaw13_kind.f ((rd_T153 l0_2 (ji45)).f0) ((rd_T153 l0_2 (ji45)).f1) ((rd_T153 l0_2 (ji45)).f2) ((rd_T153 l0_2 (ji45)).f3) ((rd_T153 l0_2 (ji45)).f4) ((rd_T153 l0_2 (ji45)).f5) ((rd_T153 l0_2 (ji45)).f6) ((rd_T153 l0_2 (ji45)).f7) ((rd_T153 l0_2 (ji45)).f8) ((rd_T153 l0_2 (ji45)).f9) ((rd_T153 l0_2 (ji45)).f10)).bind fun t203 => (if t203 = 2 then (sleuthlaw13_times.j4 k2 x2_1 x3_2 x8_2 ji45 (!((rd_T153 l0_2 (ji45)).f10)) a0_0 a0_1 l0_2) else (sleuthlaw13_times.j4 k2 x2_1 x3_2 x8_2 ji45 false a0_0 a0_1 l0_2))) else (none)) else (none)) = some (r1, r2) := by first | (rw [hji45] at H; exact H) | (simp only [hji45] at H ⊢; exact H)
     (try rw [hji45] at c42b0)
     (try rw [hji45] at A43)
     by_cases c46 : 0 ≤ (ji45)
     rotate_left
     ·rw [if_neg c46] at H
      exact absurd H (by simp)
     rw [if_pos c46] at H
     have c46b0 : decide (0 ≤ (ji45)) = true := decide_eq_true c46
     clear c46
     by_cases c47 : (ji45) < (l0_2.length : Int)
     rotate_left
     ·rw [if_neg c47] at H
      exact absurd H (by simp)
     rw [if_pos c47] at H
     have c47b0 : decide ((ji45) < (l0_2.length : Int)) = true := decide_eq_true c47
     clear c47
     replace H := Option.bind_eq_some_iff.mp H
     obtain ⟨t203, A480, H⟩ := H
     replace H : (if t203 = 2 then (sleuthlaw13_times.j4 k2 x2_1 x3_2 x8_2 ji45 (!((rd_T153 l0_2 (ji45)).f10)) a0_0 a0_1 l0_2) else (sleuthlaw13_times.j4 k2 x2_1 x3_2 x8_2 ji45 false a0_0 a0_1 l0_2)) = some (r1, r2) := H
     have A48 := Aside0.mk A480
     clear A480
     by_cases c49 : t203 = 2
     rotate_left
     ·rw [if_neg c49] at H
      have c49b0 : (t203 == 2) = false := beq_eq_false_iff_ne.mpr c49
      have c49b1 : (t203 != 2) = true := bne_iff_ne.mpr c49
      have H' := Aside0.mk H
      clear H
      have hcz55_0 : wr.cell? ⟨gb183, 0, none⟩ = some (.int .u8 a0_0) := (blk_cell BK183.out 0).trans rfl
      have hcz55_1 : wr.cell? ⟨gb183, 1, none⟩ = some (.int .u8 a0_1) := (blk_cell BK183.out 1).trans rfl
      have hcz55_2 : wr.cell? ⟨gb183, 2, none⟩ = some (.slice (some ad199) l0_2.length c0_2) := (blk_cell BK183.out 2).trans rfl
      have hfz55_0 := blk_frozen BK183.out 0
      have hfz55_1 := blk_frozen BK183.out 1
      have hfz55_2 := blk_frozen BK183.out 2
      have p200 : 0 ≤ (x8_2 : Int) := of_decide_eq_true qgtms_10
      have q200 : x8_2 < (l0_2.length : Int) := of_decide_eq_true qgtms_10
      obtain ⟨ad200, e200, hx200_0, hx200_1, hx200_2, hx200_3, hx200_4, hx200_5, hx200_6, hx200_7, hx200_8, hx200_9, hx200_10⟩ := at_T153 HR0_2.out x8_2 p200 q200
      obtain rfl : ad199 = ad200 := (by injection e200)
      replace hx200_0 := (HB.out.cell (World.block_lt_of_cell? w _ hx200_0)).trans hx200_0
      replace hx200_1 := (HB.out.cell (World.block_lt_of_cell? w _ hx200_1)).trans hx200_1
      replace hx200_2 := (HB.out.cell (World.block_lt_of_cell? w _ hx200_2)).trans hx200_2
      replace hx200_3 := (HB.out.cell (World.block_lt_of_cell? w _ hx200_3)).trans hx200_3
      replace hx200_4 := (HB.out.cell (World.block_lt_of_cell? w _ hx200_4)).trans hx200_4
      replace hx200_5 := (HB.out.cell (World.block_lt_of_cell? w _ hx200_5)).trans hx200_5
      replace hx200_6 := (HB.out.cell (World.block_lt_of_cell? w _ hx200_6)).trans hx200_6
      replace hx200_7 := (HB.out.cell (World.block_lt_of_cell? w _ hx200_7)).trans hx200_7
      replace hx200_8 := (HB.out.cell (World.block_lt_of_cell? w _ hx200_8)).trans hx200_8
      replace hx200_9 := (HB.out.cell (World.block_lt_of_cell? w _ hx200_9)).trans hx200_9
      replace hx200_10 := (HB.out.cell (World.block_lt_of_cell? w _ hx200_10)).trans hx200_10
      replace p200 := eq_true p200
      replace q200 := eq_true q200
      go_wp2_with (first | (go_at_call 83; (with_reducible refine (sleuthlaw13_kind.calls ((rd_T153 l0_2 x8_2).f0) ((rd_T153 l0_2 x8_2).f1) ((rd_T153 l0_2 x8_2).f2) ((rd_T153 l0_2 x8_2).f3) ((rd_T153 l0_2 x8_2).f4) ((rd_T153 l0_2 x8_2).f5) ((rd_T153 l0_2 x8_2).f6) ((rd_T153 l0_2 x8_2).f7) ((rd_T153 l0_2 x8_2).f8) ((rd_T153 l0_2 x8_2).f9) ((rd_T153 l0_2 x8_2).f10) t201 _ A43.out).mono ?_); rintro e w56 ⟨rfl, hb⟩; have n0_ := Aside0.mk (Kd.R_below qgtms_5 hb); have n1_ := Aside0.mk (Kd.R_below qgtms_3 hb); have n2_ := Aside0.mk (blk_below (g := gb183) (o := .cells #[.int .u8 a0_0, .int .u8 a0_1, .slice (some ad199) l0_2.length c0_2] 104 (0, 0)) qgtms_2 hb); have n3_ := Aside0.mk (below_step qgtms_4 hb); clear HO_2; clear HO_3; clear BK183; clear HB; have HO_2 := n0_; have HO_3 := n1_; have BK183 := n2_; have HB := n3_; clear n0_ n1_ n2_ n3_; (try clear hb); (try clear hb2); (try clear hk); (try clear hi); have hcz57_0 : w56.cell? ⟨gb183, 0, none⟩ = some (.int .u8 a0_0) := (blk_cell BK183.out 0).trans rfl; have hcz57_1 : w56.cell? ⟨gb183, 1, none⟩ = some (.int .u8 a0_1) := (blk_cell BK183.out 1).trans rfl; have hcz57_2 : w56.cell? ⟨gb183, 2, none⟩ = some (.slice (some ad199) l0_2.length c0_2) := (blk_cell BK183.out 2).trans rfl; have hfz57_0 := blk_frozen BK183.out 0; have hfz57_1 := blk_frozen BK183.out 1; have hfz57_2 := blk_frozen BK183.out 2; have p202 : 0 ≤ ((ji45) : Int) := of_decide_eq_true qgtms_10; have q202 : (ji45) < (l0_2.length : Int) := of_decide_eq_true qgtms_10; obtain ⟨ad202, e202, hx202_0, hx202_1, hx202_2, hx202_3, hx202_4, hx202_5, hx202_6, hx202_7, hx202_8, hx202_9, hx202_10⟩ := at_T153 HR0_2.out (ji45) p202 q202; obtain rfl : ad199 = ad202 := (by injection e202); replace hx202_0 := (HB.out.cell (World.block_lt_of_cell? w _ hx202_0)).trans hx202_0; replace hx202_1 := (HB.out.cell (World.block_lt_of_cell? w _ hx202_1)).trans hx202_1; replace hx202_2 := (HB.out.cell (World.block_lt_of_cell? w _ hx202_2)).trans hx202_2; replace hx202_3 := (HB.out.cell (World.block_lt_of_cell? w _ hx202_3)).trans hx202_3; replace hx202_4 := (HB.out.cell (World.block_lt_of_cell? w _ hx202_4)).trans hx202_4; replace hx202_5 := (HB.out.cell (World.block_lt_of_cell? w _ hx202_5)).trans hx202_5; replace hx202_6 := (HB.out.cell (World.block_lt_of_cell? w _ hx202_6)).trans hx202_6; replace hx202_7 := (HB.out.cell (World.block_lt_of_cell? w _ hx202_7)).trans hx202_7; replace hx202_8 := (HB.out.cell (World.block_lt_of_cell? w _ hx202_8)).trans hx202_8; replace hx202_9 := (HB.out.cell (World.block_lt_of_cell? w _ hx202_9)).trans hx202_9; replace hx202_10 := (HB.out.cell (World.block_lt_of_cell? w _ hx202_10)).trans hx202_10; replace p202 := eq_true p202; replace q202 := eq_true q202) | (go_at_call 83; (with_reducible refine (sleuthlaw13_kind.calls ((rd_T153 l0_2 (ji45)).f0) ((rd_T153 l0_2 (ji45)).f1) ((rd_T153 l0_2 (ji45)).f2) ((rd_T153 l0_2 (ji45)).f3) ((rd_T153 l0_2 (ji45)).f4) ((rd_T153 l0_2 (ji45)).f5) ((rd_T153 l0_2 (ji45)).f6) ((rd_T153 l0_2 (ji45)).f7) ((rd_T153 l0_2 (ji45)).f8) ((rd_T153 l0_2 (ji45)).f9) ((rd_T153 l0_2 (ji45)).f10) t203 _ A48.out).mono ?_); rintro e w58 ⟨rfl, hb⟩; have n0_ := Aside0.mk (Kd.R_below qgtms_5 hb); have n1_ := Aside0.mk (Kd.R_below qgtms_3 hb); have n2_ := Aside0.mk (blk_below (g := gb183) (o := .cells #[.int .u8 a0_0, .int .u8 a0_1, .slice (some ad199) l0_2.length c0_2] 104 (0, 0)) qgtms_2 hb); have n3_ := Aside0.mk (below_step qgtms_4 hb); clear HO_2; clear HO_3; clear BK183; clear HB; have HO_2 := n0_; have HO_3 := n1_; have BK183 := n2_; have HB := n3_; clear n0_ n1_ n2_ n3_; (try clear hb); (try clear hb2); (try clear hk); (try clear hi)))
      subst hji45
      go_meet
      case rel => exact ⟨_, (false), qgtms_12, H', ⟨qgtms_18⟩, ⟨qgtms_5⟩, ⟨qgtms_3⟩, ⟨qgtms_2⟩, ⟨qgtms_4⟩⟩
     rw [if_pos c49] at H
     have c49b0 : (t203 == 2) = true := beq_iff_eq.mpr c49
     have c49b1 : (t203 != 2) = false := bne_eq_false_iff_eq.mpr c49
     clear c49
     have H' := Aside0.mk H
     clear H
     have hcz50_0 : wr.cell? ⟨gb183, 0, none⟩ = some (.int .u8 a0_0) := (blk_cell BK183.out 0).trans rfl
     have hcz50_1 : wr.cell? ⟨gb183, 1, none⟩ = some (.int .u8 a0_1) := (blk_cell BK183.out 1).trans rfl
     have hcz50_2 : wr.cell? ⟨gb183, 2, none⟩ = some (.slice (some ad199) l0_2.length c0_2) := (blk_cell BK183.out 2).trans rfl
     have hfz50_0 := blk_frozen BK183.out 0
     have hfz50_1 := blk_frozen BK183.out 1
     have hfz50_2 := blk_frozen BK183.out 2
     have p200 : 0 ≤ (x8_2 : Int) := of_decide_eq_true qgtms_10
     have q200 : x8_2 < (l0_2.length : Int) := of_decide_eq_true qgtms_10
     obtain ⟨ad200, e200, hx200_0, hx200_1, hx200_2, hx200_3, hx200_4, hx200_5, hx200_6, hx200_7, hx200_8, hx200_9, hx200_10⟩ := at_T153 HR0_2.out x8_2 p200 q200
     obtain rfl : ad199 = ad200 := (by injection e200)
     replace hx200_0 := (HB.out.cell (World.block_lt_of_cell? w _ hx200_0)).trans hx200_0
     replace hx200_1 := (HB.out.cell (World.block_lt_of_cell? w _ hx200_1)).trans hx200_1
     replace hx200_2 := (HB.out.cell (World.block_lt_of_cell? w _ hx200_2)).trans hx200_2
     replace hx200_3 := (HB.out.cell (World.block_lt_of_cell? w _ hx200_3)).trans hx200_3
     replace hx200_4 := (HB.out.cell (World.block_lt_of_cell? w _ hx200_4)).trans hx200_4
     replace hx200_5 := (HB.out.cell (World.block_lt_of_cell? w _ hx200_5)).trans hx200_5
     replace hx200_6 := (HB.out.cell (World.block_lt_of_cell? w _ hx200_6)).trans hx200_6
     replace hx200_7 := (HB.out.cell (World.block_lt_of_cell? w _ hx200_7)).trans hx200_7
     replace hx200_8 := (HB.out.cell (World.block_lt_of_cell? w _ hx200_8)).trans hx200_8
     replace hx200_9 := (HB.out.cell (World.block_lt_of_cell? w _ hx200_9)).trans hx200_9
     replace hx200_10 := (HB.out.cell (World.block_lt_of_cell? w _ hx200_10)).trans hx200_10
     replace p200 := eq_true p200
     replace q200 := eq_true q200
     go_wp2_with (first | (go_at_call 83; (with_reducible refine (sleuthlaw13_kind.calls ((rd_T153 l0_2 x8_2).f0) ((rd_T153 l0_2 x8_2).f1) ((rd_T153 l0_2 x8_2).f2) ((rd_T153 l0_2 x8_2).f3) ((rd_T153 l0_2 x8_2).f4) ((rd_T153 l0_2 x8_2).f5) ((rd_T153 l0_2 x8_2).f6) ((rd_T153 l0_2 x8_2).f7) ((rd_T153 l0_2 x8_2).f8) ((rd_T153 l0_2 x8_2).f9) ((rd_T153 l0_2 x8_2).f10) t201 _ A43.out).mono ?_); rintro e w51 ⟨rfl, hb⟩; have n0_ := Aside0.mk (Kd.R_below qgtms_5 hb); have n1_ := Aside0.mk (Kd.R_below qgtms_3 hb); have n2_ := Aside0.mk (blk_below (g := gb183) (o := .cells #[.int .u8 a0_0, .int .u8 a0_1, .slice (some ad199) l0_2.length c0_2] 104 (0, 0)) qgtms_2 hb); have n3_ := Aside0.mk (below_step qgtms_4 hb); clear HO_2; clear HO_3; clear BK183; clear HB; have HO_2 := n0_; have HO_3 := n1_; have BK183 := n2_; have HB := n3_; clear n0_ n1_ n2_ n3_; (try clear hb); (try clear hb2); (try clear hk); (try clear hi); have hcz52_0 : w51.cell? ⟨gb183, 0, none⟩ = some (.int .u8 a0_0) := (blk_cell BK183.out 0).trans rfl; have hcz52_1 : w51.cell? ⟨gb183, 1, none⟩ = some (.int .u8 a0_1) := (blk_cell BK183.out 1).trans rfl; have hcz52_2 : w51.cell? ⟨gb183, 2, none⟩ = some (.slice (some ad199) l0_2.length c0_2) := (blk_cell BK183.out 2).trans rfl; have hfz52_0 := blk_frozen BK183.out 0; have hfz52_1 := blk_frozen BK183.out 1; have hfz52_2 := blk_frozen BK183.out 2; have p202 : 0 ≤ ((ji45) : Int) := of_decide_eq_true qgtms_10; have q202 : (ji45) < (l0_2.length : Int) := of_decide_eq_true qgtms_10; obtain ⟨ad202, e202, hx202_0, hx202_1, hx202_2, hx202_3, hx202_4, hx202_5, hx202_6, hx202_7, hx202_8, hx202_9, hx202_10⟩ := at_T153 HR0_2.out (ji45) p202 q202; obtain rfl : ad199 = ad202 := (by injection e202); replace hx202_0 := (HB.out.cell (World.block_lt_of_cell? w _ hx202_0)).trans hx202_0; replace hx202_1 := (HB.out.cell (World.block_lt_of_cell? w _ hx202_1)).trans hx202_1; replace hx202_2 := (HB.out.cell (World.block_lt_of_cell? w _ hx202_2)).trans hx202_2; replace hx202_3 := (HB.out.cell (World.block_lt_of_cell? w _ hx202_3)).trans hx202_3; replace hx202_4 := (HB.out.cell (World.block_lt_of_cell? w _ hx202_4)).trans hx202_4; replace hx202_5 := (HB.out.cell (World.block_lt_of_cell? w _ hx202_5)).trans hx202_5; replace hx202_6 := (HB.out.cell (World.block_lt_of_cell? w _ hx202_6)).trans hx202_6; replace hx202_7 := (HB.out.cell (World.block_lt_of_cell? w _ hx202_7)).trans hx202_7; replace hx202_8 := (HB.out.cell (World.block_lt_of_cell? w _ hx202_8)).trans hx202_8; replace hx202_9 := (HB.out.cell (World.block_lt_of_cell? w _ hx202_9)).trans hx202_9; replace hx202_10 := (HB.out.cell (World.block_lt_of_cell? w _ hx202_10)).trans hx202_10; replace p202 := eq_true p202; replace q202 := eq_true q202) | (go_at_call 83; (with_reducible refine (sleuthlaw13_kind.calls ((rd_T153 l0_2 (ji45)).f0) ((rd_T153 l0_2 (ji45)).f1) ((rd_T153 l0_2 (ji45)).f2) ((rd_T153 l0_2 (ji45)).f3) ((rd_T153 l0_2 (ji45)).f4) ((rd_T153 l0_2 (ji45)).f5) ((rd_T153 l0_2 (ji45)).f6) ((rd_T153 l0_2 (ji45)).f7) ((rd_T153 l0_2 (ji45)).f8) ((rd_T153 l0_2 (ji45)).f9) ((rd_T153 l0_2 (ji45)).f10) t203 _ A48.out).mono ?_); rintro e w53 ⟨rfl, hb⟩; have n0_ := Aside0.mk (Kd.R_below qgtms_5 hb); have n1_ := Aside0.mk (Kd.R_below qgtms_3 hb); have n2_ := Aside0.mk (blk_below (g := gb183) (o := .cells #[.int .u8 a0_0, .int .u8 a0_1, .slice (some ad199) l0_2.length c0_2] 104 (0, 0)) qgtms_2 hb); have n3_ := Aside0.mk (below_step qgtms_4 hb); clear HO_2; clear HO_3; clear BK183; clear HB; have HO_2 := n0_; have HO_3 := n1_; have BK183 := n2_; have HB := n3_; clear n0_ n1_ n2_ n3_; (try clear hb); (try clear hb2); (try clear hk); (try clear hi); have hcz54_0 : w53.cell? ⟨gb183, 0, none⟩ = some (.int .u8 a0_0) := (blk_cell BK183.out 0).trans rfl; have hcz54_1 : w53.cell? ⟨gb183, 1, none⟩ = some (.int .u8 a0_1) := (blk_cell BK183.out 1).trans rfl; have hcz54_2 : w53.cell? ⟨gb183, 2, none⟩ = some (.slice (some ad199) l0_2.length c0_2) := (blk_cell BK183.out 2).trans rfl; have hfz54_0 := blk_frozen BK183.out 0; have hfz54_1 := blk_frozen BK183.out 1; have hfz54_2 := blk_frozen BK183.out 2; have p204 : 0 ≤ ((ji45) : Int) := of_decide_eq_true qgtms_10; have q204 : (ji45) < (l0_2.length : Int) := of_decide_eq_true qgtms_10; obtain ⟨ad204, e204, hx204_0, hx204_1, hx204_2, hx204_3, hx204_4, hx204_5, hx204_6, hx204_7, hx204_8, hx204_9, hx204_10⟩ := at_T153 HR0_2.out (ji45) p204 q204; obtain rfl : ad199 = ad204 := (by injection e204); replace hx204_0 := (HB.out.cell (World.block_lt_of_cell? w _ hx204_0)).trans hx204_0; replace hx204_1 := (HB.out.cell (World.block_lt_of_cell? w _ hx204_1)).trans hx204_1; replace hx204_2 := (HB.out.cell (World.block_lt_of_cell? w _ hx204_2)).trans hx204_2; replace hx204_3 := (HB.out.cell (World.block_lt_of_cell? w _ hx204_3)).trans hx204_3; replace hx204_4 := (HB.out.cell (World.block_lt_of_cell? w _ hx204_4)).trans hx204_4; replace hx204_5 := (HB.out.cell (World.block_lt_of_cell? w _ hx204_5)).trans hx204_5; replace hx204_6 := (HB.out.cell (World.block_lt_of_cell? w _ hx204_6)).trans hx204_6; replace hx204_7 := (HB.out.cell (World.block_lt_of_cell? w _ hx204_7)).trans hx204_7; replace hx204_8 := (HB.out.cell (World.block_lt_of_cell? w _ hx204_8)).trans hx204_8; replace hx204_9 := (HB.out.cell (World.block_lt_of_cell? w _ hx204_9)).trans hx204_9; replace hx204_10 := (HB.out.cell (World.block_lt_of_cell? w _ hx204_10)).trans hx204_10; replace p204 := eq_true p204; replace q204 := eq_true q204))
     subst hji45
     go_meet
     case rel => exact ⟨_, (!((rd_T153 l0_2 (Int.tmod (wrap64 ((rd_T153 l0_2 x8_2).f0)) (wrap64 (x8_2 + 1)))).f10)), (by first | rfl | (simp; done) | (simp only [← hji45] <;> (first | rfl | simp)) | (simp [*]; done)), H', ⟨qgtms_18⟩, ⟨qgtms_5⟩, ⟨qgtms_3⟩, ⟨qgtms_2⟩, ⟨qgtms_4⟩⟩
    clear HC40
    try clear p1
    try clear q1
    try clear hx1
    try clear c2
    try clear p2
    try clear q2
    try clear hx2
    try clear c3
    try clear c3b0
    try clear c4
    try clear p6
    try clear p18
    try clear q18
    try clear hx18
    try clear p19
    try clear q19
    try clear hx19
    try clear p20
    try clear q20
    try clear hx20
    try clear c21
    try clear c22
    try clear c36
    try clear c36b0
    try clear c37
    try clear c37b0
    try clear c38
    try clear c38b0
    try clear c39
    try clear c39b0
    try clear c39b1
    try clear c42
    try clear c42b0
    try clear c44
    try clear c44b0
    try clear c44b1
    try clear c46
    try clear c46b0
    try clear c47
    try clear c47b0
    try clear c49
    try clear c49b0
    try clear c49b1
    try clear hcz11_0
    try clear hcz11_1
    try clear hcz11_2
    try clear hcz20_0
    try clear hcz20_1
    try clear hcz20_10
    try clear hcz20_2
    try clear hcz20_3
    try clear hcz20_4
    try clear hcz20_5
    try clear hcz20_6
    try clear hcz20_7
    try clear hcz20_8
    try clear hcz20_9
    try clear hcz35_0
    try clear hcz35_1
    try clear hcz35_2
    try clear hcz41_0
    try clear hcz41_1
    try clear hcz41_2
    try clear hcz50_0
    try clear hcz50_1
    try clear hcz50_2
    try clear hcz52_0
    try clear hcz52_1
    try clear hcz52_2
    try clear hcz54_0
    try clear hcz54_1
    try clear hcz54_2
    try clear hcz55_0
    try clear hcz55_1
    try clear hcz55_2
    try clear hcz57_0
    try clear hcz57_1
    try clear hcz57_2
    try clear hcz59_0
    try clear hcz59_1
    try clear hcz59_2
    try clear hcz7_0
    try clear hcz7_1
    try clear hcz7_2
    try clear hfz10_0
    try clear hfz10_1
    try clear hfz10_10
    try clear hfz10_2
    try clear hfz10_3
    try clear hfz10_4
    try clear hfz10_5
    try clear hfz10_6
    try clear hfz10_7
    try clear hfz10_8
    try clear hfz10_9
    try clear hfz11_0
    try clear hfz11_1
    try clear hfz11_2
    try clear hfz20_0
    try clear hfz20_1
    try clear hfz20_10
    try clear hfz20_2
    try clear hfz20_3
    try clear hfz20_4
    try clear hfz20_5
    try clear hfz20_6
    try clear hfz20_7
    try clear hfz20_8
    try clear hfz20_9
    try clear hfz35_0
    try clear hfz35_1
    try clear hfz35_2
    try clear hfz41_0
    try clear hfz41_1
    try clear hfz41_2
    try clear hfz50_0
    try clear hfz50_1
    try clear hfz50_2
    try clear hfz52_0
    try clear hfz52_1
    try clear hfz52_2
    try clear hfz54_0
    try clear hfz54_1
    try clear hfz54_2
    try clear hfz55_0
    try clear hfz55_1
    try clear hfz55_2
    try clear hfz57_0
    try clear hfz57_1
    try clear hfz57_2
    try clear hfz59_0
    try clear hfz59_1
    try clear hfz59_2
    try clear hfz7_0
    try clear hfz7_1
    try clear hfz7_2
    try clear hx184_0
    try clear hx184_1
    try clear hx184_10
    try clear hx184_2
    try clear hx184_3
    try clear hx184_4
    try clear hx184_5
    try clear hx184_6
    try clear hx184_7
    try clear hx184_8
    try clear hx184_9
    try clear hx186_0
    try clear hx199_0
    try clear hx199_1
    try clear hx199_10
    try clear hx199_2
    try clear hx199_3
    try clear hx199_4
    try clear hx199_5
    try clear hx199_6
    try clear hx199_7
    try clear hx199_8
    try clear hx199_9
    try clear hx200_0
    try clear hx200_1
    try clear hx200_10
    try clear hx200_2
    try clear hx200_3
    try clear hx200_4
    try clear hx200_5
    try clear hx200_6
    try clear hx200_7
    try clear hx200_8
    try clear hx200_9
    try clear hx202_0
    try clear hx202_1
    try clear hx202_10
    try clear hx202_2
    try clear hx202_3
    try clear hx202_4
    try clear hx202_5
    try clear hx202_6
    try clear hx202_7
    try clear hx202_8
    try clear hx202_9
    try clear hx204_0
    try clear hx204_1
    try clear hx204_10
    try clear hx204_2
    try clear hx204_3
    try clear hx204_4
    try clear hx204_5
    try clear hx204_6
    try clear hx204_7
    try clear hx204_8
    try clear hx204_9
    try clear p1
    try clear p18
    try clear p184
    try clear p186
    try clear p199
    try clear p2
    try clear p200
    try clear p202
    try clear p204
    try clear p6
    try clear q1
    try clear q18
    try clear q184
    try clear q186
    try clear q199
    try clear q200
    try clear q202
    try clear q204
    obtain ⟨kq, x108_39, rfl, HA, HJ39, HO_2, HO_3, BK183, HB⟩ := hcut
    cases kq with
    | zero => exact absurd HA.out (by simp [sleuthlaw13_times.j4])
    | succ kj39 =>
     have H := HA.out
     clear HA
     simp only [sleuthlaw13_times.j4] at H
     by_cases c61 : x108_39 = true
     rotate_left
     ·replace c61 := Bool.eq_false_iff.mpr c61
      subst c61
      have H1 : (sleuthlaw13_times.l1 kj39 x2_1 x3_2 (wrap64 (x8_2 - 1)) a0_0 a0_1 l0_2) = some (r1, r2) := by rw [if_neg (show ¬ (false = true) by decide)] at H; exact H
      clear H
      have H := H1
      clear H1
      have H' := Aside0.mk H
      clear H
      go_wp2
      go_roundg kj39
      case measure => have := HK1.out; have := HK2.out; have := HJ39.out; omega
      case rel => exact ⟨(x3_2), (wrap64 (x8_2 - 1)), qgtms_12, H', ⟨by have := HK1.out; have := HK2.out; have := HJ39.out; omega⟩, ⟨qgtms_5⟩, ⟨qgtms_3⟩, ⟨qgtms_2⟩, ⟨qgtms_4⟩⟩
     subst c61
     have H1 : (if 0 ≤ (Int.tmod (wrap64 ((rd_T153 l0_2 x8_2).f0)) (wrap64 (x8_2 + 1))) then (if (Int.tmod (wrap64 ((rd_T153 l0_2 x8_2).f0)) (wrap64 (x8_2 + 1))) < (x3_2.length : Int) then (if 0 ≤ x8_2 then (if x8_2 < (x3_2.length : Int) then (sleuthlaw13_times.l1 kj39 x2_1 (x3_2.set ((Int.tmod (wrap64 ((rd_T153 l0_2 x8_2).f0)) (wrap64 (x8_2 + 1))) : Int).toNat (mx (rd x3_2 (Int.tmod (wrap64 ((rd_T153 l0_2 x8_2).f0)) (wrap64 (x8_2 + 1)))) (rd x3_2 x8_2))) (wrap64 (x8_2 - 1)) a0_0 a0_1 l0_2) else (none)) else (none)) else (none)) else (none)) = some (r1, r2) := by rw [if_pos rfl] at H; exact H
     clear H
     have H := H1
     clear H1
     obtain ⟨ji62, hji62⟩ : ∃ j_ : Int, (Int.tmod (wrap64 ((rd_T153 l0_2 x8_2).f0)) (wrap64 (x8_2 + 1))) = j_ := ⟨_, rfl⟩
     replace H : (if 0 ≤ (ji62) then (if (ji62) < (x3_2.length : Int) then (if 0 ≤ x8_2 then (if x8_2 < (x3_2.length : Int) then (sleuthlaw13_times.l1 kj39 x2_1 (x3_2.set ((ji62) : Int).toNat (mx (rd x3_2 (ji62)) (rd x3_2 x8_2))) (wrap64 (x8_2 - 1)) a0_0 a0_1 l0_2) else (none)) else (none)) else (none)) else (none)) = some (r1, r2) := by first | (rw [hji62] at H; exact H) | (simp only [hji62] at H ⊢; exact H)
     by_cases c63 : 0 ≤ (ji62)
     rotate_left
     ·rw [if_neg c63] at H
      exact absurd H (by simp)
     rw [if_pos c63] at H
     have c63b0 : decide (0 ≤ (ji62)) = true := decide_eq_true c63
     clear c63
     by_cases c64 : (ji62) < (x3_2.length : Int)
     rotate_left
     ·rw [if_neg c64] at H
      exact absurd H (by simp)
     rw [if_pos c64] at H
     have c64b0 : decide ((ji62) < (x3_2.length : Int)) = true := decide_eq_true c64
     clear c64
     by_cases c65 : 0 ≤ x8_2
     rotate_left
     ·rw [if_neg c65] at H
      exact absurd H (by simp)
     rw [if_pos c65] at H
     have c65b0 : decide (0 ≤ x8_2) = true := decide_eq_true c65
     clear c65
     by_cases c66 : x8_2 < (x3_2.length : Int)
     rotate_left
     ·rw [if_neg c66] at H
      exact absurd H (by simp)
     rw [if_pos c66] at H
     have c66b0 : decide (x8_2 < (x3_2.length : Int)) = true := decide_eq_true c66
     clear c66
     obtain ⟨ji67, hji67⟩ : ∃ j_ : Int, (mx (rd x3_2 (ji62)) (rd x3_2 x8_2)) = j_ := ⟨_, rfl⟩
     replace H : (sleuthlaw13_times.l1 kj39 x2_1 (x3_2.set ((ji62) : Int).toNat (ji67)) (wrap64 (x8_2 - 1)) a0_0 a0_1 l0_2) = some (r1, r2) := by first | (rw [hji67] at H; exact H) | (simp only [hji67] at H ⊢; exact H)
     have hji67_ : (if (rd x3_2 (ji62)) < (rd x3_2 x8_2) then (rd x3_2 x8_2) else (rd x3_2 (ji62))) = ji67 := hji67
     obtain ⟨y207, hy207⟩ : ∃ y_ : List Int, y_ = (x3_2.set ((ji62) : Int).toNat (ji67)) := ⟨_, rfl⟩
     replace H : (sleuthlaw13_times.l1 kj39 x2_1 y207 (wrap64 (x8_2 - 1)) a0_0 a0_1 l0_2) = some (r1, r2) := by first | (rw [hy207]; with_reducible exact H) | (have H2_ := (Option.bind_some _ _).symm.trans H; rw [hy207]; with_reducible exact H2_) | (have H2_ := (Option.bind_some _ _).symm.trans H; with_reducible exact H2_) | with_reducible exact H | (rw [hy207]; exact H) | exact H
     have Ny207 := Aside0.mk hy207
     clear hy207
     have H' := Aside0.mk H
     clear H
     try go_wp2
     have n0_ := Aside0.mk (Kd.R_drew HO_2.out)
     have n1_ := Aside0.mk (Kd.R_drew HO_3.out)
     have n2_ := Aside0.mk (blk_drew BK183.out)
     have n3_ := Aside0.mk (below_drew1 HB.out)
     clear HO_2
     clear HO_3
     clear BK183
     clear HB
     have HO_2 := n0_
     have HO_3 := n1_
     have BK183 := n2_
     have HB := n3_
     clear n0_ n1_ n2_ n3_
     obtain ⟨Ao70, co70, eo70⟩ := Kd.R_slice HO_3.out
     (first | subst eo70 | (injection eo70 with f1_ f2_ f3_; have f4_ := f1_.symm; have f5_ := f3_.symm; clear f1_ f2_ f3_; subst f4_; subst f5_))
     have p205 : 0 ≤ ((ji62) : Int) := of_decide_eq_true qgtms_10
     have q205 : (ji62) < (x3_2.length : Int) := of_decide_eq_true qgtms_10
     obtain ⟨ad205, e205, hx205_0⟩ := Kd.at_int (Kd.R_reads' HO_3.out).2.2 (ji62) p205 q205
     cases e205
     replace p205 := eq_true p205
     replace q205 := eq_true q205
     have p206 : 0 ≤ (x8_2 : Int) := of_decide_eq_true qgtms_10
     have q206 : x8_2 < (x3_2.length : Int) := of_decide_eq_true qgtms_10
     obtain ⟨ad206, e206, hx206_0⟩ := Kd.at_int (Kd.R_reads' HO_3.out).2.2 x8_2 p206 q206
     obtain rfl : ad205 = ad206 := (by injection e206)
     replace p206 := eq_true p206
     replace q206 := eq_true q206
     have p68 : 0 ≤ ((ji62) : Int) := of_decide_eq_true qgtms_10
     have q68 : ((ji62) : Int) < ((x3_2.length : Int) : Int) := of_decide_eq_true qgtms_10
     obtain ⟨go68, co68, eo68, gb68, gl68, cl68, HG68⟩ := Kd.R_form HO_3.out (by omega)
     (first | cases eo68 | (injection eo68 with ea_ en_ ec_; (first | subst ea_ | (injection ea_ with ea_; subst ea_)); subst ec_; clear en_))
     have GB68 := Aside0.mk gb68
     have GG68 := Aside0.mk HG68
     clear gb68 gl68 HG68
     (first | simp only [add_plain] at hx205_0 | skip)
     (first | simp only [add_plain] at hx206_0 | skip)
     obtain ⟨hx68_0, hf68_0⟩ := Kd.R_celln 0 HO_3.out ((ji62) : Int) p68 q68
     replace p68 := eq_true p68
     replace q68 := eq_true q68
     have HP71 := Kd.R_putn HO_3.out ((ji62) : Int) ji67
     rw [← Ny207.out] at HP71
     have HQ71 := Aside0.mk HP71
     clear HP71
     refine start_ (n := 13) (S := fun w' => w'.cell? ⟨go68, ((ji62)).toNat, none⟩ = some (.int .i64 (rd x3_2 (ji62))) ∧ w'.cell? ⟨go68, (x8_2).toNat, none⟩ = some (.int .i64 (rd x3_2 x8_2))) (ds := [12]) #[F3449, F3449, F3449, F3449, F3449, F3449, F3449, F3449, F3449, F3449, F3449, F3449, F3449] (by kernel_rfl) rfl rfl ⟨hx205_0, hx206_0⟩ (fun hHeld => ?_); refine with_tabW sleuthlaw13_times.tab17 sleuthlaw13_times.bits17 (fun HT_ HW_ => ?_)
     generalize wc.drew = w69 at HO_2 HO_3 BK183 HB GG68 HQ71 hf68_0 hx205_0 hx206_0 hx68_0 hHeld ⊢
     refine pure_ (i := 0) (N := some 109) (v := ?_) (a' := ?_) #[T3449, F3449, F3449, F3449, F3449, F3449, F3449, F3449, F3449, F3449, F3449, F3449, F3449] rfl rfl (any_of HT_.out (by kernel_rfl)) (fun _ _ _ h => h) (Or.inl ⟨by rfl, ?_⟩) ?_ ?_
     rotate_left
     ·intro w'
      go_simp
      with_reducible rfl
     rotate_left
     ·simp only [Act.put, List.setIfInBounds_toArray, List.set_cons_zero, List.set_cons_succ, i64_w, i32_w]
      rfl
     refine pure_ (i := 1) (N := some 110) (v := ?_) (a' := ?_) #[T3449, T3449, F3449, F3449, F3449, F3449, F3449, F3449, F3449, F3449, F3449, F3449, F3449] rfl rfl (any_of HT_.out (by kernel_rfl)) (fun _ _ _ h => h) (Or.inl ⟨by rfl, ?_⟩) ?_ ?_
     rotate_left
     ·intro w'
      go_simp
      with_reducible rfl
     rotate_left
     ·simp only [Act.put, List.setIfInBounds_toArray, List.set_cons_zero, List.set_cons_succ, i64_w, i32_w]
      rfl
     refine pure_ (i := 2) (N := some 111) (v := ?_) (a' := ?_) #[T3449, T3449, T3449, F3449, F3449, F3449, F3449, F3449, F3449, F3449, F3449, F3449, F3449] rfl rfl (any_of HT_.out (by kernel_rfl)) (fun _ _ _ h => h) (Or.inl ⟨by rfl, ?_⟩) ?_ ?_
     rotate_left
     ·intro w'
      go_simp
      with_reducible rfl
     rotate_left
     ·simp only [Act.put, List.setIfInBounds_toArray, List.set_cons_zero, List.set_cons_succ, i64_w, i32_w]
      rfl
     refine pure_ (i := 3) (N := some 112) (v := ?_) (a' := ?_) #[T3449, T3449, T3449, T3449, F3449, F3449, F3449, F3449, F3449, F3449, F3449, F3449, F3449] rfl rfl (any_of HT_.out (by kernel_rfl)) (fun _ _ _ h => h) (Or.inl ⟨by rfl, ?_⟩) ?_ ?_
     rotate_left
     ·intro w'
      go_simp
      with_reducible rfl
     rotate_left
     ·simp only [Act.put, List.setIfInBounds_toArray, List.set_cons_zero, List.set_cons_succ, i64_w, i32_w]
      rfl
     refine pure_ (i := 4) (N := some 113) (v := ?_) (a' := ?_) #[T3449, T3449, T3449, T3449, T3449, F3449, F3449, F3449, F3449, F3449, F3449, F3449, F3449] rfl rfl (any_of HT_.out (by kernel_rfl)) (fun _ _ _ h => h) (Or.inl ⟨by rfl, ?_⟩) ?_ ?_
     rotate_left
     ·intro w'
      go_simp
      with_reducible rfl
     rotate_left
     ·simp only [Act.put, List.setIfInBounds_toArray, List.set_cons_zero, List.set_cons_succ, i64_w, i32_w]
      rfl
     refine pure_ (i := 6) (N := some 115) (v := ?_) (a' := ?_) #[T3449, T3449, T3449, T3449, T3449, F3449, T3449, F3449, F3449, F3449, F3449, F3449, F3449] rfl rfl (any_of HT_.out (by kernel_rfl)) (fun _ _ _ h => h) (Or.inl ⟨by rfl, ?_⟩) ?_ ?_
     rotate_left
     ·intro w'
      go_simp
      with_reducible rfl
     rotate_left
     ·simp only [Act.put, List.setIfInBounds_toArray, List.set_cons_zero, List.set_cons_succ, i64_w, i32_w]
      rfl
     refine pure_ (i := 7) (N := some 116) (v := ?_) (a' := ?_) #[T3449, T3449, T3449, T3449, T3449, F3449, T3449, T3449, F3449, F3449, F3449, F3449, F3449] rfl rfl (any_of HT_.out (by kernel_rfl)) (fun _ _ _ h => h) (Or.inl ⟨by rfl, ?_⟩) ?_ ?_
     rotate_left
     ·intro w'
      go_simp
      with_reducible rfl
     rotate_left
     ·simp only [Act.put, List.setIfInBounds_toArray, List.set_cons_zero, List.set_cons_succ, i64_w, i32_w]
      rfl
     refine pure_ (i := 8) (N := some 117) (v := ?_) (a' := ?_) #[T3449, T3449, T3449, T3449, T3449, F3449, T3449, T3449, T3449, F3449, F3449, F3449, F3449] rfl rfl (any_of HT_.out (by kernel_rfl)) (fun _ _ _ h => h) (Or.inl ⟨by rfl, ?_⟩) ?_ ?_
     rotate_left
     ·intro w'
      go_simp
      with_reducible rfl
     rotate_left
     ·simp only [Act.put, List.setIfInBounds_toArray, List.set_cons_zero, List.set_cons_succ, i64_w, i32_w]
      rfl
     refine take_ (i := 5) (N := some 114) (v := ?_) (a' := ?_) #[T3449, T3449, T3449, T3449, T3449, T3449, T3449, T3449, T3449, F3449, F3449, F3449, F3449] rfl rfl (take_ofW HT_.out HW_.out (by kernel_rfl)) (fun _ _ _ h => h) (Or.inl ⟨by rfl, ?_⟩) hHeld ?_ ?_
     rotate_left
     ·rintro w' ⟨s0, s1⟩
      go_simp
      with_reducible rfl
     rotate_left
     ·simp only [Act.put, List.setIfInBounds_toArray, List.set_cons_zero, List.set_cons_succ, i64_w, i32_w]
      rfl
     refine take_ (i := 9) (N := some 118) (v := ?_) (a' := ?_) #[T3449, T3449, T3449, T3449, T3449, T3449, T3449, T3449, T3449, T3449, F3449, F3449, F3449] rfl rfl (take_ofW HT_.out HW_.out (by kernel_rfl)) (fun _ _ _ h => h) (Or.inl ⟨by rfl, ?_⟩) hHeld ?_ ?_
     rotate_left
     ·rintro w' ⟨s0, s1⟩
      go_simp
      with_reducible rfl
     rotate_left
     ·simp only [Act.put, List.setIfInBounds_toArray, List.set_cons_zero, List.set_cons_succ, i64_w, i32_w]
      rfl
     refine pure_ (i := 10) (N := some 119) (v := ?_) (a' := ?_) #[T3449, T3449, T3449, T3449, T3449, T3449, T3449, T3449, T3449, T3449, T3449, F3449, F3449] rfl rfl (any_of HT_.out (by kernel_rfl)) (fun _ _ _ h => h) (Or.inl ⟨by rfl, ?_⟩) ?_ ?_
     rotate_left
     ·intro w'
      go_simp
      with_reducible rfl
     rotate_left
     ·simp only [Act.put, List.setIfInBounds_toArray, List.set_cons_zero, List.set_cons_succ, i64_w, i32_w]
      rfl
     refine pure_ (i := 11) (N := some 120) (v := ?_) (a' := ?_) #[T3449, T3449, T3449, T3449, T3449, T3449, T3449, T3449, T3449, T3449, T3449, T3449, F3449] rfl rfl (any_of HT_.out (by kernel_rfl)) (fun _ _ _ h => h) (Or.inl ⟨by rfl, ?_⟩) ?_ ?_
     rotate_left
     ·intro w'
      go_simp
      with_reducible rfl
     rotate_left
     ·simp only [Act.put, List.setIfInBounds_toArray, List.set_cons_zero, List.set_cons_succ, i64_w, i32_w]
      rfl
     refine last_ (i := 12) (N := none) #[T3449, T3449, T3449, T3449, T3449, T3449, T3449, T3449, T3449, T3449, T3449, T3449, T3449] rfl rfl (one_of HT_.out (by kernel_rfl)) (by decide) (fun K hK => ?_)
     refine skip_ (w1 := ?_) (by rfl) rfl ?_ ?_
     rotate_left
     ·go_simp
      rfl
     refine hK.out _ _ ?_
     clear hK K
     refine done_ (done_of HT_.out (by kernel_rfl)) ?_
     try go_wp2
     go_roundg kj39
     case measure => have := HK1.out; have := HK2.out; have := HJ39.out; omega
     case rel => exact ⟨(y207), (wrap64 (x8_2 - 1)), qgtms_12, H', ⟨by have := HK1.out; have := HK2.out; have := HJ39.out; omega⟩, ⟨by (with_reducible repeat (first | apply Kd.R_alloc | apply Kd.R_drewN | apply Kd.R_drew)); exact Kd.R_mono (Kd.R_far (p := ⟨go68, ((ji62) : Int).toNat, none⟩) (Kd.R_mono HO_2.out (fun k_ hk => (⟨hk, fun e_ => hk (by rw [e_]; rfl)⟩ : _ ∧ k_ ≠ go68))) (fun _ hk => hk.2) (.int .i64 ji67)) (fun _ hk => hk.1)⟩, ⟨by (with_reducible repeat (first | apply Kd.R_alloc | apply Kd.R_drewN | apply Kd.R_drew)); exact HQ71.out⟩, ⟨by (with_reducible repeat (first | refine blk_drewN ?_ _ | refine blk_drew ?_ | refine blk_alloc ?_ _)); refine blk_far ?_ (by have h_ := Kd.R_ne HO_3.out BK183.out (by decide); intro e_; exact h_ (by rw [e_]; rfl)) _; (with_reducible repeat (first | refine blk_drewN ?_ _ | refine blk_drew ?_ | refine blk_alloc ?_ _)); exact BK183.out⟩, ⟨by repeat (first | (with_reducible first | exact HB.out | apply below_alloc | apply pw_below_drewN | apply below_drew1 | refine below_set ?_ GB68.out | refine below_set ?_ GE183.out) | exact HB.out)⟩⟩
  rw [if_pos c3] at H
  have c3b0 : decide (x4_1 < (l0_2.length : Int)) = true := decide_eq_true c3
  clear c3
  by_cases c4 : 0 ≤ x4_1
  rotate_left
  ·rw [if_neg c4] at H
   exact absurd H (by simp)
  rw [if_pos c4] at H
  have c4b0 : decide (0 ≤ x4_1) = true := decide_eq_true c4
  clear c4
  by_cases c5 : (wrap64 (x4_1 + 1)) = 0
  ·rw [if_pos c5] at H
   exact absurd H (by simp)
  rw [if_neg c5] at H
  have c5b0 : ((wrap64 (x4_1 + 1)) == 0) = false := beq_eq_false_iff_ne.mpr c5
  have c5b1 : ((wrap64 (x4_1 + 1)) != 0) = true := bne_iff_ne.mpr c5
  have HC6 := Aside0.mk H
  clear H
  have hcz7_0 : wr.cell? ⟨gb183, 0, none⟩ = some (.int .u8 a0_0) := (blk_cell BK183.out 0).trans rfl
  have hcz7_1 : wr.cell? ⟨gb183, 1, none⟩ = some (.int .u8 a0_1) := (blk_cell BK183.out 1).trans rfl
  have hcz7_2 : wr.cell? ⟨gb183, 2, none⟩ = some (.slice A0_2 l0_2.length c0_2) := (blk_cell BK183.out 2).trans rfl
  have hfz7_0 := blk_frozen BK183.out 0
  have hfz7_1 := blk_frozen BK183.out 1
  have hfz7_2 := blk_frozen BK183.out 2
  have p184 : 0 ≤ (x4_1 : Int) := of_decide_eq_true qgtms_10
  have q184 : x4_1 < (l0_2.length : Int) := of_decide_eq_true qgtms_10
  obtain ⟨ad184, e184, hx184_0, hx184_1, hx184_2, hx184_3, hx184_4, hx184_5, hx184_6, hx184_7, hx184_8, hx184_9, hx184_10⟩ := at_T153 HR0_2.out x4_1 p184 q184
  cases e184
  replace hx184_0 := (HB.out.cell (World.block_lt_of_cell? w _ hx184_0)).trans hx184_0
  replace hx184_1 := (HB.out.cell (World.block_lt_of_cell? w _ hx184_1)).trans hx184_1
  replace hx184_2 := (HB.out.cell (World.block_lt_of_cell? w _ hx184_2)).trans hx184_2
  replace hx184_3 := (HB.out.cell (World.block_lt_of_cell? w _ hx184_3)).trans hx184_3
  replace hx184_4 := (HB.out.cell (World.block_lt_of_cell? w _ hx184_4)).trans hx184_4
  replace hx184_5 := (HB.out.cell (World.block_lt_of_cell? w _ hx184_5)).trans hx184_5
  replace hx184_6 := (HB.out.cell (World.block_lt_of_cell? w _ hx184_6)).trans hx184_6
  replace hx184_7 := (HB.out.cell (World.block_lt_of_cell? w _ hx184_7)).trans hx184_7
  replace hx184_8 := (HB.out.cell (World.block_lt_of_cell? w _ hx184_8)).trans hx184_8
  replace hx184_9 := (HB.out.cell (World.block_lt_of_cell? w _ hx184_9)).trans hx184_9
  replace hx184_10 := (HB.out.cell (World.block_lt_of_cell? w _ hx184_10)).trans hx184_10
  replace p184 := eq_true p184
  replace q184 := eq_true q184
  go_upto_if 35 with (first | ((with_reducible refine gate_dst (N := 5) rfl ?_); refine box_event ?hg (N := 5) ?hd (cs := #[.int .u8 0, .int .u8 0, .int .u8 0, .int .u8 0, .int .u8 0, .int .u8 0, .int .u8 0, .int .u8 0, .int .u8 0, .int .u8 0, .bool false]) (t := 153) ?hr ?_; (case hd => rfl); (case hg => rfl); (case hr => exact qgtms_26); intro gb185 hg w8 hbox hb; have n0_ := Aside0.mk (Kd.R_below qgtms_5 hb); have n1_ := Aside0.mk (Kd.R_below qgtms_3 hb); have n2_ := Aside0.mk (blk_below (g := gb183) (o := .cells #[.int .u8 a0_0, .int .u8 a0_1, .slice (some ad184) l0_2.length c0_2] 104 (0, 0)) qgtms_2 hb); have n3_ := Aside0.mk (below_step qgtms_4 hb); have n4_ := Aside0.mk (hbox); have n5_ := Aside0.mk ((by rw [hg]; exact (below_size qgtms_4) : w.heap.size ≤ gb185)); have n6_ := Aside0.mk ((by rw [hg]; exact (below_size qgtms_4) : w.heap.size ≤ gb185)); have n7_ := Aside0.mk ((by rw [hg]; exact Nat.ne_of_lt (blk_lt (g := gb183) (o := .cells #[.int .u8 a0_0, .int .u8 a0_1, .slice (some ad184) l0_2.length c0_2] 104 (0, 0)) qgtms_2) : gb183 ≠ gb185)); have n8_ := Aside0.mk ((by rw [hg]; exact Nat.ne_of_gt (blk_lt (g := gb183) (o := .cells #[.int .u8 a0_0, .int .u8 a0_1, .slice (some ad184) l0_2.length c0_2] 104 (0, 0)) qgtms_2) : gb185 ≠ gb183)); clear HO_2; clear HO_3; clear BK183; clear HB; have HO_2 := n0_; have HO_3 := n1_; have BK183 := n2_; have HB := n3_; have BK185 := n4_; have GW185 := n5_; have GE185 := n6_; have NB183_185 := n7_; have NB185_183 := n8_; clear n0_ n1_ n2_ n3_ n4_ n5_ n6_ n7_ n8_; clear hb hbox hg; have hnb9 := NB185_183.out; have hnc9 := NB183_185.out; have hcz10_0 : w8.cell? ⟨gb185, 0, none⟩ = some (.int .u8 0) := (blk_cell BK185.out 0).trans rfl; have hcz10_1 : w8.cell? ⟨gb185, 1, none⟩ = some (.int .u8 0) := (blk_cell BK185.out 1).trans rfl; have hcz10_2 : w8.cell? ⟨gb185, 2, none⟩ = some (.int .u8 0) := (blk_cell BK185.out 2).trans rfl; have hcz10_3 : w8.cell? ⟨gb185, 3, none⟩ = some (.int .u8 0) := (blk_cell BK185.out 3).trans rfl; have hcz10_4 : w8.cell? ⟨gb185, 4, none⟩ = some (.int .u8 0) := (blk_cell BK185.out 4).trans rfl; have hcz10_5 : w8.cell? ⟨gb185, 5, none⟩ = some (.int .u8 0) := (blk_cell BK185.out 5).trans rfl; have hcz10_6 : w8.cell? ⟨gb185, 6, none⟩ = some (.int .u8 0) := (blk_cell BK185.out 6).trans rfl; have hcz10_7 : w8.cell? ⟨gb185, 7, none⟩ = some (.int .u8 0) := (blk_cell BK185.out 7).trans rfl; have hcz10_8 : w8.cell? ⟨gb185, 8, none⟩ = some (.int .u8 0) := (blk_cell BK185.out 8).trans rfl; have hcz10_9 : w8.cell? ⟨gb185, 9, none⟩ = some (.int .u8 0) := (blk_cell BK185.out 9).trans rfl; have hcz10_10 : w8.cell? ⟨gb185, 10, none⟩ = some (.bool false) := (blk_cell BK185.out 10).trans rfl; have hfz10_0 := blk_frozen BK185.out 0; have hfz10_1 := blk_frozen BK185.out 1; have hfz10_2 := blk_frozen BK185.out 2; have hfz10_3 := blk_frozen BK185.out 3; have hfz10_4 := blk_frozen BK185.out 4; have hfz10_5 := blk_frozen BK185.out 5; have hfz10_6 := blk_frozen BK185.out 6; have hfz10_7 := blk_frozen BK185.out 7; have hfz10_8 := blk_frozen BK185.out 8; have hfz10_9 := blk_frozen BK185.out 9; have hfz10_10 := blk_frozen BK185.out 10; have hcz11_0 : w8.cell? ⟨gb183, 0, none⟩ = some (.int .u8 a0_0) := (blk_cell BK183.out 0).trans rfl; have hcz11_1 : w8.cell? ⟨gb183, 1, none⟩ = some (.int .u8 a0_1) := (blk_cell BK183.out 1).trans rfl; have hcz11_2 : w8.cell? ⟨gb183, 2, none⟩ = some (.slice (some ad184) l0_2.length c0_2) := (blk_cell BK183.out 2).trans rfl; have hfz11_0 := blk_frozen BK183.out 0; have hfz11_1 := blk_frozen BK183.out 1; have hfz11_2 := blk_frozen BK183.out 2))
  (try simp only [Act.put, List.setIfInBounds_toArray, List.set_cons_zero, List.set_cons_succ])
  go_cut [6] (fun v6 wc => ∃ (kq : Nat) (x6_5 : Int), v6 = .int .i64 x6_5 ∧ Aside0 (sleuthlaw13_times.j1 kq x2_1 x3_1 x4_1 x6_5 a0_0 a0_1 l0_2 ((rd_T153 l0_2 x4_1).f0) ((rd_T153 l0_2 x4_1).f1) ((rd_T153 l0_2 x4_1).f2) ((rd_T153 l0_2 x4_1).f3) ((rd_T153 l0_2 x4_1).f4) ((rd_T153 l0_2 x4_1).f5) ((rd_T153 l0_2 x4_1).f6) ((rd_T153 l0_2 x4_1).f7) ((rd_T153 l0_2 x4_1).f8) ((rd_T153 l0_2 x4_1).f9) ((rd_T153 l0_2 x4_1).f10) = some (r1, r2)) ∧ Aside0 (kq ≤ k1) ∧ Aside0 (Kd.R (Kd.int .i64) 3 wc w.heap.size (fun k_ => some k_ ≠ (u3 : Value).ownBlock) u2 x2_1) ∧ Aside0 (Kd.R (Kd.int .i64) 3 wc w.heap.size (fun k_ => some k_ ≠ (u2 : Value).ownBlock) u3 x3_1) ∧ Aside0 (wc.heap[gb183]? = some (.cells #[.int .u8 a0_0, .int .u8 a0_1, (.slice (some ad184) l0_2.length c0_2)] 104 (0, 0))) ∧ Aside0 (wc.heap[gb185]? = some (.cells #[.int .u8 ((rd_T153 l0_2 x4_1).f0), .int .u8 ((rd_T153 l0_2 x4_1).f1), .int .u8 ((rd_T153 l0_2 x4_1).f2), .int .u8 ((rd_T153 l0_2 x4_1).f3), .int .u8 ((rd_T153 l0_2 x4_1).f4), .int .u8 ((rd_T153 l0_2 x4_1).f5), .int .u8 ((rd_T153 l0_2 x4_1).f6), .int .u8 ((rd_T153 l0_2 x4_1).f7), .int .u8 ((rd_T153 l0_2 x4_1).f8), .int .u8 ((rd_T153 l0_2 x4_1).f9), .bool ((rd_T153 l0_2 x4_1).f10)] 153 (0, 0))) ∧ Aside0 (Below w.heap.size w wc))
  case first =>
   have H := HC6.out
   clear HC6
   by_cases c12 : (Int.tmod (wrap64 ((rd_T153 l0_2 x4_1).f0)) (wrap64 (x4_1 + 1))) < x4_1
   rotate_left
   ·rw [if_neg c12] at H
    have c12b0 : decide ((Int.tmod (wrap64 ((rd_T153 l0_2 x4_1).f0)) (wrap64 (x4_1 + 1))) < x4_1) = false := decide_eq_false c12
    clear c12
    (first | rw [c12b0] | (simp only [i64_w, i32_w]; rw [c12b0]) | skip)
    have H' := Aside0.mk H
    clear H
    go_wp2
    go_meet
    case rel => exact ⟨_, (wrap64 (1000 + (wrap64 (Int.tmod a0_1 32)))), qgtms_12, H', ⟨by have := HK1.out; first | omega | exact Nat.le_refl _⟩, ⟨qgtms_8⟩, ⟨qgtms_9⟩, ⟨qgtms_6⟩, ⟨qgtms_1⟩, ⟨qgtms_0⟩⟩
   rw [if_pos c12] at H
   have c12b0 : decide ((Int.tmod (wrap64 ((rd_T153 l0_2 x4_1).f0)) (wrap64 (x4_1 + 1))) < x4_1) = true := decide_eq_true c12
   clear c12
   (first | rw [c12b0] | (simp only [i64_w, i32_w]; rw [c12b0]) | skip)
   obtain ⟨ji13, hji13⟩ : ∃ j_ : Int, (Int.tmod (wrap64 ((rd_T153 l0_2 x4_1).f0)) (wrap64 (x4_1 + 1))) = j_ := ⟨_, rfl⟩
   replace H : (if 0 ≤ (ji13) then (if (ji13) < (x2_1.length : Int) then (sleuthlaw13_times.j1 k1 x2_1 x3_1 x4_1 (rd x2_1 (ji13)) a0_0 a0_1 l0_2 ((rd_T153 l0_2 x4_1).f0) ((rd_T153 l0_2 x4_1).f1) ((rd_T153 l0_2 x4_1).f2) ((rd_T153 l0_2 x4_1).f3) ((rd_T153 l0_2 x4_1).f4) ((rd_T153 l0_2 x4_1).f5) ((rd_T153 l0_2 x4_1).f6) ((rd_T153 l0_2 x4_1).f7) ((rd_T153 l0_2 x4_1).f8) ((rd_T153 l0_2 x4_1).f9) ((rd_T153 l0_2 x4_1).f10)) else (none)) else (none)) = some (r1, r2) := by first | (rw [hji13] at H; exact H) | (simp only [hji13] at H ⊢; exact H)
   (try rw [hji13] at c12b0)
   by_cases c14 : 0 ≤ (ji13)
   rotate_left
   ·rw [if_neg c14] at H
    exact absurd H (by simp)
   rw [if_pos c14] at H
   have c14b0 : decide (0 ≤ (ji13)) = true := decide_eq_true c14
   clear c14
   by_cases c15 : (ji13) < (x2_1.length : Int)
   rotate_left
   ·rw [if_neg c15] at H
    exact absurd H (by simp)
   rw [if_pos c15] at H
   have c15b0 : decide ((ji13) < (x2_1.length : Int)) = true := decide_eq_true c15
   clear c15
   have H' := Aside0.mk H
   clear H
   obtain ⟨Ao16, co16, eo16⟩ := Kd.R_slice HO_2.out
   subst eo16
   have p186 : 0 ≤ ((ji13) : Int) := of_decide_eq_true qgtms_10
   have q186 : (ji13) < (x2_1.length : Int) := of_decide_eq_true qgtms_10
   obtain ⟨ad186, e186, hx186_0⟩ := Kd.at_int (Kd.R_reads' HO_2.out).2.2 (ji13) p186 q186
   cases e186
   have hn186_0 : ad186.block ≠ gb185 := Kd.own_blk (Kd.R_ne HO_2.out BK185.out (by decide))
   have hn186_1 : ad186.block ≠ gb185 := Kd.own_blk (Kd.R_ne HO_2.out BK185.out (by decide))
   have hn186_2 : ad186.block ≠ gb185 := Kd.own_blk (Kd.R_ne HO_2.out BK185.out (by decide))
   have hn186_3 : ad186.block ≠ gb185 := Kd.own_blk (Kd.R_ne HO_2.out BK185.out (by decide))
   have hn186_4 : ad186.block ≠ gb185 := Kd.own_blk (Kd.R_ne HO_2.out BK185.out (by decide))
   have hn186_5 : ad186.block ≠ gb185 := Kd.own_blk (Kd.R_ne HO_2.out BK185.out (by decide))
   have hn186_6 : ad186.block ≠ gb185 := Kd.own_blk (Kd.R_ne HO_2.out BK185.out (by decide))
   have hn186_7 : ad186.block ≠ gb185 := Kd.own_blk (Kd.R_ne HO_2.out BK185.out (by decide))
   have hn186_8 : ad186.block ≠ gb185 := Kd.own_blk (Kd.R_ne HO_2.out BK185.out (by decide))
   have hn186_9 : ad186.block ≠ gb185 := Kd.own_blk (Kd.R_ne HO_2.out BK185.out (by decide))
   have hn186_10 : ad186.block ≠ gb185 := Kd.own_blk (Kd.R_ne HO_2.out BK185.out (by decide))
   replace hx186_0 := (cell_far (p := ⟨gb185, 0, none⟩) (by first | (rw [add_block]; exact hn186_0) | (show (Addr.add _ _).block ≠ _; rw [add_block]; exact hn186_0) | exact hn186_0) (.int .u8 ((rd_T153 l0_2 x4_1).f0))).trans hx186_0
   replace hx186_0 := (cell_far (p := ⟨gb185, 1, none⟩) (by first | (rw [add_block]; exact hn186_1) | (show (Addr.add _ _).block ≠ _; rw [add_block]; exact hn186_1) | exact hn186_1) (.int .u8 ((rd_T153 l0_2 x4_1).f1))).trans hx186_0
   replace hx186_0 := (cell_far (p := ⟨gb185, 2, none⟩) (by first | (rw [add_block]; exact hn186_2) | (show (Addr.add _ _).block ≠ _; rw [add_block]; exact hn186_2) | exact hn186_2) (.int .u8 ((rd_T153 l0_2 x4_1).f2))).trans hx186_0
   replace hx186_0 := (cell_far (p := ⟨gb185, 3, none⟩) (by first | (rw [add_block]; exact hn186_3) | (show (Addr.add _ _).block ≠ _; rw [add_block]; exact hn186_3) | exact hn186_3) (.int .u8 ((rd_T153 l0_2 x4_1).f3))).trans hx186_0
   replace hx186_0 := (cell_far (p := ⟨gb185, 4, none⟩) (by first | (rw [add_block]; exact hn186_4) | (show (Addr.add _ _).block ≠ _; rw [add_block]; exact hn186_4) | exact hn186_4) (.int .u8 ((rd_T153 l0_2 x4_1).f4))).trans hx186_0
   replace hx186_0 := (cell_far (p := ⟨gb185, 5, none⟩) (by first | (rw [add_block]; exact hn186_5) | (show (Addr.add _ _).block ≠ _; rw [add_block]; exact hn186_5) | exact hn186_5) (.int .u8 ((rd_T153 l0_2 x4_1).f5))).trans hx186_0
   replace hx186_0 := (cell_far (p := ⟨gb185, 6, none⟩) (by first | (rw [add_block]; exact hn186_6) | (show (Addr.add _ _).block ≠ _; rw [add_block]; exact hn186_6) | exact hn186_6) (.int .u8 ((rd_T153 l0_2 x4_1).f6))).trans hx186_0
   replace hx186_0 := (cell_far (p := ⟨gb185, 7, none⟩) (by first | (rw [add_block]; exact hn186_7) | (show (Addr.add _ _).block ≠ _; rw [add_block]; exact hn186_7) | exact hn186_7) (.int .u8 ((rd_T153 l0_2 x4_1).f7))).trans hx186_0
   replace hx186_0 := (cell_far (p := ⟨gb185, 8, none⟩) (by first | (rw [add_block]; exact hn186_8) | (show (Addr.add _ _).block ≠ _; rw [add_block]; exact hn186_8) | exact hn186_8) (.int .u8 ((rd_T153 l0_2 x4_1).f8))).trans hx186_0
   replace hx186_0 := (cell_far (p := ⟨gb185, 9, none⟩) (by first | (rw [add_block]; exact hn186_9) | (show (Addr.add _ _).block ≠ _; rw [add_block]; exact hn186_9) | exact hn186_9) (.int .u8 ((rd_T153 l0_2 x4_1).f9))).trans hx186_0
   replace hx186_0 := (cell_far (p := ⟨gb185, 10, none⟩) (by first | (rw [add_block]; exact hn186_10) | (show (Addr.add _ _).block ≠ _; rw [add_block]; exact hn186_10) | exact hn186_10) (.bool ((rd_T153 l0_2 x4_1).f10))).trans hx186_0
   clear hn186_0
   clear hn186_1
   clear hn186_2
   clear hn186_3
   clear hn186_4
   clear hn186_5
   clear hn186_6
   clear hn186_7
   clear hn186_8
   clear hn186_9
   clear hn186_10
   replace p186 := eq_true p186
   replace q186 := eq_true q186
   go_wp2
   subst hji13
   go_meet
   case rel => exact ⟨_, (rd x2_1 (Int.tmod (wrap64 ((rd_T153 l0_2 x4_1).f0)) (wrap64 (x4_1 + 1)))), (by first | rfl | (simp; done) | (simp only [← hji13] <;> (first | rfl | simp)) | (simp [*]; done)), H', ⟨by have := HK1.out; first | omega | exact Nat.le_refl _⟩, ⟨qgtms_8⟩, ⟨qgtms_9⟩, ⟨qgtms_6⟩, ⟨qgtms_1⟩, ⟨qgtms_0⟩⟩
  clear HC6
  try clear c1
  try clear p1
  try clear q1
  try clear hx1
  try clear p2
  try clear c3
  try clear c3b0
  try clear c4
  try clear c4b0
  try clear c5
  try clear c5b0
  try clear c5b1
  try clear c6
  try clear p6
  try clear c9
  try clear c12
  try clear c12b0
  try clear c14
  try clear c14b0
  try clear c15
  try clear c15b0
  try clear hcz10_0
  try clear hcz10_1
  try clear hcz10_10
  try clear hcz10_2
  try clear hcz10_3
  try clear hcz10_4
  try clear hcz10_5
  try clear hcz10_6
  try clear hcz10_7
  try clear hcz10_8
  try clear hcz10_9
  try clear hcz11_0
  try clear hcz11_1
  try clear hcz11_2
  try clear hcz7_0
  try clear hcz7_1
  try clear hcz7_2
  try clear hfz10_0
  try clear hfz10_1
  try clear hfz10_10
  try clear hfz10_2
  try clear hfz10_3
  try clear hfz10_4
  try clear hfz10_5
  try clear hfz10_6
  try clear hfz10_7
  try clear hfz10_8
  try clear hfz10_9
  try clear hfz11_0
  try clear hfz11_1
  try clear hfz11_2
  try clear hfz7_0
  try clear hfz7_1
  try clear hfz7_2
  try clear hx184_0
  try clear hx184_1
  try clear hx184_10
  try clear hx184_2
  try clear hx184_3
  try clear hx184_4
  try clear hx184_5
  try clear hx184_6
  try clear hx184_7
  try clear hx184_8
  try clear hx184_9
  try clear hx186_0
  try clear p184
  try clear p186
  try clear p2
  try clear q184
  try clear q186
  obtain ⟨kq, x6_5, rfl, HA, HJ5, HO_2, HO_3, BK183, BK185, HB⟩ := hcut
  cases kq with
  | zero => exact absurd HA.out (by simp [sleuthlaw13_times.j1])
  | succ kj5 =>
   have H := HA.out
   clear HA
   simp only [sleuthlaw13_times.j1] at H
   have HC17 := Aside0.mk H
   clear H
   go_upto_if 41 with (fail)
   go_cut [6] (fun v6 wc => ∃ (kq : Nat) (x6_16 : Int), v6 = .int .i64 x6_16 ∧ Aside0 (sleuthlaw13_times.j2 kq x2_1 x3_1 x4_1 x6_16 a0_0 a0_1 l0_2 ((rd_T153 l0_2 x4_1).f0) ((rd_T153 l0_2 x4_1).f1) ((rd_T153 l0_2 x4_1).f2) ((rd_T153 l0_2 x4_1).f3) ((rd_T153 l0_2 x4_1).f4) ((rd_T153 l0_2 x4_1).f5) ((rd_T153 l0_2 x4_1).f6) ((rd_T153 l0_2 x4_1).f7) ((rd_T153 l0_2 x4_1).f8) ((rd_T153 l0_2 x4_1).f9) ((rd_T153 l0_2 x4_1).f10) = some (r1, r2)) ∧ Aside0 (kq ≤ kj5) ∧ Aside0 (Kd.R (Kd.int .i64) 3 wc w.heap.size (fun k_ => some k_ ≠ (u3 : Value).ownBlock) u2 x2_1) ∧ Aside0 (Kd.R (Kd.int .i64) 3 wc w.heap.size (fun k_ => some k_ ≠ (u2 : Value).ownBlock) u3 x3_1) ∧ Aside0 (wc.heap[gb183]? = some (.cells #[.int .u8 a0_0, .int .u8 a0_1, (.slice (some ad184) l0_2.length c0_2)] 104 (0, 0))) ∧ Aside0 (wc.heap[gb185]? = some (.cells #[.int .u8 ((rd_T153 l0_2 x4_1).f0), .int .u8 ((rd_T153 l0_2 x4_1).f1), .int .u8 ((rd_T153 l0_2 x4_1).f2), .int .u8 ((rd_T153 l0_2 x4_1).f3), .int .u8 ((rd_T153 l0_2 x4_1).f4), .int .u8 ((rd_T153 l0_2 x4_1).f5), .int .u8 ((rd_T153 l0_2 x4_1).f6), .int .u8 ((rd_T153 l0_2 x4_1).f7), .int .u8 ((rd_T153 l0_2 x4_1).f8), .int .u8 ((rd_T153 l0_2 x4_1).f9), .bool ((rd_T153 l0_2 x4_1).f10)] 153 (0, 0))) ∧ Aside0 (Below w.heap.size w wc))
   case first =>
    have H := HC17.out
    clear HC17
    by_cases c18 : x4_1 > 0
    rotate_left
    ·rw [if_neg c18] at H
     have c18b0 : decide (0 < x4_1) = false := decide_eq_false c18
     clear c18
     (first | rw [c18b0] | (simp only [i64_w, i32_w]; rw [c18b0]) | skip)
     have H' := Aside0.mk H
     clear H
     go_wp2
     go_meet
     case rel => exact ⟨_, (x6_5), qgtms_12, H', ⟨by have := HK1.out; have := HJ5.out; first | omega | exact Nat.le_refl _⟩, ⟨qgtms_5⟩, ⟨qgtms_3⟩, ⟨qgtms_2⟩, ⟨qgtms_7⟩, ⟨qgtms_0⟩⟩
    rw [if_pos c18] at H
    have c18b0 : decide (0 < x4_1) = true := decide_eq_true c18
    clear c18
    (first | rw [c18b0] | (simp only [i64_w, i32_w]; rw [c18b0]) | skip)
    have H' := Aside0.mk H
    clear H
    have hnb19 := NB185_183.out
    have hnc19 := NB183_185.out
    have hcz20_0 : wc.cell? ⟨gb185, 0, none⟩ = some (.int .u8 ((rd_T153 l0_2 x4_1).f0)) := (blk_cell BK185.out 0).trans rfl
    have hcz20_1 : wc.cell? ⟨gb185, 1, none⟩ = some (.int .u8 ((rd_T153 l0_2 x4_1).f1)) := (blk_cell BK185.out 1).trans rfl
    have hcz20_2 : wc.cell? ⟨gb185, 2, none⟩ = some (.int .u8 ((rd_T153 l0_2 x4_1).f2)) := (blk_cell BK185.out 2).trans rfl
    have hcz20_3 : wc.cell? ⟨gb185, 3, none⟩ = some (.int .u8 ((rd_T153 l0_2 x4_1).f3)) := (blk_cell BK185.out 3).trans rfl
    have hcz20_4 : wc.cell? ⟨gb185, 4, none⟩ = some (.int .u8 ((rd_T153 l0_2 x4_1).f4)) := (blk_cell BK185.out 4).trans rfl
    have hcz20_5 : wc.cell? ⟨gb185, 5, none⟩ = some (.int .u8 ((rd_T153 l0_2 x4_1).f5)) := (blk_cell BK185.out 5).trans rfl
    have hcz20_6 : wc.cell? ⟨gb185, 6, none⟩ = some (.int .u8 ((rd_T153 l0_2 x4_1).f6)) := (blk_cell BK185.out 6).trans rfl
    have hcz20_7 : wc.cell? ⟨gb185, 7, none⟩ = some (.int .u8 ((rd_T153 l0_2 x4_1).f7)) := (blk_cell BK185.out 7).trans rfl
    have hcz20_8 : wc.cell? ⟨gb185, 8, none⟩ = some (.int .u8 ((rd_T153 l0_2 x4_1).f8)) := (blk_cell BK185.out 8).trans rfl
    have hcz20_9 : wc.cell? ⟨gb185, 9, none⟩ = some (.int .u8 ((rd_T153 l0_2 x4_1).f9)) := (blk_cell BK185.out 9).trans rfl
    have hcz20_10 : wc.cell? ⟨gb185, 10, none⟩ = some (.bool ((rd_T153 l0_2 x4_1).f10)) := (blk_cell BK185.out 10).trans rfl
    have hfz20_0 := blk_frozen BK185.out 0
    have hfz20_1 := blk_frozen BK185.out 1
    have hfz20_2 := blk_frozen BK185.out 2
    have hfz20_3 := blk_frozen BK185.out 3
    have hfz20_4 := blk_frozen BK185.out 4
    have hfz20_5 := blk_frozen BK185.out 5
    have hfz20_6 := blk_frozen BK185.out 6
    have hfz20_7 := blk_frozen BK185.out 7
    have hfz20_8 := blk_frozen BK185.out 8
    have hfz20_9 := blk_frozen BK185.out 9
    have hfz20_10 := blk_frozen BK185.out 10
    go_wp2
    go_meet
    case rel => exact ⟨_, (wrap64 (x6_5 + (wrap64 (Int.tmod ((rd_T153 l0_2 x4_1).f6) 32)))), qgtms_12, H', ⟨by have := HK1.out; have := HJ5.out; first | omega | exact Nat.le_refl _⟩, ⟨qgtms_5⟩, ⟨qgtms_3⟩, ⟨qgtms_2⟩, ⟨qgtms_7⟩, ⟨qgtms_0⟩⟩
   clear HC17
   try clear c1
   try clear p1
   try clear q1
   try clear hx1
   try clear p2
   try clear c3
   try clear c3b0
   try clear c4
   try clear c4b0
   try clear c5
   try clear c5b0
   try clear c5b1
   try clear c6
   try clear p6
   try clear c9
   try clear c12
   try clear c12b0
   try clear c14
   try clear c14b0
   try clear c15
   try clear c15b0
   try clear c18
   try clear c18b0
   try clear p18
   try clear q18
   try clear hx18
   try clear c19
   try clear hcz10_0
   try clear hcz10_1
   try clear hcz10_10
   try clear hcz10_2
   try clear hcz10_3
   try clear hcz10_4
   try clear hcz10_5
   try clear hcz10_6
   try clear hcz10_7
   try clear hcz10_8
   try clear hcz10_9
   try clear hcz11_0
   try clear hcz11_1
   try clear hcz11_2
   try clear hcz20_0
   try clear hcz20_1
   try clear hcz20_10
   try clear hcz20_2
   try clear hcz20_3
   try clear hcz20_4
   try clear hcz20_5
   try clear hcz20_6
   try clear hcz20_7
   try clear hcz20_8
   try clear hcz20_9
   try clear hcz7_0
   try clear hcz7_1
   try clear hcz7_2
   try clear hfz10_0
   try clear hfz10_1
   try clear hfz10_10
   try clear hfz10_2
   try clear hfz10_3
   try clear hfz10_4
   try clear hfz10_5
   try clear hfz10_6
   try clear hfz10_7
   try clear hfz10_8
   try clear hfz10_9
   try clear hfz11_0
   try clear hfz11_1
   try clear hfz11_2
   try clear hfz20_0
   try clear hfz20_1
   try clear hfz20_10
   try clear hfz20_2
   try clear hfz20_3
   try clear hfz20_4
   try clear hfz20_5
   try clear hfz20_6
   try clear hfz20_7
   try clear hfz20_8
   try clear hfz20_9
   try clear hfz7_0
   try clear hfz7_1
   try clear hfz7_2
   try clear hx184_0
   try clear hx184_1
   try clear hx184_10
   try clear hx184_2
   try clear hx184_3
   try clear hx184_4
   try clear hx184_5
   try clear hx184_6
   try clear hx184_7
   try clear hx184_8
   try clear hx184_9
   try clear hx186_0
   try clear p1
   try clear p184
   try clear p186
   try clear p2
   try clear p6
   try clear q1
   try clear q184
   try clear q186
   obtain ⟨kq, x6_16, rfl, HA, HJ16, HO_2, HO_3, BK183, BK185, HB⟩ := hcut
   cases kq with
   | zero => exact absurd HA.out (by simp [sleuthlaw13_times.j2])
   | succ kj16 =>
    have H := HA.out
    clear HA
    simp only [sleuthlaw13_times.j2] at H
    obtain ⟨y187, hy187⟩ : ∃ y_ : List Int, y_ = (([x6_16] : List Int)) := ⟨_, rfl⟩
    replace H : (if x2_1.length + y187.length < 17592186044416 then ((some (([wrap64 (x6_16 + (wrap64 (Int.tmod ((rd_T153 l0_2 x4_1).f7) 32)))] : List Int) : List Int)).bind fun y193 => (if x3_1.length + y193.length < 17592186044416 then (sleuthlaw13_times.l0 kj16 (x2_1 ++ y187) (x3_1 ++ y193) (wrap64 (x4_1 + 1)) a0_0 a0_1 l0_2) else (none))) else (none)) = some (r1, r2) := by first | (rw [hy187]; with_reducible exact H) | (have H2_ := (Option.bind_some _ _).symm.trans H; rw [hy187]; with_reducible exact H2_) | (have H2_ := (Option.bind_some _ _).symm.trans H; with_reducible exact H2_) | with_reducible exact H | (rw [hy187]; exact H) | exact H
    have Ny187 := Aside0.mk hy187
    clear hy187
    by_cases c21 : x2_1.length + y187.length < 17592186044416
    rotate_left
    ·rw [if_neg c21] at H
     exact absurd H (by simp)
    rw [if_pos c21] at H
    have LMc21 := Aside0.mk c21
    clear c21
    obtain ⟨y190, hy190⟩ : ∃ y_ : List Int, y_ = (x2_1 ++ y187) := ⟨_, rfl⟩
    replace H : ((some (([wrap64 (x6_16 + (wrap64 (Int.tmod ((rd_T153 l0_2 x4_1).f7) 32)))] : List Int) : List Int)).bind fun y193 => (if x3_1.length + y193.length < 17592186044416 then (sleuthlaw13_times.l0 kj16 y190 (x3_1 ++ y193) (wrap64 (x4_1 + 1)) a0_0 a0_1 l0_2) else (none))) = some (r1, r2) := by first | (rw [hy190]; with_reducible exact H) | (have H2_ := (Option.bind_some _ _).symm.trans H; rw [hy190]; with_reducible exact H2_) | (have H2_ := (Option.bind_some _ _).symm.trans H; with_reducible exact H2_) | with_reducible exact H | (rw [hy190]; exact H) | exact H
    have Ny190 := Aside0.mk hy190
    clear hy190
    obtain ⟨y193, hy193⟩ : ∃ y_ : List Int, y_ = (([wrap64 (x6_16 + (wrap64 (Int.tmod ((rd_T153 l0_2 x4_1).f7) 32)))] : List Int)) := ⟨_, rfl⟩
    replace H : (if x3_1.length + y193.length < 17592186044416 then (sleuthlaw13_times.l0 kj16 y190 (x3_1 ++ y193) (wrap64 (x4_1 + 1)) a0_0 a0_1 l0_2) else (none)) = some (r1, r2) := by first | (rw [hy193]; with_reducible exact H) | (have H2_ := (Option.bind_some _ _).symm.trans H; rw [hy193]; with_reducible exact H2_) | (have H2_ := (Option.bind_some _ _).symm.trans H; with_reducible exact H2_) | with_reducible exact H | (rw [hy193]; exact H) | exact H
    have Ny193 := Aside0.mk hy193
    clear hy193
    by_cases c22 : x3_1.length + y193.length < 17592186044416
    rotate_left
    ·rw [if_neg c22] at H
     exact absurd H (by simp)
    rw [if_pos c22] at H
    have LMc22 := Aside0.mk c22
    clear c22
    obtain ⟨y196, hy196⟩ : ∃ y_ : List Int, y_ = (x3_1 ++ y193) := ⟨_, rfl⟩
    replace H : (sleuthlaw13_times.l0 kj16 y190 y196 (wrap64 (x4_1 + 1)) a0_0 a0_1 l0_2) = some (r1, r2) := by first | (rw [hy196]; with_reducible exact H) | (have H2_ := (Option.bind_some _ _).symm.trans H; rw [hy196]; with_reducible exact H2_) | (have H2_ := (Option.bind_some _ _).symm.trans H; with_reducible exact H2_) | with_reducible exact H | (rw [hy196]; exact H) | exact H
    have Ny196 := Aside0.mk hy196
    clear hy196
    have H' := Aside0.mk H
    clear H
    obtain ⟨Ao23, co23, eo23⟩ := Kd.R_slice HO_2.out
    subst eo23
    obtain ⟨Ao24, co24, eo24⟩ := Kd.R_slice HO_3.out
    subst eo24
    try go_wp2
    have n0_ := Aside0.mk (Kd.R_drew HO_2.out)
    have n1_ := Aside0.mk (Kd.R_drew HO_3.out)
    have n2_ := Aside0.mk (blk_drew BK183.out)
    have n3_ := Aside0.mk (blk_drew BK185.out)
    have n4_ := Aside0.mk (below_drew1 HB.out)
    clear HO_2
    clear HO_3
    clear BK183
    clear BK185
    clear HB
    have HO_2 := n0_
    have HO_3 := n1_
    have BK183 := n2_
    have BK185 := n3_
    have HB := n4_
    clear n0_ n1_ n2_ n3_ n4_
    refine start_ (n := 15) (S := fun w' => w'.cell? ⟨gb185, 0, none⟩ = some (.int .u8 ((rd_T153 l0_2 x4_1).f0)) ∧ w'.cell? ⟨gb185, 1, none⟩ = some (.int .u8 ((rd_T153 l0_2 x4_1).f1)) ∧ w'.cell? ⟨gb185, 2, none⟩ = some (.int .u8 ((rd_T153 l0_2 x4_1).f2)) ∧ w'.cell? ⟨gb185, 3, none⟩ = some (.int .u8 ((rd_T153 l0_2 x4_1).f3)) ∧ w'.cell? ⟨gb185, 4, none⟩ = some (.int .u8 ((rd_T153 l0_2 x4_1).f4)) ∧ w'.cell? ⟨gb185, 5, none⟩ = some (.int .u8 ((rd_T153 l0_2 x4_1).f5)) ∧ w'.cell? ⟨gb185, 6, none⟩ = some (.int .u8 ((rd_T153 l0_2 x4_1).f6)) ∧ w'.cell? ⟨gb185, 7, none⟩ = some (.int .u8 ((rd_T153 l0_2 x4_1).f7)) ∧ w'.cell? ⟨gb185, 8, none⟩ = some (.int .u8 ((rd_T153 l0_2 x4_1).f8)) ∧ w'.cell? ⟨gb185, 9, none⟩ = some (.int .u8 ((rd_T153 l0_2 x4_1).f9)) ∧ w'.cell? ⟨gb185, 10, none⟩ = some (.bool ((rd_T153 l0_2 x4_1).f10))) (ds := []) #[F3449, F3449, F3449, F3449, F3449, F3449, F3449, F3449, F3449, F3449, F3449, F3449, F3449, F3449, F3449] (by kernel_rfl) rfl rfl ⟨(blk_cell BK185.out 0).trans rfl, (blk_cell BK185.out 1).trans rfl, (blk_cell BK185.out 2).trans rfl, (blk_cell BK185.out 3).trans rfl, (blk_cell BK185.out 4).trans rfl, (blk_cell BK185.out 5).trans rfl, (blk_cell BK185.out 6).trans rfl, (blk_cell BK185.out 7).trans rfl, (blk_cell BK185.out 8).trans rfl, (blk_cell BK185.out 9).trans rfl, (blk_cell BK185.out 10).trans rfl⟩ (fun hHeld => ?_); refine with_tabW sleuthlaw13_times.tab11 sleuthlaw13_times.bits11 (fun HT_ HW_ => ?_)
    generalize wc.drew = w25 at HO_2 HO_3 BK183 BK185 HB hHeld ⊢
    refine pure_ (i := 0) (N := some 48) (v := ?_) (a' := ?_) #[T3449, F3449, F3449, F3449, F3449, F3449, F3449, F3449, F3449, F3449, F3449, F3449, F3449, F3449, F3449] rfl rfl (any_of HT_.out (by kernel_rfl)) (fun _ _ _ h => h) (Or.inl ⟨by rfl, ?_⟩) ?_ ?_
    rotate_left
    ·intro w'
     go_simp
     with_reducible rfl
    rotate_left
    ·simp only [Act.put, List.setIfInBounds_toArray, List.set_cons_zero, List.set_cons_succ, i64_w, i32_w]
     rfl
    refine pure_ (i := 1) (N := some 49) (v := ?_) (a' := ?_) #[T3449, T3449, F3449, F3449, F3449, F3449, F3449, F3449, F3449, F3449, F3449, F3449, F3449, F3449, F3449] rfl rfl (any_of HT_.out (by kernel_rfl)) (fun _ _ _ h => h) (Or.inl ⟨by rfl, ?_⟩) ?_ ?_
    rotate_left
    ·intro w'
     go_simp
     with_reducible rfl
    rotate_left
    ·simp only [Act.put, List.setIfInBounds_toArray, List.set_cons_zero, List.set_cons_succ, i64_w, i32_w]
     rfl
    refine pure_ (i := 4) (N := some 52) (v := ?_) (a' := ?_) #[T3449, T3449, F3449, F3449, T3449, F3449, F3449, F3449, F3449, F3449, F3449, F3449, F3449, F3449, F3449] rfl rfl (any_of HT_.out (by kernel_rfl)) (fun _ _ _ h => h) (Or.inl ⟨by rfl, ?_⟩) ?_ ?_
    rotate_left
    ·intro w'
     go_simp
     with_reducible rfl
    rotate_left
    ·simp only [Act.put, List.setIfInBounds_toArray, List.set_cons_zero, List.set_cons_succ, i64_w, i32_w]
     rfl
    refine pure_ (i := 5) (N := some 53) (v := ?_) (a' := ?_) #[T3449, T3449, F3449, F3449, T3449, T3449, F3449, F3449, F3449, F3449, F3449, F3449, F3449, F3449, F3449] rfl rfl (any_of HT_.out (by kernel_rfl)) (fun _ _ _ h => h) (Or.inl ⟨by rfl, ?_⟩) ?_ ?_
    rotate_left
    ·intro w'
     go_simp
     with_reducible rfl
    rotate_left
    ·simp only [Act.put, List.setIfInBounds_toArray, List.set_cons_zero, List.set_cons_succ, i64_w, i32_w]
     rfl
    refine pure_ (i := 6) (N := some 54) (v := ?_) (a' := ?_) #[T3449, T3449, F3449, F3449, T3449, T3449, T3449, F3449, F3449, F3449, F3449, F3449, F3449, F3449, F3449] rfl rfl (any_of HT_.out (by kernel_rfl)) (fun _ _ _ h => h) (Or.inl ⟨by rfl, ?_⟩) ?_ ?_
    rotate_left
    ·intro w'
     go_simp
     with_reducible rfl
    rotate_left
    ·simp only [Act.put, List.setIfInBounds_toArray, List.set_cons_zero, List.set_cons_succ, i64_w, i32_w]
     rfl
    refine take_ (i := 7) (N := some 55) (v := ?_) (a' := ?_) #[T3449, T3449, F3449, F3449, T3449, T3449, T3449, T3449, F3449, F3449, F3449, F3449, F3449, F3449, F3449] rfl rfl (take_ofW HT_.out HW_.out (by kernel_rfl)) (fun _ _ _ h => h) (Or.inl ⟨by rfl, ?_⟩) hHeld ?_ ?_
    rotate_left
    ·rintro w' ⟨s0, s1, s2, s3, s4, s5, s6, s7, s8, s9, s10⟩
     go_simp
     with_reducible rfl
    rotate_left
    ·simp only [Act.put, List.setIfInBounds_toArray, List.set_cons_zero, List.set_cons_succ, i64_w, i32_w]
     rfl
    refine pure_ (i := 8) (N := some 56) (v := ?_) (a' := ?_) #[T3449, T3449, F3449, F3449, T3449, T3449, T3449, T3449, T3449, F3449, F3449, F3449, F3449, F3449, F3449] rfl rfl (any_of HT_.out (by kernel_rfl)) (fun _ _ _ h => h) (Or.inl ⟨by rfl, ?_⟩) ?_ ?_
    rotate_left
    ·intro w'
     go_simp
     with_reducible rfl
    rotate_left
    ·simp only [Act.put, List.setIfInBounds_toArray, List.set_cons_zero, List.set_cons_succ, i64_w, i32_w]
     rfl
    refine pure_ (i := 9) (N := some 57) (v := ?_) (a' := ?_) #[T3449, T3449, F3449, F3449, T3449, T3449, T3449, T3449, T3449, T3449, F3449, F3449, F3449, F3449, F3449] rfl rfl (any_of HT_.out (by kernel_rfl)) (fun _ _ _ h => h) (Or.inl ⟨by rfl, ?_⟩) ?_ ?_
    rotate_left
    ·intro w'
     go_simp
     with_reducible rfl
    rotate_left
    ·simp only [Act.put, List.setIfInBounds_toArray, List.set_cons_zero, List.set_cons_succ, i64_w, i32_w]
     rfl
    refine pure_ (i := 10) (N := some 58) (v := ?_) (a' := ?_) #[T3449, T3449, F3449, F3449, T3449, T3449, T3449, T3449, T3449, T3449, T3449, F3449, F3449, F3449, F3449] rfl rfl (any_of HT_.out (by kernel_rfl)) (fun _ _ _ h => h) (Or.inl ⟨by rfl, ?_⟩) ?_ ?_
    rotate_left
    ·intro w'
     go_simp
     with_reducible rfl
    rotate_left
    ·simp only [Act.put, List.setIfInBounds_toArray, List.set_cons_zero, List.set_cons_succ, i64_w, i32_w]
     rfl
    refine join_ (σ := Value × Value × Value) 3 #[T3449, T3449, T3449, T3449, T3449, T3449, T3449, T3449, T3449, T3449, T3449, T3449, F3449, F3449, F3449] (fun s_ => [(50, s_.1), (51, s_.2.1), (59, s_.2.2)]) (fun s_ w' => (w'.cell? ⟨gb185, 0, none⟩ = some (.int .u8 ((rd_T153 l0_2 x4_1).f0)) ∧ w'.cell? ⟨gb185, 1, none⟩ = some (.int .u8 ((rd_T153 l0_2 x4_1).f1)) ∧ w'.cell? ⟨gb185, 2, none⟩ = some (.int .u8 ((rd_T153 l0_2 x4_1).f2)) ∧ w'.cell? ⟨gb185, 3, none⟩ = some (.int .u8 ((rd_T153 l0_2 x4_1).f3)) ∧ w'.cell? ⟨gb185, 4, none⟩ = some (.int .u8 ((rd_T153 l0_2 x4_1).f4)) ∧ w'.cell? ⟨gb185, 5, none⟩ = some (.int .u8 ((rd_T153 l0_2 x4_1).f5)) ∧ w'.cell? ⟨gb185, 6, none⟩ = some (.int .u8 ((rd_T153 l0_2 x4_1).f6)) ∧ w'.cell? ⟨gb185, 7, none⟩ = some (.int .u8 ((rd_T153 l0_2 x4_1).f7)) ∧ w'.cell? ⟨gb185, 8, none⟩ = some (.int .u8 ((rd_T153 l0_2 x4_1).f8)) ∧ w'.cell? ⟨gb185, 9, none⟩ = some (.int .u8 ((rd_T153 l0_2 x4_1).f9)) ∧ w'.cell? ⟨gb185, 10, none⟩ = some (.bool ((rd_T153 l0_2 x4_1).f10))) ∧ (Kd.R (Kd.int .i64) 3 w' w.heap.size (fun k_ => some k_ ≠ (s_.2.1 : Value).ownBlock ∧ some k_ ≠ (s_.2.2 : Value).ownBlock ∧ some k_ ≠ (.slice Ao24 x3_1.length co24 : Value).ownBlock) s_.1 y187) ∧ (Kd.R (Kd.int .i64) 3 w' w.heap.size (fun k_ => some k_ ≠ (s_.1 : Value).ownBlock ∧ some k_ ≠ (s_.2.2 : Value).ownBlock ∧ some k_ ≠ (.slice Ao24 x3_1.length co24 : Value).ownBlock) s_.2.1 y190) ∧ (Kd.R (Kd.int .i64) 3 w' w.heap.size (fun k_ => some k_ ≠ (s_.1 : Value).ownBlock ∧ some k_ ≠ (s_.2.1 : Value).ownBlock ∧ some k_ ≠ (.slice Ao24 x3_1.length co24 : Value).ownBlock) s_.2.2 y193) ∧ (Kd.R (Kd.int .i64) 3 w' w.heap.size (fun k_ => some k_ ≠ (s_.1 : Value).ownBlock ∧ some k_ ≠ (s_.2.1 : Value).ownBlock ∧ some k_ ≠ (s_.2.2 : Value).ownBlock) (.slice Ao24 x3_1.length co24) x3_1) ∧ (w'.heap[gb183]? = some (.cells #[.int .u8 a0_0, .int .u8 a0_1, .slice (some ad184) l0_2.length c0_2] 104 (0, 0))) ∧ (w'.heap[gb185]? = some (.cells #[.int .u8 ((rd_T153 l0_2 x4_1).f0), .int .u8 ((rd_T153 l0_2 x4_1).f1), .int .u8 ((rd_T153 l0_2 x4_1).f2), .int .u8 ((rd_T153 l0_2 x4_1).f3), .int .u8 ((rd_T153 l0_2 x4_1).f4), .int .u8 ((rd_T153 l0_2 x4_1).f5), .int .u8 ((rd_T153 l0_2 x4_1).f6), .int .u8 ((rd_T153 l0_2 x4_1).f7), .int .u8 ((rd_T153 l0_2 x4_1).f8), .int .u8 ((rd_T153 l0_2 x4_1).f9), .bool ((rd_T153 l0_2 x4_1).f10)] 153 (0, 0))) ∧ (Below w.heap.size w w')) ?_ ?_
    rotate_left
    ·intro hCont
     refine two_ (i := 2) (j := 11) (Ni := some 50) (Nj := some 59) #[T3449, T3449, T3449, F3449, T3449, T3449, T3449, T3449, T3449, T3449, T3449, F3449, F3449, F3449, F3449] #[T3449, T3449, F3449, F3449, T3449, T3449, T3449, T3449, T3449, T3449, T3449, T3449, F3449, F3449, F3449] rfl rfl rfl rfl (two_of HT_.out (by kernel_rfl)) (by decide) (by decide) (fun K hK => ?_) (fun K hK => ?_)
     ·skip
      refine Kd.R_lit_step (Kd.int .i64) _ 3 ?hg (N := 50) ?hd (xs := ([x6_16] : List Int)) (inner := [.int .i64 x6_16]) (ok := fun _ => True) (okp := fun _ => True) ?hr ?hp (fun _ hk => hk) trivial (Below.refl _ _) (Nat.le_refl _) (by simp) ?_; (case hd => rfl); (case hg => rfl); (case hr => exact qgtms_26); (case hp => exact (Reps.one (show Kd.M (Kd.int .i64) _ _ _ x6_16 [.int .i64 x6_16] from rfl) (Reps.none _ _)))
      intro v188 w26 ho27 hb hg_ hnew_
      clear hg_ hnew_
      (first | rw [← Ny187.out] at ho27 | (simp only [Int.reduceToNat] at ho27; rw [← Ny187.out] at ho27))
      have n0_ := Aside0.mk (Kd.R_elder' qgtms_5 (Kd.R_base ho27) hb)
      have n1_ := Aside0.mk (Kd.R_elder' qgtms_3 (Kd.R_base ho27) hb)
      have n2_ := Aside0.mk (Kd.R_lower (Kd.R_new' (Kd.R_new' ho27 (Kd.R_lt qgtms_5)) (Kd.R_lt qgtms_3)) (below_size qgtms_0))
      have n3_ := Aside0.mk (blk_below (g := gb183) (o := .cells #[.int .u8 a0_0, .int .u8 a0_1, .slice (some ad184) l0_2.length c0_2] 104 (0, 0)) qgtms_2 hb)
      have n4_ := Aside0.mk (blk_below (g := gb185) (o := .cells #[.int .u8 ((rd_T153 l0_2 x4_1).f0), .int .u8 ((rd_T153 l0_2 x4_1).f1), .int .u8 ((rd_T153 l0_2 x4_1).f2), .int .u8 ((rd_T153 l0_2 x4_1).f3), .int .u8 ((rd_T153 l0_2 x4_1).f4), .int .u8 ((rd_T153 l0_2 x4_1).f5), .int .u8 ((rd_T153 l0_2 x4_1).f6), .int .u8 ((rd_T153 l0_2 x4_1).f7), .int .u8 ((rd_T153 l0_2 x4_1).f8), .int .u8 ((rd_T153 l0_2 x4_1).f9), .bool ((rd_T153 l0_2 x4_1).f10)] 153 (0, 0)) qgtms_7 hb)
      have n5_ := Aside0.mk (below_step qgtms_0 hb)
      clear HO_2
      clear HO_3
      clear BK183
      clear BK185
      clear HB
      have HO_2 := n0_
      have HO_3 := n1_
      have HO189 := n2_
      have BK183 := n3_
      have BK185 := n4_
      have HB := n5_
      clear n0_ n1_ n2_ n3_ n4_ n5_
      clear hb ho27
      obtain ⟨Ao29, co29, eo29⟩ := Kd.R_slice HO189.out
      (first | subst eo29 | (injection eo29 with f1_ f2_ f3_; have f4_ := f1_.symm; have f5_ := f3_.symm; clear f1_ f2_ f3_; subst f4_; subst f5_))
      refine hK.out _ _ ⟨(blk_cell BK185.out 0).trans rfl, (blk_cell BK185.out 1).trans rfl, (blk_cell BK185.out 2).trans rfl, (blk_cell BK185.out 3).trans rfl, (blk_cell BK185.out 4).trans rfl, (blk_cell BK185.out 5).trans rfl, (blk_cell BK185.out 6).trans rfl, (blk_cell BK185.out 7).trans rfl, (blk_cell BK185.out 8).trans rfl, (blk_cell BK185.out 9).trans rfl, (blk_cell BK185.out 10).trans rfl⟩ (fun hHeld => ?_)
      clear hK K
      refine norm_ (a' := ?_) ?_ ?_
      rotate_left
      ·show Act.put _ (some 50) _ = _
       simp only [Act.put, List.setIfInBounds_toArray, List.set_cons_zero, List.set_cons_succ, i64_w, i32_w]
       rfl
      refine two_ (i := 3) (j := 11) (Ni := some 51) (Nj := some 59) #[T3449, T3449, T3449, T3449, T3449, T3449, T3449, T3449, T3449, T3449, T3449, F3449, F3449, F3449, F3449] #[T3449, T3449, T3449, F3449, T3449, T3449, T3449, T3449, T3449, T3449, T3449, T3449, F3449, F3449, F3449] rfl rfl rfl rfl (two_of HT_.out (by kernel_rfl)) (by decide) (by decide) (fun K hK => ?_) (fun K hK => ?_)
      ·skip
       refine Kd.R_append_rows_step (Kd.int .i64) (w0 := w) w.heap.size (by rfl) (.tmp 48) (.tmp 50) 82 3 (.int .i64 0) 8 rfl Try.underlying82 info3 rfl (by decide) (by omega) (.slice Ao23 x2_1.length co23) x2_1 y187 _ _ _ (fun k_ => some k_ ≠ (.slice Ao24 x3_1.length co24 : Value).ownBlock ∧ some k_ ≠ (.slice Ao29 y187.length co29 : Value).ownBlock) (fun _ => False) rfl rfl ?aO ?aR (fun _ _ h => h) (fun _ h => h.elim) ?aF ?aB ?aS ?aL ?_
       (case aR => exact qgtms_15)
       (case aB => exact qgtms_0)
       (case aF => exact (fun k_ hk => ⟨Kd.fresh' (Kd.R_lt qgtms_3) k_ hk, Kd.fresh' (Kd.R_lt qgtms_11) k_ hk⟩))
       (case aO => exact qgtms_5)
       (case aS => exact (below_size qgtms_0))
       (case aL => have := LMc21.out; omega)
       intro v191 w28 ho hb hg hat
       rw [← Ny190.out] at ho
       have n0_ := Aside0.mk (Kd.R_after (ok := (fun k_ => some k_ ≠ (.slice Ao29 y187.length co29 : Value).ownBlock)) (by (with_reducible repeat (first | apply Kd.R_alloc | apply Kd.R_drewN | apply Kd.R_drew)); exact Kd.R_mono HO_3.out (fun _ hk => ⟨hk.2, hk.1⟩)) hg hat)
       have n1_ := Aside0.mk (blk_grown (g := gb183) (o := .cells #[.int .u8 a0_0, .int .u8 a0_1, .slice (some ad184) l0_2.length c0_2] 104 (0, 0)) qgtms_2 hg (Kd.R_ne HO_2.out BK183.out (by decide)))
       have n2_ := Aside0.mk (blk_grown (g := gb185) (o := .cells #[.int .u8 ((rd_T153 l0_2 x4_1).f0), .int .u8 ((rd_T153 l0_2 x4_1).f1), .int .u8 ((rd_T153 l0_2 x4_1).f2), .int .u8 ((rd_T153 l0_2 x4_1).f3), .int .u8 ((rd_T153 l0_2 x4_1).f4), .int .u8 ((rd_T153 l0_2 x4_1).f5), .int .u8 ((rd_T153 l0_2 x4_1).f6), .int .u8 ((rd_T153 l0_2 x4_1).f7), .int .u8 ((rd_T153 l0_2 x4_1).f8), .int .u8 ((rd_T153 l0_2 x4_1).f9), .bool ((rd_T153 l0_2 x4_1).f10)] 153 (0, 0)) qgtms_7 hg (Kd.R_ne HO_2.out BK185.out (by decide)))
       have n3_ := Aside0.mk (Kd.R_after (ok := (fun k_ => some k_ ≠ (.slice Ao24 x3_1.length co24 : Value).ownBlock)) (by (with_reducible repeat (first | apply Kd.R_alloc | apply Kd.R_drewN | apply Kd.R_drew)); exact Kd.R_mono HO189.out (fun _ hk => ⟨hk.2, hk.1.2⟩)) hg hat)
       have n4_ := Aside0.mk (hb)
       have n5_ := Aside0.mk (ho)
       clear HO_3
       clear BK183
       clear BK185
       clear HO189
       clear HB
       clear HO_2
       have HO_3 := n0_
       have BK183 := n1_
       have BK185 := n2_
       have HO189 := n3_
       have HB := n4_
       have HO192 := n5_
       clear n0_ n1_ n2_ n3_ n4_ n5_
       clear ho hb hg hat
       refine hK.out _ _ ⟨(blk_cell BK185.out 0).trans rfl, (blk_cell BK185.out 1).trans rfl, (blk_cell BK185.out 2).trans rfl, (blk_cell BK185.out 3).trans rfl, (blk_cell BK185.out 4).trans rfl, (blk_cell BK185.out 5).trans rfl, (blk_cell BK185.out 6).trans rfl, (blk_cell BK185.out 7).trans rfl, (blk_cell BK185.out 8).trans rfl, (blk_cell BK185.out 9).trans rfl, (blk_cell BK185.out 10).trans rfl⟩ (fun hHeld => ?_)
       clear hK K
       refine norm_ (a' := ?_) ?_ ?_
       rotate_left
       ·show Act.put _ (some 51) _ = _
        simp only [Act.put, List.setIfInBounds_toArray, List.set_cons_zero, List.set_cons_succ, i64_w, i32_w]
        rfl
       refine one_ (i := 11) (N := some 59) #[T3449, T3449, T3449, T3449, T3449, T3449, T3449, T3449, T3449, T3449, T3449, T3449, F3449, F3449, F3449] rfl rfl (one_of HT_.out (by kernel_rfl)) (by decide) (fun K hK => ?_)
       refine Kd.R_lit_step (Kd.int .i64) _ 3 ?hg (N := 59) ?hd (xs := ([wrap64 (x6_16 + (wrap64 (Int.tmod ((rd_T153 l0_2 x4_1).f7) 32)))] : List Int)) (inner := [.int .i64 (wrap64 (x6_16 + (wrap64 (Int.tmod ((rd_T153 l0_2 x4_1).f7) 32))))]) (ok := fun _ => True) (okp := fun _ => True) ?hr ?hp (fun _ hk => hk) trivial (Below.refl _ _) (Nat.le_refl _) (by simp) ?_; (case hd => rfl); (case hg => rfl); (case hr => exact qgtms_26); (case hp => exact qgtms_14)
       intro v194 w30 ho31 hb hg_ hnew_
       clear hg_ hnew_
       (first | rw [← Ny193.out] at ho31 | (simp only [Int.reduceToNat] at ho31; rw [← Ny193.out] at ho31))
       have n0_ := Aside0.mk (Kd.R_elder' qgtms_3 (Kd.R_base ho31) hb)
       have n1_ := Aside0.mk (Kd.R_elder' qgtms_11 (Kd.R_base ho31) hb)
       have n2_ := Aside0.mk (Kd.R_elder' qgtms_17 (Kd.R_base ho31) hb)
       have n3_ := Aside0.mk (Kd.R_lower (Kd.R_new' (Kd.R_new' (Kd.R_new' ho31 (Kd.R_lt qgtms_3)) (Kd.R_lt qgtms_11)) (Kd.R_lt qgtms_17)) (below_size qgtms_0))
       have n4_ := Aside0.mk (blk_below (g := gb183) (o := .cells #[.int .u8 a0_0, .int .u8 a0_1, .slice (some ad184) l0_2.length c0_2] 104 (0, 0)) qgtms_2 hb)
       have n5_ := Aside0.mk (blk_below (g := gb185) (o := .cells #[.int .u8 ((rd_T153 l0_2 x4_1).f0), .int .u8 ((rd_T153 l0_2 x4_1).f1), .int .u8 ((rd_T153 l0_2 x4_1).f2), .int .u8 ((rd_T153 l0_2 x4_1).f3), .int .u8 ((rd_T153 l0_2 x4_1).f4), .int .u8 ((rd_T153 l0_2 x4_1).f5), .int .u8 ((rd_T153 l0_2 x4_1).f6), .int .u8 ((rd_T153 l0_2 x4_1).f7), .int .u8 ((rd_T153 l0_2 x4_1).f8), .int .u8 ((rd_T153 l0_2 x4_1).f9), .bool ((rd_T153 l0_2 x4_1).f10)] 153 (0, 0)) qgtms_7 hb)
       have n6_ := Aside0.mk (below_step qgtms_0 hb)
       clear HO_3
       clear HO189
       clear HO192
       clear BK183
       clear BK185
       clear HB
       have HO_3 := n0_
       have HO189 := n1_
       have HO192 := n2_
       have HO195 := n3_
       have BK183 := n4_
       have BK185 := n5_
       have HB := n6_
       clear n0_ n1_ n2_ n3_ n4_ n5_ n6_
       clear hb ho31
       refine hK.out _ _ ⟨(blk_cell BK185.out 0).trans rfl, (blk_cell BK185.out 1).trans rfl, (blk_cell BK185.out 2).trans rfl, (blk_cell BK185.out 3).trans rfl, (blk_cell BK185.out 4).trans rfl, (blk_cell BK185.out 5).trans rfl, (blk_cell BK185.out 6).trans rfl, (blk_cell BK185.out 7).trans rfl, (blk_cell BK185.out 8).trans rfl, (blk_cell BK185.out 9).trans rfl, (blk_cell BK185.out 10).trans rfl⟩ (fun hHeld => ?_)
       clear hK K
       refine norm_ (a' := ?_) ?_ ?_
       rotate_left
       ·show Act.put _ (some 59) _ = _
        simp only [Act.put, List.setIfInBounds_toArray, List.set_cons_zero, List.set_cons_succ, i64_w, i32_w]
        rfl
       exact norm_ qgtms_19 (hCont (.slice Ao29 y187.length co29, v191, v194) _ ⟨hHeld, (by (with_reducible repeat (first | apply Kd.R_alloc | apply Kd.R_drewN | apply Kd.R_drew)); exact Kd.R_mono HO189.out (fun _ hk => ⟨hk.1.2, ⟨hk.2, hk.1.1⟩⟩)), (by (with_reducible repeat (first | apply Kd.R_alloc | apply Kd.R_drewN | apply Kd.R_drew)); exact Kd.R_mono HO192.out (fun _ hk => ⟨hk.1.2, ⟨hk.2, hk.1.1⟩⟩)), (by (with_reducible repeat (first | apply Kd.R_alloc | apply Kd.R_drewN | apply Kd.R_drew)); exact Kd.R_mono HO195.out (fun _ hk => ⟨hk.1.2, ⟨hk.2, hk.1.1.2⟩⟩)), (by (with_reducible repeat (first | apply Kd.R_alloc | apply Kd.R_drewN | apply Kd.R_drew)); exact Kd.R_mono HO_3.out (fun _ hk => ⟨hk.1.1, ⟨hk.1.2, hk.2⟩⟩)), qgtms_2, qgtms_7, qgtms_0⟩)
      ·skip
       refine Kd.R_lit_step (Kd.int .i64) _ 3 ?hg (N := 59) ?hd (xs := ([wrap64 (x6_16 + (wrap64 (Int.tmod ((rd_T153 l0_2 x4_1).f7) 32)))] : List Int)) (inner := [.int .i64 (wrap64 (x6_16 + (wrap64 (Int.tmod ((rd_T153 l0_2 x4_1).f7) 32))))]) (ok := fun _ => True) (okp := fun _ => True) ?hr ?hp (fun _ hk => hk) trivial (Below.refl _ _) (Nat.le_refl _) (by simp) ?_; (case hd => rfl); (case hg => rfl); (case hr => exact qgtms_26); (case hp => exact qgtms_14)
       intro v194 w28 ho29 hb hg_ hnew_
       clear hg_ hnew_
       (first | rw [← Ny193.out] at ho29 | (simp only [Int.reduceToNat] at ho29; rw [← Ny193.out] at ho29))
       have n0_ := Aside0.mk (Kd.R_elder' qgtms_5 (Kd.R_base ho29) hb)
       have n1_ := Aside0.mk (Kd.R_elder' qgtms_3 (Kd.R_base ho29) hb)
       have n2_ := Aside0.mk (Kd.R_elder' qgtms_11 (Kd.R_base ho29) hb)
       have n3_ := Aside0.mk (Kd.R_lower (Kd.R_new' (Kd.R_new' (Kd.R_new' ho29 (Kd.R_lt qgtms_5)) (Kd.R_lt qgtms_3)) (Kd.R_lt qgtms_11)) (below_size qgtms_0))
       have n4_ := Aside0.mk (blk_below (g := gb183) (o := .cells #[.int .u8 a0_0, .int .u8 a0_1, .slice (some ad184) l0_2.length c0_2] 104 (0, 0)) qgtms_2 hb)
       have n5_ := Aside0.mk (blk_below (g := gb185) (o := .cells #[.int .u8 ((rd_T153 l0_2 x4_1).f0), .int .u8 ((rd_T153 l0_2 x4_1).f1), .int .u8 ((rd_T153 l0_2 x4_1).f2), .int .u8 ((rd_T153 l0_2 x4_1).f3), .int .u8 ((rd_T153 l0_2 x4_1).f4), .int .u8 ((rd_T153 l0_2 x4_1).f5), .int .u8 ((rd_T153 l0_2 x4_1).f6), .int .u8 ((rd_T153 l0_2 x4_1).f7), .int .u8 ((rd_T153 l0_2 x4_1).f8), .int .u8 ((rd_T153 l0_2 x4_1).f9), .bool ((rd_T153 l0_2 x4_1).f10)] 153 (0, 0)) qgtms_7 hb)
       have n6_ := Aside0.mk (below_step qgtms_0 hb)
       clear HO_2
       clear HO_3
       clear HO189
       clear BK183
       clear BK185
       clear HB
       have HO_2 := n0_
       have HO_3 := n1_
       have HO189 := n2_
       have HO195 := n3_
       have BK183 := n4_
       have BK185 := n5_
       have HB := n6_
       clear n0_ n1_ n2_ n3_ n4_ n5_ n6_
       clear hb ho29
       obtain ⟨Ao31, co31, eo31⟩ := Kd.R_slice HO189.out
       (first | subst eo31 | (injection eo31 with f1_ f2_ f3_; have f4_ := f1_.symm; have f5_ := f3_.symm; clear f1_ f2_ f3_; subst f4_; subst f5_))
       refine hK.out _ _ ⟨(blk_cell BK185.out 0).trans rfl, (blk_cell BK185.out 1).trans rfl, (blk_cell BK185.out 2).trans rfl, (blk_cell BK185.out 3).trans rfl, (blk_cell BK185.out 4).trans rfl, (blk_cell BK185.out 5).trans rfl, (blk_cell BK185.out 6).trans rfl, (blk_cell BK185.out 7).trans rfl, (blk_cell BK185.out 8).trans rfl, (blk_cell BK185.out 9).trans rfl, (blk_cell BK185.out 10).trans rfl⟩ (fun hHeld => ?_)
       clear hK K
       refine norm_ (a' := ?_) ?_ ?_
       rotate_left
       ·show Act.put _ (some 59) _ = _
        simp only [Act.put, List.setIfInBounds_toArray, List.set_cons_zero, List.set_cons_succ, i64_w, i32_w]
        rfl
       refine one_ (i := 3) (N := some 51) #[T3449, T3449, T3449, T3449, T3449, T3449, T3449, T3449, T3449, T3449, T3449, T3449, F3449, F3449, F3449] rfl rfl (one_of HT_.out (by kernel_rfl)) (by decide) (fun K hK => ?_)
       refine Kd.R_append_rows_step (Kd.int .i64) (w0 := w) w.heap.size (by rfl) (.tmp 48) (.tmp 50) 82 3 (.int .i64 0) 8 rfl Try.underlying82 info3 rfl (by decide) (by omega) (.slice Ao23 x2_1.length co23) x2_1 y187 _ _ _ (fun k_ => some k_ ≠ (.slice Ao24 x3_1.length co24 : Value).ownBlock ∧ some k_ ≠ (.slice Ao31 y187.length co31 : Value).ownBlock ∧ some k_ ≠ (v194 : Value).ownBlock) (fun _ => False) rfl rfl ?aO ?aR (fun _ _ h => h) (fun _ h => h.elim) ?aF ?aB ?aS ?aL ?_
       (case aR => exact qgtms_15)
       (case aB => exact qgtms_0)
       (case aF => exact (fun k_ hk => ⟨Kd.fresh' (Kd.R_lt qgtms_3) k_ hk, Kd.fresh' (Kd.R_lt qgtms_11) k_ hk, Kd.fresh' (Kd.R_lt qgtms_13) k_ hk⟩))
       (case aO => exact qgtms_24)
       (case aS => exact (below_size qgtms_0))
       (case aL => have := LMc21.out; omega)
       intro v191 w30 ho hb hg hat
       rw [← Ny190.out] at ho
       have n0_ := Aside0.mk (Kd.R_after (ok := (fun k_ => some k_ ≠ (.slice Ao31 y187.length co31 : Value).ownBlock ∧ some k_ ≠ (v194 : Value).ownBlock)) qgtms_25 hg hat)
       have n1_ := Aside0.mk (blk_grown (g := gb183) (o := .cells #[.int .u8 a0_0, .int .u8 a0_1, .slice (some ad184) l0_2.length c0_2] 104 (0, 0)) qgtms_2 hg (Kd.R_ne HO_2.out BK183.out (by decide)))
       have n2_ := Aside0.mk (blk_grown (g := gb185) (o := .cells #[.int .u8 ((rd_T153 l0_2 x4_1).f0), .int .u8 ((rd_T153 l0_2 x4_1).f1), .int .u8 ((rd_T153 l0_2 x4_1).f2), .int .u8 ((rd_T153 l0_2 x4_1).f3), .int .u8 ((rd_T153 l0_2 x4_1).f4), .int .u8 ((rd_T153 l0_2 x4_1).f5), .int .u8 ((rd_T153 l0_2 x4_1).f6), .int .u8 ((rd_T153 l0_2 x4_1).f7), .int .u8 ((rd_T153 l0_2 x4_1).f8), .int .u8 ((rd_T153 l0_2 x4_1).f9), .bool ((rd_T153 l0_2 x4_1).f10)] 153 (0, 0)) qgtms_7 hg (Kd.R_ne HO_2.out BK185.out (by decide)))
       have n3_ := Aside0.mk (Kd.R_after (ok := (fun k_ => some k_ ≠ (.slice Ao24 x3_1.length co24 : Value).ownBlock ∧ some k_ ≠ (v194 : Value).ownBlock)) qgtms_20 hg hat)
       have n4_ := Aside0.mk (Kd.R_after (ok := (fun k_ => some k_ ≠ (.slice Ao24 x3_1.length co24 : Value).ownBlock ∧ some k_ ≠ (.slice Ao31 y187.length co31 : Value).ownBlock)) qgtms_21 hg hat)
       have n5_ := Aside0.mk (hb)
       have n6_ := Aside0.mk (ho)
       clear HO_3
       clear BK183
       clear BK185
       clear HO189
       clear HO195
       clear HB
       clear HO_2
       have HO_3 := n0_
       have BK183 := n1_
       have BK185 := n2_
       have HO189 := n3_
       have HO195 := n4_
       have HB := n5_
       have HO192 := n6_
       clear n0_ n1_ n2_ n3_ n4_ n5_ n6_
       clear ho hb hg hat
       refine hK.out _ _ ⟨(blk_cell BK185.out 0).trans rfl, (blk_cell BK185.out 1).trans rfl, (blk_cell BK185.out 2).trans rfl, (blk_cell BK185.out 3).trans rfl, (blk_cell BK185.out 4).trans rfl, (blk_cell BK185.out 5).trans rfl, (blk_cell BK185.out 6).trans rfl, (blk_cell BK185.out 7).trans rfl, (blk_cell BK185.out 8).trans rfl, (blk_cell BK185.out 9).trans rfl, (blk_cell BK185.out 10).trans rfl⟩ (fun hHeld => ?_)
       clear hK K
       refine norm_ (a' := ?_) ?_ ?_
       rotate_left
       ·show Act.put _ (some 51) _ = _
        simp only [Act.put, List.setIfInBounds_toArray, List.set_cons_zero, List.set_cons_succ, i64_w, i32_w]
        rfl
       exact norm_ qgtms_19 (hCont (.slice Ao31 y187.length co31, v191, v194) _ ⟨hHeld, qgtms_22, (by (with_reducible repeat (first | apply Kd.R_alloc | apply Kd.R_drewN | apply Kd.R_drew)); exact Kd.R_mono HO192.out (fun _ hk => ⟨hk.2.1, ⟨hk.2.2, hk.1⟩⟩)), qgtms_23, (by (with_reducible repeat (first | apply Kd.R_alloc | apply Kd.R_drewN | apply Kd.R_drew)); exact Kd.R_mono HO_3.out (fun _ hk => ⟨hk.1.1, ⟨hk.2, hk.1.2⟩⟩)), qgtms_2, qgtms_7, qgtms_0⟩)
     ·skip
      refine Kd.R_lit_step (Kd.int .i64) _ 3 ?hg (N := 59) ?hd (xs := ([wrap64 (x6_16 + (wrap64 (Int.tmod ((rd_T153 l0_2 x4_1).f7) 32)))] : List Int)) (inner := [.int .i64 (wrap64 (x6_16 + (wrap64 (Int.tmod ((rd_T153 l0_2 x4_1).f7) 32))))]) (ok := fun _ => True) (okp := fun _ => True) ?hr ?hp (fun _ hk => hk) trivial (Below.refl _ _) (Nat.le_refl _) (by simp) ?_; (case hd => rfl); (case hg => rfl); (case hr => exact qgtms_26); (case hp => exact qgtms_14)
      intro v194 w26 ho27 hb hg_ hnew_
      clear hg_ hnew_
      (first | rw [← Ny193.out] at ho27 | (simp only [Int.reduceToNat] at ho27; rw [← Ny193.out] at ho27))
      have n0_ := Aside0.mk (Kd.R_elder' qgtms_5 (Kd.R_base ho27) hb)
      have n1_ := Aside0.mk (Kd.R_elder' qgtms_3 (Kd.R_base ho27) hb)
      have n2_ := Aside0.mk (Kd.R_lower (Kd.R_new' (Kd.R_new' ho27 (Kd.R_lt qgtms_5)) (Kd.R_lt qgtms_3)) (below_size qgtms_0))
      have n3_ := Aside0.mk (blk_below (g := gb183) (o := .cells #[.int .u8 a0_0, .int .u8 a0_1, .slice (some ad184) l0_2.length c0_2] 104 (0, 0)) qgtms_2 hb)
      have n4_ := Aside0.mk (blk_below (g := gb185) (o := .cells #[.int .u8 ((rd_T153 l0_2 x4_1).f0), .int .u8 ((rd_T153 l0_2 x4_1).f1), .int .u8 ((rd_T153 l0_2 x4_1).f2), .int .u8 ((rd_T153 l0_2 x4_1).f3), .int .u8 ((rd_T153 l0_2 x4_1).f4), .int .u8 ((rd_T153 l0_2 x4_1).f5), .int .u8 ((rd_T153 l0_2 x4_1).f6), .int .u8 ((rd_T153 l0_2 x4_1).f7), .int .u8 ((rd_T153 l0_2 x4_1).f8), .int .u8 ((rd_T153 l0_2 x4_1).f9), .bool ((rd_T153 l0_2 x4_1).f10)] 153 (0, 0)) qgtms_7 hb)
      have n5_ := Aside0.mk (below_step qgtms_0 hb)
      clear HO_2
      clear HO_3
      clear BK183
      clear BK185
      clear HB
      have HO_2 := n0_
      have HO_3 := n1_
      have HO195 := n2_
      have BK183 := n3_
      have BK185 := n4_
      have HB := n5_
      clear n0_ n1_ n2_ n3_ n4_ n5_
      clear hb ho27
      refine hK.out _ _ ⟨(blk_cell BK185.out 0).trans rfl, (blk_cell BK185.out 1).trans rfl, (blk_cell BK185.out 2).trans rfl, (blk_cell BK185.out 3).trans rfl, (blk_cell BK185.out 4).trans rfl, (blk_cell BK185.out 5).trans rfl, (blk_cell BK185.out 6).trans rfl, (blk_cell BK185.out 7).trans rfl, (blk_cell BK185.out 8).trans rfl, (blk_cell BK185.out 9).trans rfl, (blk_cell BK185.out 10).trans rfl⟩ (fun hHeld => ?_)
      clear hK K
      refine norm_ (a' := ?_) ?_ ?_
      rotate_left
      ·show Act.put _ (some 59) _ = _
       simp only [Act.put, List.setIfInBounds_toArray, List.set_cons_zero, List.set_cons_succ, i64_w, i32_w]
       rfl
      refine one_ (i := 2) (N := some 50) #[T3449, T3449, T3449, F3449, T3449, T3449, T3449, T3449, T3449, T3449, T3449, T3449, F3449, F3449, F3449] rfl rfl (one_of HT_.out (by kernel_rfl)) (by decide) (fun K hK => ?_)
      refine Kd.R_lit_step (Kd.int .i64) _ 3 ?hg (N := 50) ?hd (xs := ([x6_16] : List Int)) (inner := [.int .i64 x6_16]) (ok := fun _ => True) (okp := fun _ => True) ?hr ?hp (fun _ hk => hk) trivial (Below.refl _ _) (Nat.le_refl _) (by simp) ?_; (case hd => rfl); (case hg => rfl); (case hr => exact qgtms_26); (case hp => exact (Reps.one (show Kd.M (Kd.int .i64) _ _ _ x6_16 [.int .i64 x6_16] from rfl) (Reps.none _ _)))
      intro v188 w28 ho29 hb hg_ hnew_
      clear hg_ hnew_
      (first | rw [← Ny187.out] at ho29 | (simp only [Int.reduceToNat] at ho29; rw [← Ny187.out] at ho29))
      have n0_ := Aside0.mk (Kd.R_elder' qgtms_5 (Kd.R_base ho29) hb)
      have n1_ := Aside0.mk (Kd.R_elder' qgtms_3 (Kd.R_base ho29) hb)
      have n2_ := Aside0.mk (Kd.R_elder' qgtms_13 (Kd.R_base ho29) hb)
      have n3_ := Aside0.mk (Kd.R_lower (Kd.R_new' (Kd.R_new' (Kd.R_new' ho29 (Kd.R_lt qgtms_5)) (Kd.R_lt qgtms_3)) (Kd.R_lt qgtms_13)) (below_size qgtms_0))
      have n4_ := Aside0.mk (blk_below (g := gb183) (o := .cells #[.int .u8 a0_0, .int .u8 a0_1, .slice (some ad184) l0_2.length c0_2] 104 (0, 0)) qgtms_2 hb)
      have n5_ := Aside0.mk (blk_below (g := gb185) (o := .cells #[.int .u8 ((rd_T153 l0_2 x4_1).f0), .int .u8 ((rd_T153 l0_2 x4_1).f1), .int .u8 ((rd_T153 l0_2 x4_1).f2), .int .u8 ((rd_T153 l0_2 x4_1).f3), .int .u8 ((rd_T153 l0_2 x4_1).f4), .int .u8 ((rd_T153 l0_2 x4_1).f5), .int .u8 ((rd_T153 l0_2 x4_1).f6), .int .u8 ((rd_T153 l0_2 x4_1).f7), .int .u8 ((rd_T153 l0_2 x4_1).f8), .int .u8 ((rd_T153 l0_2 x4_1).f9), .bool ((rd_T153 l0_2 x4_1).f10)] 153 (0, 0)) qgtms_7 hb)
      have n6_ := Aside0.mk (below_step qgtms_0 hb)
      clear HO_2
      clear HO_3
      clear HO195
      clear BK183
      clear BK185
      clear HB
      have HO_2 := n0_
      have HO_3 := n1_
      have HO195 := n2_
      have HO189 := n3_
      have BK183 := n4_
      have BK185 := n5_
      have HB := n6_
      clear n0_ n1_ n2_ n3_ n4_ n5_ n6_
      clear hb ho29
      obtain ⟨Ao31, co31, eo31⟩ := Kd.R_slice HO189.out
      (first | subst eo31 | (injection eo31 with f1_ f2_ f3_; have f4_ := f1_.symm; have f5_ := f3_.symm; clear f1_ f2_ f3_; subst f4_; subst f5_))
      refine hK.out _ _ ⟨(blk_cell BK185.out 0).trans rfl, (blk_cell BK185.out 1).trans rfl, (blk_cell BK185.out 2).trans rfl, (blk_cell BK185.out 3).trans rfl, (blk_cell BK185.out 4).trans rfl, (blk_cell BK185.out 5).trans rfl, (blk_cell BK185.out 6).trans rfl, (blk_cell BK185.out 7).trans rfl, (blk_cell BK185.out 8).trans rfl, (blk_cell BK185.out 9).trans rfl, (blk_cell BK185.out 10).trans rfl⟩ (fun hHeld => ?_)
      clear hK K
      refine norm_ (a' := ?_) ?_ ?_
      rotate_left
      ·show Act.put _ (some 50) _ = _
       simp only [Act.put, List.setIfInBounds_toArray, List.set_cons_zero, List.set_cons_succ, i64_w, i32_w]
       rfl
      refine one_ (i := 3) (N := some 51) #[T3449, T3449, T3449, T3449, T3449, T3449, T3449, T3449, T3449, T3449, T3449, T3449, F3449, F3449, F3449] rfl rfl (one_of HT_.out (by kernel_rfl)) (by decide) (fun K hK => ?_)
      refine Kd.R_append_rows_step (Kd.int .i64) (w0 := w) w.heap.size (by rfl) (.tmp 48) (.tmp 50) 82 3 (.int .i64 0) 8 rfl Try.underlying82 info3 rfl (by decide) (by omega) (.slice Ao23 x2_1.length co23) x2_1 y187 _ _ _ (fun k_ => some k_ ≠ (.slice Ao24 x3_1.length co24 : Value).ownBlock ∧ some k_ ≠ (v194 : Value).ownBlock ∧ some k_ ≠ (.slice Ao31 y187.length co31 : Value).ownBlock) (fun _ => False) rfl rfl ?aO ?aR (fun _ _ h => h) (fun _ h => h.elim) ?aF ?aB ?aS ?aL ?_
      (case aR => exact qgtms_15)
      (case aB => exact qgtms_0)
      (case aF => exact (fun k_ hk => ⟨Kd.fresh' (Kd.R_lt qgtms_3) k_ hk, Kd.fresh' (Kd.R_lt qgtms_13) k_ hk, Kd.fresh' (Kd.R_lt qgtms_11) k_ hk⟩))
      (case aO => exact qgtms_24)
      (case aS => exact (below_size qgtms_0))
      (case aL => have := LMc21.out; omega)
      intro v191 w30 ho hb hg hat
      rw [← Ny190.out] at ho
      have n0_ := Aside0.mk (Kd.R_after (ok := (fun k_ => some k_ ≠ (v194 : Value).ownBlock ∧ some k_ ≠ (.slice Ao31 y187.length co31 : Value).ownBlock)) qgtms_25 hg hat)
      have n1_ := Aside0.mk (blk_grown (g := gb183) (o := .cells #[.int .u8 a0_0, .int .u8 a0_1, .slice (some ad184) l0_2.length c0_2] 104 (0, 0)) qgtms_2 hg (Kd.R_ne HO_2.out BK183.out (by decide)))
      have n2_ := Aside0.mk (blk_grown (g := gb185) (o := .cells #[.int .u8 ((rd_T153 l0_2 x4_1).f0), .int .u8 ((rd_T153 l0_2 x4_1).f1), .int .u8 ((rd_T153 l0_2 x4_1).f2), .int .u8 ((rd_T153 l0_2 x4_1).f3), .int .u8 ((rd_T153 l0_2 x4_1).f4), .int .u8 ((rd_T153 l0_2 x4_1).f5), .int .u8 ((rd_T153 l0_2 x4_1).f6), .int .u8 ((rd_T153 l0_2 x4_1).f7), .int .u8 ((rd_T153 l0_2 x4_1).f8), .int .u8 ((rd_T153 l0_2 x4_1).f9), .bool ((rd_T153 l0_2 x4_1).f10)] 153 (0, 0)) qgtms_7 hg (Kd.R_ne HO_2.out BK185.out (by decide)))
      have n3_ := Aside0.mk (Kd.R_after (ok := (fun k_ => some k_ ≠ (.slice Ao24 x3_1.length co24 : Value).ownBlock ∧ some k_ ≠ (.slice Ao31 y187.length co31 : Value).ownBlock)) qgtms_21 hg hat)
      have n4_ := Aside0.mk (Kd.R_after (ok := (fun k_ => some k_ ≠ (.slice Ao24 x3_1.length co24 : Value).ownBlock ∧ some k_ ≠ (v194 : Value).ownBlock)) qgtms_20 hg hat)
      have n5_ := Aside0.mk (hb)
      have n6_ := Aside0.mk (ho)
      clear HO_3
      clear BK183
      clear BK185
      clear HO195
      clear HO189
      clear HB
      clear HO_2
      have HO_3 := n0_
      have BK183 := n1_
      have BK185 := n2_
      have HO195 := n3_
      have HO189 := n4_
      have HB := n5_
      have HO192 := n6_
      clear n0_ n1_ n2_ n3_ n4_ n5_ n6_
      clear ho hb hg hat
      refine hK.out _ _ ⟨(blk_cell BK185.out 0).trans rfl, (blk_cell BK185.out 1).trans rfl, (blk_cell BK185.out 2).trans rfl, (blk_cell BK185.out 3).trans rfl, (blk_cell BK185.out 4).trans rfl, (blk_cell BK185.out 5).trans rfl, (blk_cell BK185.out 6).trans rfl, (blk_cell BK185.out 7).trans rfl, (blk_cell BK185.out 8).trans rfl, (blk_cell BK185.out 9).trans rfl, (blk_cell BK185.out 10).trans rfl⟩ (fun hHeld => ?_)
      clear hK K
      refine norm_ (a' := ?_) ?_ ?_
      rotate_left
      ·show Act.put _ (some 51) _ = _
       simp only [Act.put, List.setIfInBounds_toArray, List.set_cons_zero, List.set_cons_succ, i64_w, i32_w]
       rfl
      exact norm_ qgtms_19 (hCont (.slice Ao31 y187.length co31, v191, v194) _ ⟨hHeld, qgtms_22, (by (with_reducible repeat (first | apply Kd.R_alloc | apply Kd.R_drewN | apply Kd.R_drew)); exact Kd.R_mono HO192.out (fun _ hk => ⟨hk.2.2, ⟨hk.2.1, hk.1⟩⟩)), qgtms_23, (by (with_reducible repeat (first | apply Kd.R_alloc | apply Kd.R_drewN | apply Kd.R_drew)); exact Kd.R_mono HO_3.out (fun _ hk => ⟨hk.1.2, ⟨hk.2, hk.1.1⟩⟩)), qgtms_2, qgtms_7, qgtms_0⟩)
    rintro ⟨v188, v191, v194⟩ w32 ⟨hS_, h0_, h1_, h2_, h3_, h4_, h5_, h6_⟩
    have n0_ : Aside0 (Kd.R (Kd.int .i64) 3 w32 w.heap.size (fun k_ => some k_ ≠ (v191 : Value).ownBlock ∧ some k_ ≠ (v194 : Value).ownBlock ∧ some k_ ≠ (.slice Ao24 x3_1.length co24 : Value).ownBlock) v188 y187) := ⟨h0_⟩
    have n1_ : Aside0 (Kd.R (Kd.int .i64) 3 w32 w.heap.size (fun k_ => some k_ ≠ (v188 : Value).ownBlock ∧ some k_ ≠ (v194 : Value).ownBlock ∧ some k_ ≠ (.slice Ao24 x3_1.length co24 : Value).ownBlock) v191 y190) := ⟨h1_⟩
    have n2_ : Aside0 (Kd.R (Kd.int .i64) 3 w32 w.heap.size (fun k_ => some k_ ≠ (v188 : Value).ownBlock ∧ some k_ ≠ (v191 : Value).ownBlock ∧ some k_ ≠ (.slice Ao24 x3_1.length co24 : Value).ownBlock) v194 y193) := ⟨h2_⟩
    have n3_ : Aside0 (Kd.R (Kd.int .i64) 3 w32 w.heap.size (fun k_ => some k_ ≠ (v188 : Value).ownBlock ∧ some k_ ≠ (v191 : Value).ownBlock ∧ some k_ ≠ (v194 : Value).ownBlock) (.slice Ao24 x3_1.length co24) x3_1) := ⟨h3_⟩
    have n4_ : Aside0 (w32.heap[gb183]? = some (.cells #[.int .u8 a0_0, .int .u8 a0_1, .slice (some ad184) l0_2.length c0_2] 104 (0, 0))) := ⟨h4_⟩
    have n5_ : Aside0 (w32.heap[gb185]? = some (.cells #[.int .u8 ((rd_T153 l0_2 x4_1).f0), .int .u8 ((rd_T153 l0_2 x4_1).f1), .int .u8 ((rd_T153 l0_2 x4_1).f2), .int .u8 ((rd_T153 l0_2 x4_1).f3), .int .u8 ((rd_T153 l0_2 x4_1).f4), .int .u8 ((rd_T153 l0_2 x4_1).f5), .int .u8 ((rd_T153 l0_2 x4_1).f6), .int .u8 ((rd_T153 l0_2 x4_1).f7), .int .u8 ((rd_T153 l0_2 x4_1).f8), .int .u8 ((rd_T153 l0_2 x4_1).f9), .bool ((rd_T153 l0_2 x4_1).f10)] 153 (0, 0))) := ⟨h5_⟩
    have n6_ : Aside0 (Below w.heap.size w w32) := ⟨h6_⟩
    clear HO_2
    clear HO_3
    clear BK183
    clear BK185
    clear HB
    clear h0_ h1_ h2_ h3_ h4_ h5_ h6_
    have HO189 := n0_
    have HO192 := n1_
    have HO195 := n2_
    have HO_3 := n3_
    have BK183 := n4_
    have BK185 := n5_
    have HB := n6_
    clear n0_ n1_ n2_ n3_ n4_ n5_ n6_
    have hHeld : w32.cell? ⟨gb185, 0, none⟩ = some (.int .u8 ((rd_T153 l0_2 x4_1).f0)) ∧ w32.cell? ⟨gb185, 1, none⟩ = some (.int .u8 ((rd_T153 l0_2 x4_1).f1)) ∧ w32.cell? ⟨gb185, 2, none⟩ = some (.int .u8 ((rd_T153 l0_2 x4_1).f2)) ∧ w32.cell? ⟨gb185, 3, none⟩ = some (.int .u8 ((rd_T153 l0_2 x4_1).f3)) ∧ w32.cell? ⟨gb185, 4, none⟩ = some (.int .u8 ((rd_T153 l0_2 x4_1).f4)) ∧ w32.cell? ⟨gb185, 5, none⟩ = some (.int .u8 ((rd_T153 l0_2 x4_1).f5)) ∧ w32.cell? ⟨gb185, 6, none⟩ = some (.int .u8 ((rd_T153 l0_2 x4_1).f6)) ∧ w32.cell? ⟨gb185, 7, none⟩ = some (.int .u8 ((rd_T153 l0_2 x4_1).f7)) ∧ w32.cell? ⟨gb185, 8, none⟩ = some (.int .u8 ((rd_T153 l0_2 x4_1).f8)) ∧ w32.cell? ⟨gb185, 9, none⟩ = some (.int .u8 ((rd_T153 l0_2 x4_1).f9)) ∧ w32.cell? ⟨gb185, 10, none⟩ = some (.bool ((rd_T153 l0_2 x4_1).f10)) := hS_
    obtain ⟨Ao34, co34, eo34⟩ := Kd.R_slice HO195.out
    (first | subst eo34 | (injection eo34 with f1_ f2_ f3_; have f4_ := f1_.symm; have f5_ := f3_.symm; clear f1_ f2_ f3_; subst f4_; subst f5_))
    refine norm_ (a' := ?_) ?_ ?_
    rotate_left
    ·simp only [putAll, Act.put, List.setIfInBounds_toArray, List.set_cons_zero, List.set_cons_succ]
     rfl
    refine one_ (i := 12) (N := some 60) #[T3449, T3449, T3449, T3449, T3449, T3449, T3449, T3449, T3449, T3449, T3449, T3449, T3449, F3449, F3449] rfl rfl (one_of HT_.out (by kernel_rfl)) (by decide) (fun K hK => ?_)
    refine Kd.R_append_rows_step (Kd.int .i64) (w0 := w) w.heap.size (by rfl) (.tmp 52) (.tmp 59) 82 3 (.int .i64 0) 8 rfl Try.underlying82 info3 rfl (by decide) (by omega) (.slice Ao24 x3_1.length co24) x3_1 y193 _ _ _ (fun k_ => some k_ ≠ (v188 : Value).ownBlock ∧ some k_ ≠ (v191 : Value).ownBlock ∧ some k_ ≠ (.slice Ao34 y193.length co34 : Value).ownBlock) (fun _ => False) rfl rfl ?aO ?aR (fun _ _ h => h) (fun _ h => h.elim) ?aF ?aB ?aS ?aL ?_
    (case aR => repeat (first | exact (Kd.R_reads' HO195.out).2.2 | (with_reducible refine Kd.C_alloc ?_ _) | (with_reducible refine Kd.C_drewN ?_ _) | (with_reducible refine Kd.C_drew ?_)))
    (case aB => exact qgtms_0)
    (case aF => exact (fun k_ hk => ⟨Kd.fresh' (Kd.R_lt qgtms_11) k_ hk, Kd.fresh' (Kd.R_lt qgtms_17) k_ hk, Kd.fresh' (Kd.R_lt qgtms_13) k_ hk⟩))
    (case aO => exact qgtms_3)
    (case aS => exact (below_size qgtms_0))
    (case aL => have := LMc22.out; omega)
    intro v197 w33 ho hb hg hat
    rw [← Ny196.out] at ho
    have n0_ := Aside0.mk (blk_grown (g := gb183) (o := .cells #[.int .u8 a0_0, .int .u8 a0_1, .slice (some ad184) l0_2.length c0_2] 104 (0, 0)) qgtms_2 hg (Kd.R_ne HO_3.out BK183.out (by decide)))
    have n1_ := Aside0.mk (blk_grown (g := gb185) (o := .cells #[.int .u8 ((rd_T153 l0_2 x4_1).f0), .int .u8 ((rd_T153 l0_2 x4_1).f1), .int .u8 ((rd_T153 l0_2 x4_1).f2), .int .u8 ((rd_T153 l0_2 x4_1).f3), .int .u8 ((rd_T153 l0_2 x4_1).f4), .int .u8 ((rd_T153 l0_2 x4_1).f5), .int .u8 ((rd_T153 l0_2 x4_1).f6), .int .u8 ((rd_T153 l0_2 x4_1).f7), .int .u8 ((rd_T153 l0_2 x4_1).f8), .int .u8 ((rd_T153 l0_2 x4_1).f9), .bool ((rd_T153 l0_2 x4_1).f10)] 153 (0, 0)) qgtms_7 hg (Kd.R_ne HO_3.out BK185.out (by decide)))
    have n2_ := Aside0.mk (Kd.R_after (ok := (fun k_ => some k_ ≠ (v191 : Value).ownBlock ∧ some k_ ≠ (.slice Ao34 y193.length co34 : Value).ownBlock)) (by (with_reducible repeat (first | apply Kd.R_alloc | apply Kd.R_drewN | apply Kd.R_drew)); exact Kd.R_mono HO189.out (fun _ hk => ⟨⟨hk.1, hk.2.1⟩, hk.2.2⟩)) hg hat)
    have n3_ := Aside0.mk (Kd.R_after (ok := (fun k_ => some k_ ≠ (v188 : Value).ownBlock ∧ some k_ ≠ (.slice Ao34 y193.length co34 : Value).ownBlock)) (by (with_reducible repeat (first | apply Kd.R_alloc | apply Kd.R_drewN | apply Kd.R_drew)); exact Kd.R_mono HO192.out (fun _ hk => ⟨⟨hk.1, hk.2.1⟩, hk.2.2⟩)) hg hat)
    have n4_ := Aside0.mk (Kd.R_after (ok := (fun k_ => some k_ ≠ (v188 : Value).ownBlock ∧ some k_ ≠ (v191 : Value).ownBlock)) (by (with_reducible repeat (first | apply Kd.R_alloc | apply Kd.R_drewN | apply Kd.R_drew)); exact Kd.R_mono HO195.out (fun _ hk => ⟨⟨hk.1, hk.2.1⟩, hk.2.2⟩)) hg hat)
    have n5_ := Aside0.mk (hb)
    have n6_ := Aside0.mk (ho)
    clear BK183
    clear BK185
    clear HO189
    clear HO192
    clear HO195
    clear HB
    clear HO_3
    have BK183 := n0_
    have BK185 := n1_
    have HO189 := n2_
    have HO192 := n3_
    have HO195 := n4_
    have HB := n5_
    have HO198 := n6_
    clear n0_ n1_ n2_ n3_ n4_ n5_ n6_
    clear ho hb hg hat
    refine hK.out _ _ ⟨(blk_cell BK185.out 0).trans rfl, (blk_cell BK185.out 1).trans rfl, (blk_cell BK185.out 2).trans rfl, (blk_cell BK185.out 3).trans rfl, (blk_cell BK185.out 4).trans rfl, (blk_cell BK185.out 5).trans rfl, (blk_cell BK185.out 6).trans rfl, (blk_cell BK185.out 7).trans rfl, (blk_cell BK185.out 8).trans rfl, (blk_cell BK185.out 9).trans rfl, (blk_cell BK185.out 10).trans rfl⟩ (fun hHeld => ?_)
    clear hK K
    refine norm_ (a' := ?_) ?_ ?_
    rotate_left
    ·show Act.put _ (some 60) _ = _
     simp only [Act.put, List.setIfInBounds_toArray, List.set_cons_zero, List.set_cons_succ, i64_w, i32_w]
     rfl
    refine pure_ (i := 13) (N := some 2) (v := ?_) (a' := ?_) #[T3449, T3449, T3449, T3449, T3449, T3449, T3449, T3449, T3449, T3449, T3449, T3449, T3449, T3449, F3449] rfl rfl (any_of HT_.out (by kernel_rfl)) (fun _ _ _ h => h) (Or.inl ⟨by rfl, ?_⟩) ?_ ?_
    rotate_left
    ·intro w'
     go_simp
     with_reducible rfl
    rotate_left
    ·simp only [Act.put, List.setIfInBounds_toArray, List.set_cons_zero, List.set_cons_succ, i64_w, i32_w]
     rfl
    refine pure_ (i := 14) (N := some 3) (v := ?_) (a' := ?_) #[T3449, T3449, T3449, T3449, T3449, T3449, T3449, T3449, T3449, T3449, T3449, T3449, T3449, T3449, T3449] rfl rfl (any_of HT_.out (by kernel_rfl)) (fun _ _ _ h => h) (Or.inl ⟨by rfl, ?_⟩) ?_ ?_
    rotate_left
    ·intro w'
     go_simp
     with_reducible rfl
    rotate_left
    ·simp only [Act.put, List.setIfInBounds_toArray, List.set_cons_zero, List.set_cons_succ, i64_w, i32_w]
     rfl
    refine done_ (done_of HT_.out (by kernel_rfl)) ?_
    try go_wp2
    go_roundg kj16
    case measure => have := HK1.out; have := HJ5.out; have := HJ16.out; omega
    case rel => exact ⟨(y190), (y196), (wrap64 (x4_1 + 1)), qgtms_12, H', ⟨by have := HK1.out; have := HJ5.out; have := HJ16.out; omega⟩, ⟨by (with_reducible repeat (first | apply Kd.R_alloc | apply Kd.R_drewN | apply Kd.R_drew)); exact Kd.R_mono HO192.out (fun _ hk => hk.2)⟩, ⟨by (with_reducible repeat (first | apply Kd.R_alloc | apply Kd.R_drewN | apply Kd.R_drew)); exact Kd.R_mono HO198.out (fun _ hk => hk.2.1)⟩, ⟨qgtms_2⟩, ⟨qgtms_0⟩⟩

end Go.Proofs.Ythdifdnjodbdnaa.Q
