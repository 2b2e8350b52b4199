-- Laid by myprint.py (a program of this session's, over the kit's printer and with functions proved by hand)
import Derived.Test.YtiimanpmidnffaaQx0
import Derived.Test.YtiimanpmidnffaaQx2
import Derived.Test.YtiimanpmidnffaaQx3
import Derived.Test.YtiimanpmidnffaaPrn
namespace Go.Proofs.Ytiimanpmidnffaa.Q
open Go.RowKit Go.Proofs.YtiimanpmidnffaaW.PrintWords Go.Proofs.YtiimanpmidnffaaW.PrintLast Go.Proofs.YtiimanpmidnffaaW.PrintMore
attribute [local go_sem] max2_int min2_int max_two min_two max_three min_three max_four min_four   -- for this text's walks alone
set_option linter.unusedVariables false
set_option linter.unusedSimpArgs false

abbrev T4 : Bool := true
abbrev F4 : Bool := false
theorem qx4_0 {p : Prop} (h : p := by repeat (first | (with_reducible first | exact HB.out | apply below_alloc | apply pw_below_drewN | apply below_drew1 | refine below_set ?_ GE174.out | refine below_set ?_ GE181.out | refine below_set ?_ GE182.out) | exact HB.out)) : p := h
theorem qx4_1 {p : Prop} (h : p := by (with_reducible repeat (first | refine blk_drewN ?_ _ | refine blk_drew ?_ | refine blk_alloc ?_ _)); exact BK174.out) : p := h
theorem qx4_2 {p : Prop} (h : p := by repeat (first | (with_reducible first | exact HB.out | apply below_alloc | apply pw_below_drewN | apply below_drew1 | refine below_set ?_ GE174.out | refine below_set ?_ GE181.out | refine below_set ?_ GE182.out | refine below_set ?_ GE198.out) | exact HB.out)) : p := h
theorem qx4_3 {p : Prop} (h : p := by (with_reducible repeat (first | refine blk_drewN ?_ _ | refine blk_drew ?_ | refine blk_alloc ?_ _)); exact BK181.out) : p := h
theorem qx4_4 {p : Prop} (h : p := by (with_reducible repeat (first | refine blk_drewN ?_ _ | refine blk_drew ?_ | refine blk_alloc ?_ _)); exact BK182.out) : p := h
theorem qx4_5 {p : Prop} (h : p := by (with_reducible repeat (first | apply Kd.R_alloc | apply Kd.R_drewN | apply Kd.R_drew)); exact HO_9.out) : p := h
theorem qx4_6 {p : Prop} (h : p := by repeat (first | (with_reducible first | exact HB.out | apply below_alloc | apply pw_below_drewN | apply below_drew1 | refine below_set ?_ GE174.out) | exact HB.out)) : p := h
theorem qx4_7 {p : Prop} (h : p := by (with_reducible repeat (first | apply Kd.R_alloc | apply Kd.R_drewN | apply Kd.R_drew)); exact HO_182000.out) : p := h
theorem qx4_8 {p : Prop} (h : p := by (with_reducible repeat (first | apply Kd.N_alloc | apply Kd.N_drewN | apply Kd.N_drew)); exact HO_175000.out) : p := h
theorem qx4_9 {p : Prop} (h : p := by first | exact Kd.own_blk (Kd.N_away HO_175000.out (fun _ hk => hk.2.2.2.2.2.2)) | (rw [add_block]; exact Kd.own_blk (Kd.N_away HO_175000.out (fun _ hk => hk.2.2.2.2.2.2))) | (show (Addr.add _ _).block ≠ _; rw [add_block]; exact Kd.own_blk (Kd.N_away HO_175000.out (fun _ hk => hk.2.2.2.2.2.2))) | (dsimp only; exact Kd.own_blk (Kd.N_away HO_175000.out (fun _ hk => hk.2.2.2.2.2.2)))) : p := h
theorem qx4_10 {p : Prop} (h : p := by first | rfl | (simp; done) | (simp [*]; done)) : p := h
theorem qx4_11 {p : Prop} (h : p := by repeat (first | (with_reducible first | exact HB.out | apply below_alloc | apply pw_below_drewN | apply below_drew1) | exact HB.out)) : p := h
theorem qx4_12 {p : Prop} (h : p := by (with_reducible repeat (first | apply Kd.V_alloc | apply Kd.V_drewN | apply Kd.V_drew)); exact HO_183001.out) : p := h
theorem qx4_13 {p : Prop} (h : p := by repeat (first | (with_reducible exact HR192_1.out) | (with_reducible refine Kd.C_alloc ?_ _) | (with_reducible refine Kd.C_drewN ?_ _) | (with_reducible refine Kd.C_drew ?_) | exact HR192_1.out)) : p := h
theorem qx4_14 {p : Prop} (h : p := by (with_reducible repeat (first | refine blk_drewN ?_ _ | refine blk_drew ?_ | refine blk_alloc ?_ _)); refine blk_put (cs := #[.slice none 0 0]) ?_ 0 _ rfl; (with_reducible repeat (first | refine blk_drewN ?_ _ | refine blk_drew ?_ | refine blk_alloc ?_ _)); exact BK181.out) : p := h
theorem qx4_15 {p : Prop} (h : p := by first | (with_reducible assumption) | assumption) : p := h
theorem qx4_16 {p : Prop} (h : p := by (with_reducible repeat (first | refine blk_drewN ?_ _ | refine blk_drew ?_ | refine blk_alloc ?_ _)); refine blk_far ?_ NB174_181.out _; (with_reducible repeat (first | refine blk_drewN ?_ _ | refine blk_drew ?_ | refine blk_alloc ?_ _)); exact BK174.out) : p := h
theorem qx4_17 {p : Prop} (h : p := by (with_reducible repeat (first | refine blk_drewN ?_ _ | refine blk_drew ?_ | refine blk_alloc ?_ _)); exact BK198.out) : p := h
theorem qx4_18 {p : Prop} (h : p := by (with_reducible repeat (first | refine blk_drewN ?_ _ | refine blk_drew ?_ | refine blk_alloc ?_ _)); refine blk_put (cs := #[.int .i64 t194, .slice none 0 0]) ?_ 1 _ rfl; (with_reducible repeat (first | refine blk_drewN ?_ _ | refine blk_drew ?_ | refine blk_alloc ?_ _)); refine blk_put (cs := #[.int .i64 0, .slice none 0 0]) ?_ 0 _ rfl; (with_reducible repeat (first | refine blk_drewN ?_ _ | refine blk_drew ?_ | refine blk_alloc ?_ _)); exact BK198.out) : p := h
theorem qx4_19 {p : Prop} (h : p := by repeat (first | (with_reducible first | exact HB.out | apply below_alloc | apply pw_below_drewN | apply below_drew1 | refine below_set ?_ GE174.out | refine below_set ?_ GE181.out) | exact HB.out)) : p := h
theorem qx4_20 {p : Prop} (h : p := by (with_reducible repeat (first | refine blk_drewN ?_ _ | refine blk_drew ?_ | refine blk_alloc ?_ _)); refine blk_far ?_ NB174_198.out _; (with_reducible repeat (first | refine blk_drewN ?_ _ | refine blk_drew ?_ | refine blk_alloc ?_ _)); refine blk_far ?_ NB174_198.out _; (with_reducible repeat (first | refine blk_drewN ?_ _ | refine blk_drew ?_ | refine blk_alloc ?_ _)); exact BK174.out) : p := h
theorem qx4_21 {p : Prop} (h : p := by (with_reducible repeat (first | refine blk_drewN ?_ _ | refine blk_drew ?_ | refine blk_alloc ?_ _)); refine blk_far ?_ NB181_198.out _; (with_reducible repeat (first | refine blk_drewN ?_ _ | refine blk_drew ?_ | refine blk_alloc ?_ _)); refine blk_far ?_ NB181_198.out _; (with_reducible repeat (first | refine blk_drewN ?_ _ | refine blk_drew ?_ | refine blk_alloc ?_ _)); exact BK181.out) : p := h
theorem qx4_22 {p : Prop} (h : p := by (with_reducible repeat (first | refine blk_drewN ?_ _ | refine blk_drew ?_ | refine blk_alloc ?_ _)); refine blk_far ?_ NB182_198.out _; (with_reducible repeat (first | refine blk_drewN ?_ _ | refine blk_drew ?_ | refine blk_alloc ?_ _)); refine blk_far ?_ NB182_198.out _; (with_reducible repeat (first | refine blk_drewN ?_ _ | refine blk_drew ?_ | refine blk_alloc ?_ _)); exact BK182.out) : p := h
theorem qx4_23 {p : Prop} (h : p := by (with_reducible repeat (first | apply Kd.V_alloc | apply Kd.V_drewN | apply Kd.V_drew)); exact (Kd.V_mono (Kd.V_far (p := ⟨gb198, 1, none⟩) (Kd.V_far (p := ⟨gb198, 0, none⟩) (Kd.V_mono HO_183001.out (fun k_ hk => (⟨hk, hk.2.2.2.2.2.2.2⟩ : _ ∧ k_ ≠ gb198))) (fun _ hk => hk.2) (.int .i64 t194)) (fun _ hk => hk.2) (.slice Ao43 t195.length co43)) (fun _ h_ => h_.1))) : p := h
theorem qx4_24 {p : Prop} (h : p := by (with_reducible repeat (first | apply Kd.V_alloc | apply Kd.V_drewN | apply Kd.V_drew)); exact (Kd.V_mono (Kd.V_far (p := ⟨gb198, 1, none⟩) (Kd.V_far (p := ⟨gb198, 0, none⟩) (Kd.V_mono HO197.out (fun k_ hk => (⟨hk, hk.2.2.2.2.2.2.2⟩ : _ ∧ k_ ≠ gb198))) (fun _ hk => hk.2) (.int .i64 t194)) (fun _ hk => hk.2) (.slice Ao43 t195.length co43)) (fun _ h_ => h_.1))) : p := h
theorem qx4_25 {p : Prop} (h : p := by first | exact Kd.own_blk (Kd.R_ne HO_182000.out BK198.out (by decide)) | (rw [add_block]; exact Kd.own_blk (Kd.R_ne HO_182000.out BK198.out (by decide))) | (show (Addr.add _ _).block ≠ _; rw [add_block]; exact Kd.own_blk (Kd.R_ne HO_182000.out BK198.out (by decide))) | (dsimp only; exact Kd.own_blk (Kd.R_ne HO_182000.out BK198.out (by decide)))) : p := h
theorem qx4_26 {p : Prop} (h : p := by (with_reducible repeat (first | apply Kd.V_alloc | apply Kd.V_drewN | apply Kd.V_drew)); exact HL192_1.out) : p := h
theorem qx4_27 {p : Prop} (h : p := by (try simp only [List.map_toArray, List.map_cons, List.map_nil]); first | done | rfl | (simp only [List.length_drop, List.length_take]; rfl)) : p := h
theorem qx4_28 {p : Prop} (h : p := by (with_reducible repeat (first | apply Kd.V_alloc | apply Kd.V_drewN | apply Kd.V_drew)); exact Kd.V_mono HO_183001.out (fun _ hk => ⟨hk.1.1, ⟨hk.1.2.2.1, ⟨hk.1.2.2.2.1, ⟨hk.1.2.1, ⟨hk.1.2.2.2.2.1, ⟨hk.1.2.2.2.2.2.1, ⟨hk.1.2.2.2.2.2.2, hk.2⟩⟩⟩⟩⟩⟩⟩)) : p := h
theorem qx4_29 {p : Prop} (h : p := by (with_reducible repeat (first | apply Kd.V_alloc | apply Kd.V_drewN | apply Kd.V_drew)); exact Kd.V_mono HL192_1.out (fun _ hk => ⟨hk.1.1.1, ⟨hk.1.2, ⟨hk.1.1.2.2.1, ⟨hk.1.1.2.1, ⟨hk.1.1.2.2.2.1, ⟨hk.1.1.2.2.2.2.1, ⟨hk.1.1.2.2.2.2.2, hk.2⟩⟩⟩⟩⟩⟩⟩)) : p := h
theorem qx4_30 {p : Prop} (h : p := by (with_reducible repeat (first | apply Kd.N_alloc | apply Kd.N_drewN | apply Kd.N_drew)); exact Kd.N_mono HO_175000.out (fun _ hk => ⟨hk.1.1, ⟨hk.1.2.2.1, ⟨hk.1.2.1, ⟨hk.1.2.2.2.1, ⟨hk.1.2.2.2.2.1, ⟨hk.1.2.2.2.2.2, hk.2⟩⟩⟩⟩⟩⟩)) : p := h
theorem qx4_31 {p : Prop} (h : p := by first | (go_simp; done) | (go_simp; rfl)) : p := h
/-! ### segmentation_solve: function 37 -/
/-- The candidates that pruning leaves. -/
def prn (cs : List Int) (all : List S74) (c : List Int) (m : Int) : List Int := cs.filter fun s => !decide (wrap64 ((rd_T74 all s).f0 + rd c s) > m)
theorem run_mk_ (P : Program) (fn : Fn) (first cap : Array Value) (w : World) : (Instr.makeFunc fn first cap).run P w = .ok (.func fn first cap) w := rfl
attribute [local go_sem] run_mk_
mutual
def segmentation_solve.l0 : Nat → List Int → Int → Bool → List Int → Int → Int → List (S74) → Option ((List (S74)) × Int)
 | 0, _, _, _, _, _, _, _ => none
 | k + 1, x0, x1, x2, x9, x10, x11, x175000 => if x11 ≤ (x0.length : Int) then ((segmentation_costs.f k x0 x11).bind fun t178 => (segmentation_solve.l1 k x0 x1 x2 x9 x10 x11 (x9.length : Int) 0 x175000 t178 0 ([] : List Int))) else (some (x175000, x10))
def segmentation_solve.l1 : Nat → List Int → Int → Bool → List Int → Int → Int → Int → Int → List (S74) → List Int → Int → List Int → Option ((List (S74)) × Int)
 | 0, _, _, _, _, _, _, _, _, _, _, _, _ => none
 | k + 1, x0, x1, x2, x9, x10, x11, x32, x33, x175000, x182000, x183000, x183001 => if x33 < x32 then (if 0 ≤ x33 then (if x33 < (x9.length : Int) then (if x33 > 0 then (if 0 ≤ (rd x9 x33) then (if (rd x9 x33) < (x175000.length : Int) then (if (rd x9 x33) < (x182000.length : Int) then (segmentation_solve.j2 k x0 x1 x2 x9 (wrap64 (x10 + 1)) x11 x33 (rd x9 x33) x32 x33 (decide ((wrap64 ((wrap64 (((rd_T74 x175000 (rd x9 x33)).f0) + x1)) + (rd x182000 (rd x9 x33)))) > x183000)) x175000 x182000 x183000 x183001) else (none)) else (none)) else (none)) else (segmentation_solve.j2 k x0 x1 x2 x9 (wrap64 (x10 + 1)) x11 x33 (rd x9 x33) x32 x33 false x175000 x182000 x183000 x183001)) else (none)) else (none)) else (if x175000.length < 4398046511104 then (if x2 = true then (if 0 < x9.length then (if (x9.all fun s => decide (0 ≤ s ∧ s < ((x175000 ++ [(⟨x183000, x183001⟩ : S74)]).length : Int) ∧ s < (x182000.length : Int))) = true then (if (prn x9 (x175000 ++ [(⟨x183000, x183001⟩ : S74)]) x182000 x183000).length < 17592186044416 then (segmentation_solve.l0 k x0 x1 x2 ((prn x9 (x175000 ++ [(⟨x183000, x183001⟩ : S74)]) x182000 x183000) ++ [x11]) x10 (wrap64 (x11 + 1)) (x175000 ++ [(⟨x183000, x183001⟩ : S74)])) else (none)) else (none)) else (none)) else (if x9.length < 17592186044416 then (segmentation_solve.l0 k x0 x1 x2 (x9 ++ [x11]) x10 (wrap64 (x11 + 1)) (x175000 ++ [(⟨x183000, x183001⟩ : S74)])) else (none))) else (none))
def segmentation_solve.j2 : Nat → List Int → Int → Bool → List Int → Int → Int → Int → Int → Int → Int → Bool → List (S74) → List Int → Int → List Int → Option ((List (S74)) × Int)
 | 0, _, _, _, _, _, _, _, _, _, _, _, _, _, _, _ => none
 | k + 1, x0, x1, x2, x9, x10, x11, x14, x15, x32, x33, x58, x175000, x182000, x183000, x183001 => if x58 = true then (segmentation_solve.l1 k x0 x1 x2 x9 x10 x11 x32 (wrap64 (x33 + 1)) x175000 x182000 x183000 x183001) else (if 0 ≤ x15 then (if x15 < (x175000.length : Int) then (if x15 < (x182000.length : Int) then ((segmentation_best_after.f ((rd_T74 x175000 x15).f0) ((rd_T74 x175000 x15).f1) x15 (wrap64 (x1 + (rd x182000 x15)))).bind fun bt194 => (if x14 = 0 then (segmentation_solve.j3 k x0 x1 x2 x9 x10 x11 x32 x33 true x175000 x182000 x183000 x183001 bt194.1 bt194.2) else ((segmentation_best_better.f k bt194.1 bt194.2 x183000 x183001).bind fun t199 => (segmentation_solve.j3 k x0 x1 x2 x9 x10 x11 x32 x33 t199 x175000 x182000 x183000 x183001 bt194.1 bt194.2)))) else (none)) else (none)) else (none))
def segmentation_solve.j3 : Nat → List Int → Int → Bool → List Int → Int → Int → Int → Int → Bool → List (S74) → List Int → Int → List Int → Int → List Int → Option ((List (S74)) × Int)
 | 0, _, _, _, _, _, _, _, _, _, _, _, _, _, _, _ => none
 | k + 1, x0, x1, x2, x9, x10, x11, x32, x33, x77, x175000, x182000, x183000, x183001, x199000, x199001 => if x77 = true then (segmentation_solve.l1 k x0 x1 x2 x9 x10 x11 x32 (wrap64 (x33 + 1)) x175000 x182000 x199000 x199001) else (segmentation_solve.l1 k x0 x1 x2 x9 x10 x11 x32 (wrap64 (x33 + 1)) x175000 x182000 x183000 x183001)
end
def segmentation_solve.f (k : Nat) (l0 : List Int) (a1 : Int) (a2 : Bool) : Option ((List (S74)) × Int) := segmentation_solve.l0 k l0 a1 a2 (([0] : List Int)) 0 1 (([(⟨wrap64 (-a1), ([] : List Int)⟩ : S74)] : List (S74)))
theorem segmentation_solve.mono_l : ∀ k, (∀ y0 y1 y2 y3 y4 y5 y6, LeO (segmentation_solve.l0 k y0 y1 y2 y3 y4 y5 y6) (segmentation_solve.l0 (k + 1) y0 y1 y2 y3 y4 y5 y6)) ∧ (∀ y0 y1 y2 y3 y4 y5 y6 y7 y8 y9 y10 y11, LeO (segmentation_solve.l1 k y0 y1 y2 y3 y4 y5 y6 y7 y8 y9 y10 y11) (segmentation_solve.l1 (k + 1) y0 y1 y2 y3 y4 y5 y6 y7 y8 y9 y10 y11)) ∧ (∀ y0 y1 y2 y3 y4 y5 y6 y7 y8 y9 y10 y11 y12 y13 y14, LeO (segmentation_solve.j2 k y0 y1 y2 y3 y4 y5 y6 y7 y8 y9 y10 y11 y12 y13 y14) (segmentation_solve.j2 (k + 1) y0 y1 y2 y3 y4 y5 y6 y7 y8 y9 y10 y11 y12 y13 y14)) ∧ (∀ y0 y1 y2 y3 y4 y5 y6 y7 y8 y9 y10 y11 y12 y13 y14, LeO (segmentation_solve.j3 k y0 y1 y2 y3 y4 y5 y6 y7 y8 y9 y10 y11 y12 y13 y14) (segmentation_solve.j3 (k + 1) y0 y1 y2 y3 y4 y5 y6 y7 y8 y9 y10 y11 y12 y13 y14))
 | 0 => ⟨fun _ _ _ _ _ _ _ r h => by simp [segmentation_solve.l0] at h, fun _ _ _ _ _ _ _ _ _ _ _ _ r h => by simp [segmentation_solve.l1] at h, fun _ _ _ _ _ _ _ _ _ _ _ _ _ _ _ r h => by simp [segmentation_solve.j2] at h, fun _ _ _ _ _ _ _ _ _ _ _ _ _ _ _ r h => by simp [segmentation_solve.j3] at h⟩
 | k + 1 => by
  obtain ⟨ih0, ih1, ih2, ih3⟩ := segmentation_solve.mono_l k
  refine ⟨?_, ?_, ?_, ?_⟩
  ·intro y0 y1 y2 y3 y4 y5 y6
   unfold segmentation_solve.l0
   repeat' first
   | (with_reducible exact ih0 _ _ _ _ _ _ _)
   | (with_reducible exact ih1 _ _ _ _ _ _ _ _ _ _ _ _)
   | (with_reducible exact ih2 _ _ _ _ _ _ _ _ _ _ _ _ _ _ _)
   | (with_reducible exact ih3 _ _ _ _ _ _ _ _ _ _ _ _ _ _ _)
   | (with_reducible exact segmentation_best_better.mono _ _ _ _ _)
   | (with_reducible exact segmentation_costs.mono _ _ _)
   | (with_reducible exact LeO.refl _)
   | (with_reducible exact LeO.none _)
   | (with_reducible refine LeO.ite ?_ ?_)
   | (with_reducible refine LeO.bind ?_ (fun _ => ?_))
   | exact ih0 _ _ _ _ _ _ _
   | exact ih1 _ _ _ _ _ _ _ _ _ _ _ _
   | exact ih2 _ _ _ _ _ _ _ _ _ _ _ _ _ _ _
   | exact ih3 _ _ _ _ _ _ _ _ _ _ _ _ _ _ _
   | exact segmentation_best_better.mono _ _ _ _ _
   | exact segmentation_costs.mono _ _ _
   | exact LeO.none _
   | refine LeO.ite ?_ ?_
   | refine LeO.bind ?_ (fun _ => ?_)
  ·intro y0 y1 y2 y3 y4 y5 y6 y7 y8 y9 y10 y11
   unfold segmentation_solve.l1
   repeat' first
   | (with_reducible exact ih0 _ _ _ _ _ _ _)
   | (with_reducible exact ih1 _ _ _ _ _ _ _ _ _ _ _ _)
   | (with_reducible exact ih2 _ _ _ _ _ _ _ _ _ _ _ _ _ _ _)
   | (with_reducible exact ih3 _ _ _ _ _ _ _ _ _ _ _ _ _ _ _)
   | (with_reducible exact segmentation_best_better.mono _ _ _ _ _)
   | (with_reducible exact segmentation_costs.mono _ _ _)
   | (with_reducible exact LeO.refl _)
   | (with_reducible exact LeO.none _)
   | (with_reducible refine LeO.ite ?_ ?_)
   | (with_reducible refine LeO.bind ?_ (fun _ => ?_))
   | exact ih0 _ _ _ _ _ _ _
   | exact ih1 _ _ _ _ _ _ _ _ _ _ _ _
   | exact ih2 _ _ _ _ _ _ _ _ _ _ _ _ _ _ _
   | exact ih3 _ _ _ _ _ _ _ _ _ _ _ _ _ _ _
   | exact segmentation_best_better.mono _ _ _ _ _
   | exact segmentation_costs.mono _ _ _
   | exact LeO.none _
   | refine LeO.ite ?_ ?_
   | refine LeO.bind ?_ (fun _ => ?_)
  ·intro y0 y1 y2 y3 y4 y5 y6 y7 y8 y9 y10 y11 y12 y13 y14
   unfold segmentation_solve.j2
   repeat' first
   | (with_reducible exact ih0 _ _ _ _ _ _ _)
   | (with_reducible exact ih1 _ _ _ _ _ _ _ _ _ _ _ _)
   | (with_reducible exact ih2 _ _ _ _ _ _ _ _ _ _ _ _ _ _ _)
   | (with_reducible exact ih3 _ _ _ _ _ _ _ _ _ _ _ _ _ _ _)
   | (with_reducible exact segmentation_best_better.mono _ _ _ _ _)
   | (with_reducible exact segmentation_costs.mono _ _ _)
   | (with_reducible exact LeO.refl _)
   | (with_reducible exact LeO.none _)
   | (with_reducible refine LeO.ite ?_ ?_)
   | (with_reducible refine LeO.bind ?_ (fun _ => ?_))
   | exact ih0 _ _ _ _ _ _ _
   | exact ih1 _ _ _ _ _ _ _ _ _ _ _ _
   | exact ih2 _ _ _ _ _ _ _ _ _ _ _ _ _ _ _
   | exact ih3 _ _ _ _ _ _ _ _ _ _ _ _ _ _ _
   | exact segmentation_best_better.mono _ _ _ _ _
   | exact segmentation_costs.mono _ _ _
   | exact LeO.none _
   | refine LeO.ite ?_ ?_
   | refine LeO.bind ?_ (fun _ => ?_)
  ·intro y0 y1 y2 y3 y4 y5 y6 y7 y8 y9 y10 y11 y12 y13 y14
   unfold segmentation_solve.j3
   repeat' first
   | (with_reducible exact ih0 _ _ _ _ _ _ _)
   | (with_reducible exact ih1 _ _ _ _ _ _ _ _ _ _ _ _)
   | (with_reducible exact ih2 _ _ _ _ _ _ _ _ _ _ _ _ _ _ _)
   | (with_reducible exact ih3 _ _ _ _ _ _ _ _ _ _ _ _ _ _ _)
   | (with_reducible exact segmentation_best_better.mono _ _ _ _ _)
   | (with_reducible exact segmentation_costs.mono _ _ _)
   | (with_reducible exact LeO.refl _)
   | (with_reducible exact LeO.none _)
   | (with_reducible refine LeO.ite ?_ ?_)
   | (with_reducible refine LeO.bind ?_ (fun _ => ?_))
   | exact ih0 _ _ _ _ _ _ _
   | exact ih1 _ _ _ _ _ _ _ _ _ _ _ _
   | exact ih2 _ _ _ _ _ _ _ _ _ _ _ _ _ _ _
   | exact ih3 _ _ _ _ _ _ _ _ _ _ _ _ _ _ _
   | exact segmentation_best_better.mono _ _ _ _ _
   | exact segmentation_costs.mono _ _ _
   | exact LeO.none _
   | refine LeO.ite ?_ ?_
   | refine LeO.bind ?_ (fun _ => ?_)
theorem segmentation_solve.mono : ∀ a0 a1 a2 k, LeO (segmentation_solve.f k a0 a1 a2) (segmentation_solve.f (k + 1) a0 a1 a2) := by
 intro a0 a1 a2 k
 obtain ⟨ih0, ih1, ih2, ih3⟩ := segmentation_solve.mono_l k
 unfold segmentation_solve.f
 repeat' first
   | (with_reducible exact ih0 _ _ _ _ _ _ _)
   | (with_reducible exact ih1 _ _ _ _ _ _ _ _ _ _ _ _)
   | (with_reducible exact ih2 _ _ _ _ _ _ _ _ _ _ _ _ _ _ _)
   | (with_reducible exact ih3 _ _ _ _ _ _ _ _ _ _ _ _ _ _ _)
   | (with_reducible exact segmentation_best_better.mono _ _ _ _ _)
   | (with_reducible exact segmentation_costs.mono _ _ _)
   | (with_reducible exact LeO.refl _)
   | (with_reducible exact LeO.none _)
   | (with_reducible refine LeO.ite ?_ ?_)
   | (with_reducible refine LeO.bind ?_ (fun _ => ?_))
   | exact ih0 _ _ _ _ _ _ _
   | exact ih1 _ _ _ _ _ _ _ _ _ _ _ _
   | exact ih2 _ _ _ _ _ _ _ _ _ _ _ _ _ _ _
   | exact ih3 _ _ _ _ _ _ _ _ _ _ _ _ _ _ _
   | exact segmentation_best_better.mono _ _ _ _ _
   | exact segmentation_costs.mono _ _ _
   | exact LeO.none _
   | refine LeO.ite ?_ ?_
   | refine LeO.bind ?_ (fun _ => ?_)
def segmentation_solve.T13 : Bool × List (List Nat × List Nat) := (true, [([], []), ([0], [0]), ([1], [1]), ([2], [2]), ([2], [2]), ([3, 4, 2], [2, 3, 4]), ([5, 2], [2, 5]), ([6, 2], [2, 6]), ([2], [2]), ([7, 8, 2], [2, 7, 8]), ([2], [2]), ([2], [2]), ([10, 11, 2], [2, 10, 11]), ([12, 2], [2, 12]), ([9, 13, 2], [2, 9, 13]), ([2], [2]), ([15, 2], [2, 15]), ([14, 16, 2], [2, 14, 16]), ([2, 17], [2, 17])])
def segmentation_solve.B13 : List Nat := [0, 1, 3, 7, 7, 31, 63, 127, 7, 511, 7, 7, 3079, 7175, 16383, 7, 32775, 131071, 262143]
theorem segmentation_solve.tab13 : rtab .any (opsOf Try.f37 13) = segmentation_solve.T13 := by kernel_rfl
theorem segmentation_solve.bits13 : waitsOk segmentation_solve.T13.2 segmentation_solve.B13 = true := by kernel_rfl
def segmentation_solve.T14 : Bool × List (List Nat × List Nat) := (true, [([], []), ([], []), ([0, 1], [0, 1]), ([2], [2]), ([], []), ([], []), ([], []), ([], []), ([6, 7], [6, 7]), ([8], [8]), ([5, 9], [5, 9]), ([3, 4, 10], [3, 4, 10]), ([], []), ([12, 11, 11, 0, 1, 2, 3, 4, 5, 6, 7, 8, 9, 10, 11, 12], [11, 12])])
def segmentation_solve.B14 : List Nat := [0, 0, 3, 7, 0, 0, 0, 0, 192, 448, 992, 2047, 0, 8191]
theorem segmentation_solve.tab14 : rtab .any (opsOf Try.f37 14) = segmentation_solve.T14 := by kernel_rfl
theorem segmentation_solve.bits14 : waitsOk segmentation_solve.T14.2 segmentation_solve.B14 = true := by kernel_rfl
set_option maxHeartbeats 8000000 in
set_option maxRecDepth 100000 in
theorem segmentation_solve.calls (k : Nat) (A0 : Option Addr) (c0 : Nat) (l0 : List Int) (a1 : Int) (a2 : Bool) (r1 : List (S74)) (r2 : Int) (w : World) (hr0 : Kd.C (Kd.int .i64) w A0 l0.length l0) (hc0 : l0.length ≤ c0) (h : segmentation_solve.f k l0 a1 a2 = some (r1, r2)) :
  Calls Try.prog 37 #[.slice A0 l0.length c0, .int .i64 a1, .bool a2] w fun e w' => ∃ v0_ : Value, e = .returned (.tuple #[v0_, .int .i64 r2]) ∧ Kd.N k74 74 w' w.heap.size (fun k_ => (w.heap.size ≤ k_)) v0_ r1 ∧ Below w.heap.size w w' := by
 have hu74 := Try.underlying74
 have hu69 := Try.underlying69
 have hu24 := Try.underlying24
 have HR0 := Aside0.mk hr0
 have HC0 := Aside0.mk hc0
 clear hr0 hc0
 have HB := Aside0.mk (Below.refl w.heap.size w)
 have H : (segmentation_solve.l0 k l0 a1 a2 (([0] : List Int)) 0 1 (([(⟨wrap64 (-a1), ([] : List Int)⟩ : S74)] : List (S74)))) = some (r1, r2) := h
 clear h
 obtain ⟨y171, hy171⟩ : ∃ y_ : List (S74), y_ = (([(⟨wrap64 (-a1), ([] : List Int)⟩ : S74)] : List (S74))) := ⟨_, rfl⟩
 replace H : (segmentation_solve.l0 k l0 a1 a2 (([0] : List Int)) 0 1 y171) = some (r1, r2) := by first | (rw [hy171]; with_reducible exact H) | (have H2_ := (Option.bind_some _ _).symm.trans H; rw [hy171]; with_reducible exact H2_) | (have H2_ := (Option.bind_some _ _).symm.trans H; with_reducible exact H2_) | with_reducible exact H | (rw [hy171]; exact H) | exact H
 have Ny171 := Aside0.mk hy171
 clear hy171
 obtain ⟨y175, hy175⟩ : ∃ y_ : List Int, y_ = (([0] : List Int)) := ⟨_, rfl⟩
 replace H : (segmentation_solve.l0 k l0 a1 a2 y175 0 1 y171) = some (r1, r2) := by first | (rw [hy175]; with_reducible exact H) | (have H2_ := (Option.bind_some _ _).symm.trans H; rw [hy175]; with_reducible exact H2_) | (have H2_ := (Option.bind_some _ _).symm.trans H; with_reducible exact H2_) | with_reducible exact H | (rw [hy175]; exact H) | exact H
 have Ny175 := Aside0.mk hy175
 clear hy175
 have H' := Aside0.mk H
 clear H
 go_enter Try.func37, Try.ntmps37
 go_wp2_with (first | ((with_reducible refine gate_dst (N := 20) rfl ?_); refine Kd.N_lit k74 _ 74 ?hg (N' := 20) ?hd (xs := ([(⟨wrap64 (-a1), ([] : List Int)⟩ : S74)] : List (S74))) (inner := [.int .i64 (wrap64 (-a1)), .slice none 0 0]) (ok := (fun k_ => (w.heap.size ≤ k_))) (okp := (fun k_ => (w.heap.size ≤ k_))) ?hr ?hp (fun _ hk => hk) ((show ∀ k_, w.heap.size ≤ k_ → (fun k_ => (w.heap.size ≤ k_)) k_ from fun k_ hk => (Nat.le_trans (below_size qx4_11) hk)) _ (Nat.le_refl _)) (Below.refl _ _) (Nat.le_refl _) (by simp) ?_; (case hd => rfl); (case hg => rfl); (case hr => exact qx4_31); (case hp => exact (Reps.c2 (show Kd.FK k74 _ _ (⟨wrap64 (-a1), ([] : List Int)⟩ : S74) [.int .i64 (wrap64 (-a1)), .slice none 0 0] from (k74_mkF _ _ (⟨wrap64 (-a1), ([] : List Int)⟩ : S74) (Nat.le_refl _) (Kd.F_nil _ _ _))) (Reps.none _ _))); intro v172 w4 ho5 hb hg_ hnew_; clear hg_ hnew_; (first | rw [← Ny171.out] at ho5 | (simp only [Int.reduceToNat] at ho5; rw [← Ny171.out] at ho5)); have n0_ := Aside0.mk (Kd.N_lower ho5 (below_size qx4_11)); have n1_ := Aside0.mk (below_step qx4_11 hb); clear HB; have HO173 := n0_; have HB := n1_; clear n0_ n1_; clear hb ho5) | ((with_reducible refine gate_dst (N := 8) rfl ?_); refine box_event ?hg (N := 8) ?hd (cs := #[.slice none 0 0]) (t := 69) ?hr ?_; (case hd => rfl); (case hg => rfl); (case hr => exact qx4_31); intro gb174 hg w6 hbox hb; have n0_ := Aside0.mk (Kd.N_below (Kd.N_elderB (by (with_reducible repeat (first | apply Kd.N_alloc | apply Kd.N_drewN | apply Kd.N_drew)); exact HO173.out) gb174 (Nat.le_of_eq hg.symm)) hb); have n1_ := Aside0.mk (below_step qx4_11 hb); have n2_ := Aside0.mk (hbox); have n3_ := Aside0.mk ((by rw [hg]; exact (below_size qx4_11) : w.heap.size ≤ gb174)); have n4_ := Aside0.mk ((by rw [hg]; exact (below_size qx4_11) : w.heap.size ≤ gb174)); clear HO173; clear HB; have HO173 := n0_; have HB := n1_; have BK174 := n2_; have GW174 := n3_; have GE174 := n4_; clear n0_ n1_ n2_ n3_ n4_; clear hb hbox hg; obtain ⟨Ao7, co7, eo7⟩ := Kd.N_slice HO173.out; subst eo7; have hcz8_0 : w6.cell? ⟨gb174, 0, none⟩ = some (.slice none 0 0) := (blk_cell BK174.out 0).trans rfl; have hfz8_0 := blk_frozen BK174.out 0) | ((with_reducible refine gate_dst (N := 21) rfl ?_); refine Kd.R_lit (Kd.int .i64) _ 3 ?hg (N := 21) ?hd (xs := ([0] : List Int)) (inner := [.int .i64 0]) (ok := fun _ => True) (okp := fun _ => True) ?hr ?hp (fun _ hk => hk) trivial (Below.refl _ _) (Nat.le_refl _) (by simp) ?_; (case hd => rfl); (case hg => rfl); (case hr => exact qx4_31); (case hp => exact (Reps.one (show Kd.M (Kd.int .i64) _ _ _ 0 [.int .i64 0] from rfl) (Reps.none _ _))); intro v176 w9 ho10 hb hg_ hnew_; clear hg_ hnew_; (first | rw [← Ny175.out] at ho10 | (simp only [Int.reduceToNat] at ho10; rw [← Ny175.out] at ho10)); have n0_ := Aside0.mk (Kd.N_elder' (by (with_reducible repeat (first | apply Kd.N_alloc | apply Kd.N_drewN | apply Kd.N_drew)); exact (Kd.N_mono (Kd.N_far (p := ⟨gb174, 0, none⟩) (Kd.N_mono HO173.out (fun k_ hk => (⟨hk, hk.2⟩ : _ ∧ k_ ≠ gb174))) (fun _ hk => hk.2) (.slice Ao7 y171.length co7)) (fun _ h_ => h_.1))) (Kd.R_base ho10) hb); have n1_ := Aside0.mk (Kd.R_lower (Kd.R_newM (M := fun k_ => (w.heap.size ≤ k_)) ho10 (below_size qx4_6) (fun k_ h_ => h_)) (below_size qx4_6)); have n2_ := Aside0.mk (blk_below (g := gb174) (o := .cells #[.slice Ao7 y171.length co7] 69 (0, 0)) (by (with_reducible repeat (first | refine blk_drewN ?_ _ | refine blk_drew ?_ | refine blk_alloc ?_ _)); refine blk_put (cs := #[.slice none 0 0]) ?_ 0 _ rfl; (with_reducible repeat (first | refine blk_drewN ?_ _ | refine blk_drew ?_ | refine blk_alloc ?_ _)); exact BK174.out) hb); have n3_ := Aside0.mk (below_step qx4_6 hb); clear HO173; clear BK174; clear HB; have HO173 := n0_; have HO177 := n1_; have BK174 := n2_; have HB := n3_; clear n0_ n1_ n2_ n3_; clear hb ho10))
 go_loopg [9, 10, 11] k (fun kq v9 v10 v11 w' => ∃ (x9_1 : List Int) (x10_1 : Int) (x11_1 : Int) (x175000_1 : List (S74)) (u175000 : Value), v10 = .int .i64 x10_1 ∧ v11 = .int .i64 x11_1 ∧ Aside0 (segmentation_solve.l0 kq l0 a1 a2 x9_1 x10_1 x11_1 x175000_1 = some (r1, r2)) ∧ Aside0 (kq ≤ k) ∧ Aside0 (Kd.R (Kd.int .i64) 3 w' w.heap.size (fun k_ => (w.heap.size ≤ k_)) v9 x9_1) ∧ Aside0 (Kd.N k74 74 w' w.heap.size (fun k_ => (w.heap.size ≤ k_) ∧ some k_ ≠ (v9 : Value).ownBlock ∧ k_ ≠ gb174) u175000 x175000_1) ∧ Aside0 (w'.heap[gb174]? = some (.cells #[u175000] 69 (0, 0))) ∧ Aside0 (Below w.heap.size w w'))
 case atStart => exact ⟨(y175), (0), (1), (y171), (.slice Ao7 y171.length co7), qx4_10, qx4_10, H', ⟨Nat.le_refl _⟩, ⟨by (with_reducible repeat (first | apply Kd.R_alloc | apply Kd.R_drewN | apply Kd.R_drew)); exact Kd.R_mono HO177.out (fun _ hk => hk.1)⟩, ⟨by (with_reducible repeat (first | apply Kd.N_alloc | apply Kd.N_drewN | apply Kd.N_drew)); exact Kd.N_mono HO173.out (fun _ hk => ⟨hk.1.1, ⟨hk.2, hk.1.2⟩⟩)⟩, ⟨qx4_1⟩, ⟨qx4_6⟩⟩
 clear H'
 try clear c2
 try clear p2
 try clear c3
 try clear p6
 try clear hcz8_0
 try clear hfz8_0
 obtain ⟨x9_1, x10_1, x11_1, x175000_1, u175000, rfl, rfl, HA, HK1, HO_9, HO_175000, BK174, HB⟩ := hrel
 cases gk with
 | zero => exact absurd HA.out (by simp [segmentation_solve.l0])
 | succ k1 =>
  have H := HA.out
  clear HA
  simp only [segmentation_solve.l0] at H
  by_cases c11 : x11_1 ≤ (l0.length : Int)
  rotate_left
  ·rw [if_neg c11] at H
   have c11b0 : decide (x11_1 ≤ (l0.length : Int)) = false := decide_eq_false c11
   clear c11
   simp only [Option.some.injEq, Prod.mk.injEq] at H
   obtain ⟨rfl, rfl⟩ := H
   have hcz77_0 : wr.cell? ⟨gb174, 0, none⟩ = some (u175000) := (blk_cell BK174.out 0).trans rfl
   have hfz77_0 := blk_frozen BK174.out 0
   go_wp2
   go_ret2
   exact ⟨_, by first | rfl | (simp [errW_none, errW_some] <;> rfl) | (simp [*, errW_none, errW_some] <;> rfl), by (with_reducible repeat (first | apply Kd.N_alloc | apply Kd.N_drewN | apply Kd.N_drew)); exact Kd.N_mono HO_175000.out (fun _ hk => hk.1), qx4_6⟩
  rw [if_pos c11] at H
  have c11b0 : decide (x11_1 ≤ (l0.length : Int)) = true := decide_eq_true c11
  clear c11
  replace H := Option.bind_eq_some_iff.mp H
  obtain ⟨t178, A120, H⟩ := H
  replace H : (segmentation_solve.l1 k1 l0 a1 a2 x9_1 x10_1 x11_1 (x9_1.length : Int) 0 x175000_1 t178 0 ([] : List Int)) = some (r1, r2) := H
  have A12 := Aside0.mk A120
  clear A120
  have H' := Aside0.mk H
  clear H
  go_wp2_with (first | ((with_reducible refine gate_callee (f := 40) rfl ?_); refine goesL_ (some 30) rfl rfl Try.func40 (by kernel_rfl) rfl #[.slice A0 l0.length c0, .int .i64 x11_1] rfl qx4_27 ?_; (with_reducible refine (segmentation_costs.calls k1 _ _ l0 x11_1 t178 _ ?side1 ?side2 A12.out).mono ?_); (case side1 => repeat (first | exact (Kd.C_below HR0.out HB.out) | (with_reducible refine Kd.C_alloc ?_ _) | (with_reducible refine Kd.C_drewN ?_ _) | (with_reducible refine Kd.C_drew ?_))); (case side2 => exact HC0.out); rintro e w13 ⟨v179, rfl, ho0, hb⟩; refine ⟨_, rfl, ?_⟩; have n0_ := Aside0.mk (Kd.R_elder' qx4_5 (Kd.R_base ho0) hb); have n1_ := Aside0.mk (Kd.N_elder' qx4_8 (Kd.R_base ho0) hb); have n2_ := Aside0.mk (Kd.R_lower (Kd.R_new' (Kd.R_newM (M := fun k_ => (w.heap.size ≤ k_)) ho0 (below_size qx4_6) (fun k_ h_ => h_)) (Kd.R_lt qx4_5)) (below_size qx4_6)); have n3_ := Aside0.mk (blk_below (g := gb174) (o := .cells #[u175000] 69 (0, 0)) qx4_1 hb); have n4_ := Aside0.mk (below_step qx4_6 hb); clear HO_9; clear HO_175000; clear BK174; clear HB; have HO_9 := n0_; have HO_175000 := n1_; have HO180 := n2_; have BK174 := n3_; have HB := n4_; clear n0_ n1_ n2_ n3_ n4_; (try clear hb); (try clear hb2); (try clear hk); (try clear hi); (try clear ho0)) | ((with_reducible refine gate_dst (N := 12) rfl ?_); refine box_event ?hg (N := 12) ?hd (cs := #[.slice none 0 0]) (t := 24) ?hr ?_; (case hd => rfl); (case hg => rfl); (case hr => exact qx4_31); intro gb181 hg w14 hbox hb; have n0_ := Aside0.mk (Kd.R_below qx4_5 hb); have n1_ := Aside0.mk (Kd.N_below (Kd.N_elderB qx4_8 gb181 (Nat.le_of_eq hg.symm)) hb); have n2_ := Aside0.mk (Kd.R_below (by (with_reducible repeat (first | apply Kd.R_alloc | apply Kd.R_drewN | apply Kd.R_drew)); exact HO180.out) hb); have n3_ := Aside0.mk (blk_below (g := gb174) (o := .cells #[u175000] 69 (0, 0)) qx4_1 hb); have n4_ := Aside0.mk (below_step qx4_6 hb); have n5_ := Aside0.mk (hbox); have n6_ := Aside0.mk ((by rw [hg]; exact (below_size qx4_6) : w.heap.size ≤ gb181)); have n7_ := Aside0.mk ((by rw [hg]; exact (below_size qx4_6) : w.heap.size ≤ gb181)); have n8_ := Aside0.mk ((by rw [hg]; exact Nat.ne_of_lt (blk_lt (g := gb174) (o := .cells #[u175000] 69 (0, 0)) qx4_1) : gb174 ≠ gb181)); have n9_ := Aside0.mk ((by rw [hg]; exact Nat.ne_of_gt (blk_lt (g := gb174) (o := .cells #[u175000] 69 (0, 0)) qx4_1) : gb181 ≠ gb174)); clear HO_9; clear HO_175000; clear HO180; clear BK174; clear HB; have HO_9 := n0_; have HO_175000 := n1_; have HO180 := n2_; have BK174 := n3_; have HB := n4_; have BK181 := n5_; have GW181 := n6_; have GE181 := n7_; have NB174_181 := n8_; have NB181_174 := n9_; clear n0_ n1_ n2_ n3_ n4_ n5_ n6_ n7_ n8_ n9_; clear hb hbox hg; obtain ⟨Ao15, co15, eo15⟩ := Kd.R_slice HO180.out; subst eo15; have hnb16 := NB181_174.out; have hnc16 := NB174_181.out; have hcz17_0 : w14.cell? ⟨gb181, 0, none⟩ = some (.slice none 0 0) := (blk_cell BK181.out 0).trans rfl; have hfz17_0 := blk_frozen BK181.out 0) | ((with_reducible refine gate_dst (N := 13) rfl ?_); refine box_event ?hg (N := 13) ?hd (cs := #[.int .i64 0, .slice none 0 0]) (t := 74) ?hr ?_; (case hd => rfl); (case hg => rfl); (case hr => exact qx4_31); intro gb182 hg w18 hbox hb; have n0_ := Aside0.mk (Kd.R_below (by (with_reducible repeat (first | apply Kd.R_alloc | apply Kd.R_drewN | apply Kd.R_drew)); exact (Kd.R_mono (Kd.R_far (p := ⟨gb181, 0, none⟩) (Kd.R_types HO_9.out BK181.out (by decide)) (fun _ hk => hk.2) (.slice Ao15 t178.length co15)) (fun _ h_ => h_.1))) hb); have n1_ := Aside0.mk (Kd.N_below (Kd.N_elderB (by (with_reducible repeat (first | apply Kd.N_alloc | apply Kd.N_drewN | apply Kd.N_drew)); exact (Kd.N_mono (Kd.N_far (p := ⟨gb181, 0, none⟩) (Kd.N_mono HO_175000.out (fun k_ hk => (⟨hk, hk.2⟩ : _ ∧ k_ ≠ gb181))) (fun _ hk => hk.2) (.slice Ao15 t178.length co15)) (fun _ h_ => h_.1))) gb182 (Nat.le_of_eq hg.symm)) hb); have n2_ := Aside0.mk (Kd.R_below (by (with_reducible repeat (first | apply Kd.R_alloc | apply Kd.R_drewN | apply Kd.R_drew)); exact (Kd.R_mono (Kd.R_far (p := ⟨gb181, 0, none⟩) (Kd.R_types HO180.out BK181.out (by decide)) (fun _ hk => hk.2) (.slice Ao15 t178.length co15)) (fun _ h_ => h_.1))) hb); have n3_ := Aside0.mk (blk_below (g := gb174) (o := .cells #[u175000] 69 (0, 0)) qx4_16 hb); have n4_ := Aside0.mk (blk_below (g := gb181) (o := .cells #[.slice Ao15 t178.length co15] 24 (0, 0)) qx4_14 hb); have n5_ := Aside0.mk (below_step qx4_19 hb); have n6_ := Aside0.mk (hbox); have n7_ := Aside0.mk ((by rw [hg]; exact (below_size qx4_19) : w.heap.size ≤ gb182)); have n8_ := Aside0.mk ((by rw [hg]; exact (below_size qx4_19) : w.heap.size ≤ gb182)); have n9_ := Aside0.mk ((by rw [hg]; exact Nat.ne_of_lt (blk_lt (g := gb174) (o := .cells #[u175000] 69 (0, 0)) qx4_16) : gb174 ≠ gb182)); have n10_ := Aside0.mk ((by rw [hg]; exact Nat.ne_of_gt (blk_lt (g := gb174) (o := .cells #[u175000] 69 (0, 0)) qx4_16) : gb182 ≠ gb174)); have n11_ := Aside0.mk ((by rw [hg]; exact Nat.ne_of_lt (blk_lt (g := gb181) (o := .cells #[.slice Ao15 t178.length co15] 24 (0, 0)) qx4_14) : gb181 ≠ gb182)); have n12_ := Aside0.mk ((by rw [hg]; exact Nat.ne_of_gt (blk_lt (g := gb181) (o := .cells #[.slice Ao15 t178.length co15] 24 (0, 0)) qx4_14) : gb182 ≠ gb181)); clear HO_9; clear HO_175000; clear HO180; clear BK174; clear BK181; clear HB; have HO_9 := n0_; have HO_175000 := n1_; have HO180 := n2_; have BK174 := n3_; have BK181 := n4_; have HB := n5_; have BK182 := n6_; have GW182 := n7_; have GE182 := n8_; have NB174_182 := n9_; have NB182_174 := n10_; have NB181_182 := n11_; have NB182_181 := n12_; clear n0_ n1_ n2_ n3_ n4_ n5_ n6_ n7_ n8_ n9_ n10_ n11_ n12_; clear hb hbox hg; obtain ⟨Ao19, co19, eo19⟩ := Kd.R_slice HO_9.out; subst eo19))
  go_loopg [10, 33] k1 (fun kq v10 v33 w' => ∃ (x10_2 : Int) (x33_2 : Int) (x183000_2 : Int) (x183001_2 : List Int) (u183001 : Value), v10 = .int .i64 x10_2 ∧ v33 = .int .i64 x33_2 ∧ Aside0 (segmentation_solve.l1 kq l0 a1 a2 x9_1 x10_2 x11_1 (x9_1.length : Int) x33_2 x175000_1 t178 x183000_2 x183001_2 = some (r1, r2)) ∧ Aside0 (kq ≤ k1) ∧ Aside0 (Kd.R (Kd.int .i64) 3 w' w.heap.size (fun k_ => (w.heap.size ≤ k_) ∧ some k_ ≠ ((.slice Ao15 t178.length co15) : Value).ownBlock) (.slice Ao19 x9_1.length co19) x9_1) ∧ Aside0 (Kd.N k74 74 w' w.heap.size (fun k_ => (w.heap.size ≤ k_) ∧ some k_ ≠ ((.slice Ao19 x9_1.length co19) : Value).ownBlock ∧ some k_ ≠ ((.slice Ao15 t178.length co15) : Value).ownBlock ∧ k_ ≠ gb174 ∧ k_ ≠ gb181 ∧ k_ ≠ gb182) u175000 x175000_1) ∧ Aside0 (Kd.R (Kd.int .i64) 3 w' w.heap.size (fun k_ => (w.heap.size ≤ k_) ∧ some k_ ≠ ((.slice Ao19 x9_1.length co19) : Value).ownBlock) (.slice Ao15 t178.length co15) t178) ∧ Aside0 (Kd.V (Kd.int .i64) 3 w' w.heap.size (fun k_ => (w.heap.size ≤ k_) ∧ some k_ ≠ ((.slice Ao19 x9_1.length co19) : Value).ownBlock ∧ some k_ ≠ (u175000 : Value).ownBlock ∧ some k_ ≠ ((.slice Ao15 t178.length co15) : Value).ownBlock ∧ k_ ≠ gb174 ∧ k_ ≠ gb181 ∧ k_ ≠ gb182) u183001 x183001_2) ∧ Aside0 (w'.heap[gb174]? = some (.cells #[u175000] 69 (0, 0))) ∧ Aside0 (w'.heap[gb181]? = some (.cells #[(.slice Ao15 t178.length co15)] 24 (0, 0))) ∧ Aside0 (w'.heap[gb182]? = some (.cells #[.int .i64 x183000_2, u183001] 74 (0, 0))) ∧ Aside0 (Below w.heap.size w w'))
  case atStart => exact ⟨(x10_1), (0), (0), (([] : List Int)), (.slice none 0 0), qx4_10, qx4_10, H', ⟨Nat.le_refl _⟩, ⟨qx4_5⟩, ⟨by (with_reducible repeat (first | apply Kd.N_alloc | apply Kd.N_drewN | apply Kd.N_drew)); exact Kd.N_mono HO_175000.out (fun _ hk => ⟨hk.1.1.1.1, ⟨hk.1.1.1.2.1, ⟨hk.1.1.2, ⟨hk.1.1.1.2.2, ⟨hk.1.2, hk.2⟩⟩⟩⟩⟩)⟩, ⟨by (with_reducible repeat (first | apply Kd.R_alloc | apply Kd.R_drewN | apply Kd.R_drew)); exact Kd.R_mono HO180.out (fun _ hk => ⟨hk.1.1, hk.2⟩)⟩, ⟨(by exact Kd.V_nil _ _ _ _ _)⟩, ⟨qx4_1⟩, ⟨qx4_3⟩, ⟨qx4_4⟩, ⟨qx4_0⟩⟩
  clear H'
  try clear c1
  try clear c2
  try clear p2
  try clear c3
  try clear c4
  try clear p6
  try clear c11
  try clear c11b0
  try clear c16
  try clear hcz17_0
  try clear hcz8_0
  try clear hfz17_0
  try clear hfz8_0
  try clear p2
  try clear p6
  obtain ⟨x10_2, x33_2, x183000_2, x183001_2, u183001, rfl, rfl, HA, HK2, HO_9, HO_175000, HO_182000, HO_183001, BK174, BK181, BK182, HB⟩ := hrel
  cases gk with
  | zero => exact absurd HA.out (by simp [segmentation_solve.l1])
  | succ k2 =>
   have H := HA.out
   clear HA
   simp only [segmentation_solve.l1] at H
   by_cases c20 : x33_2 < (x9_1.length : Int)
   rotate_left
   ·rw [if_neg c20] at H
    have c20b0 : decide (x33_2 < (x9_1.length : Int)) = false := decide_eq_false c20
    clear c20
    by_cases c64 : x175000_1.length < 4398046511104
    rotate_left
    ·rw [if_neg c64] at H
     exact absurd H (by simp)
    rw [if_pos c64] at H
    have LMc64 := Aside0.mk c64
    clear c64
    obtain ⟨y183, hy183⟩ : ∃ y_ : List (S74), y_ = (x175000_1 ++ [(⟨x183000_2, x183001_2⟩ : S74)]) := ⟨_, rfl⟩
    replace H : (if a2 = true then (if 0 < x9_1.length then (if (x9_1.all fun s => decide (0 ≤ s ∧ s < (y183.length : Int) ∧ s < (t178.length : Int))) = true then (if (prn x9_1 y183 t178 x183000_2).length < 17592186044416 then (segmentation_solve.l0 k2 l0 a1 a2 ((prn x9_1 y183 t178 x183000_2) ++ [x11_1]) x10_2 (wrap64 (x11_1 + 1)) y183) else (none)) else (none)) else (none)) else (if x9_1.length < 17592186044416 then (segmentation_solve.l0 k2 l0 a1 a2 (x9_1 ++ [x11_1]) x10_2 (wrap64 (x11_1 + 1)) y183) else (none))) = some (r1, r2) := by first | (rw [hy183]; with_reducible exact H) | (have H2_ := (Option.bind_some _ _).symm.trans H; rw [hy183]; with_reducible exact H2_) | (have H2_ := (Option.bind_some _ _).symm.trans H; with_reducible exact H2_) | with_reducible exact H | (rw [hy183]; exact H) | exact H
    have Ny183 := Aside0.mk hy183
    clear hy183
    by_cases c65 : a2 = true
    ·subst c65
     have H1 : (if 0 < x9_1.length then (if (x9_1.all fun s => decide (0 ≤ s ∧ s < (y183.length : Int) ∧ s < (t178.length : Int))) = true then (if (prn x9_1 y183 t178 x183000_2).length < 17592186044416 then (segmentation_solve.l0 k2 l0 a1 true ((prn x9_1 y183 t178 x183000_2) ++ [x11_1]) x10_2 (wrap64 (x11_1 + 1)) y183) else (none)) else (none)) else (none)) = some (r1, r2) := by rw [if_pos rfl] at H; exact H
     clear H
     by_cases q0 : 0 < x9_1.length
     rotate_left
     ·rw [if_neg q0] at H1
      exact absurd H1 (by simp)
     rw [if_pos q0] at H1
     by_cases q1 : (x9_1.all fun s => decide (0 ≤ s ∧ s < (y183.length : Int) ∧ s < (t178.length : Int))) = true
     rotate_left
     ·rw [if_neg q1] at H1
      exact absurd H1 (by simp)
     rw [if_pos q1] at H1
     obtain ⟨z183, hz183⟩ : ∃ z_ : List Int, z_ = prn x9_1 y183 t178 x183000_2 := ⟨_, rfl⟩
     rw [← hz183] at H1
     by_cases q2 : z183.length < 17592186044416
     rotate_left
     ·rw [if_neg q2] at H1
      exact absurd H1 (by simp)
     rw [if_pos q2] at H1
     obtain ⟨y186, hy186⟩ : ∃ y_ : List Int, y_ = (z183 ++ [x11_1]) := ⟨_, rfl⟩
     rw [← hy186] at H1
     have LMz := Aside0.mk q2
     have Q0 := Aside0.mk q0
     have Q1 := Aside0.mk q1
     have Nz := Aside0.mk hz183
     have Ny186 := Aside0.mk hy186
     have H' := Aside0.mk H1
     clear H1 q0 q1 q2 hz183 hy186
     have hnb67 := NB174_181.out
     have hnc67 := NB181_174.out
     have hnb68 := NB174_182.out
     have hnc68 := NB182_174.out
     have hcz69_0 : wr.cell? ⟨gb174, 0, none⟩ = some (u175000) := (blk_cell BK174.out 0).trans rfl
     have hfz69_0 := blk_frozen BK174.out 0
     have hnb70 := NB182_181.out
     have hnc70 := NB181_182.out
     have hcz71_0 : wr.cell? ⟨gb182, 0, none⟩ = some (.int .i64 x183000_2) := (blk_cell BK182.out 0).trans rfl
     have hcz71_1 : wr.cell? ⟨gb182, 1, none⟩ = some (u183001) := (blk_cell BK182.out 1).trans rfl
     have hfz71_0 := blk_frozen BK182.out 0
     have hfz71_1 := blk_frozen BK182.out 1
     obtain ⟨Ao73, co73, eo73⟩ := Kd.V_slice HO_183001.out
     subst eo73
     go_wp2_with (first | ((with_reducible refine gate_builtin (b := .append) (xs := #[.tmp 80, .tmp 82]) rfl ?_); at_builtin; refine Kd.N_append k74 (w0 := w) w.heap.size rfl (.tmp 80) (.tmp 82) 69 74 (.agg #[(.int .i64 0), (.slice none 0 0)]) 32 rfl Try.underlying69 info74 rfl (by decide) (by omega) u175000 x175000_1 (⟨x183000_2, x183001_2⟩ : S74) [.int .i64 x183000_2, .slice Ao73 x183001_2.length co73] (fun k_ => (w.heap.size ≤ k_) ∧ some k_ ≠ (.slice Ao19 x9_1.length co19 : Value).ownBlock ∧ some k_ ≠ (.slice Ao15 t178.length co15 : Value).ownBlock ∧ k_ ≠ gb174 ∧ k_ ≠ gb181 ∧ k_ ≠ gb182) (fun k_ => ((fun k_ => (w.heap.size ≤ k_) ∧ some k_ ≠ (.slice Ao19 x9_1.length co19 : Value).ownBlock ∧ some k_ ≠ (.slice Ao15 t178.length co15 : Value).ownBlock ∧ k_ ≠ gb174 ∧ k_ ≠ gb181 ∧ k_ ≠ gb182)) k_ ∧ some k_ ≠ (u175000 : Value).ownBlock) rfl rfl ?aP (fun _ hk => hk) ?aF ?aO ?aB ?aS ?aL ?_; (case aP => exact (k74_mkF _ _ (⟨x183000_2, x183001_2⟩ : S74) (Kd.V_reads' (Kd.V_mono (ok' := (fun k_ => ((fun k_ => (w.heap.size ≤ k_) ∧ some k_ ≠ (.slice Ao19 x9_1.length co19 : Value).ownBlock ∧ some k_ ≠ (.slice Ao15 t178.length co15 : Value).ownBlock ∧ k_ ≠ gb174 ∧ k_ ≠ gb181 ∧ k_ ≠ gb182)) k_ ∧ some k_ ≠ (u175000 : Value).ownBlock)) (HO_183001.out) (fun k_ hk => ⟨⟨hk.1, ⟨hk.2.1, ⟨hk.2.2.2.1, ⟨hk.2.2.2.2.1, ⟨hk.2.2.2.2.2.1, hk.2.2.2.2.2.2⟩⟩⟩⟩⟩, hk.2.2.1⟩))).2.1 (Kd.V_F (Kd.V_mono (ok' := (fun k_ => ((fun k_ => (w.heap.size ≤ k_) ∧ some k_ ≠ (.slice Ao19 x9_1.length co19 : Value).ownBlock ∧ some k_ ≠ (.slice Ao15 t178.length co15 : Value).ownBlock ∧ k_ ≠ gb174 ∧ k_ ≠ gb181 ∧ k_ ≠ gb182)) k_ ∧ some k_ ≠ (u175000 : Value).ownBlock)) (HO_183001.out) (fun k_ hk => ⟨⟨hk.1, ⟨hk.2.1, ⟨hk.2.2.2.1, ⟨hk.2.2.2.2.1, ⟨hk.2.2.2.2.2.1, hk.2.2.2.2.2.2⟩⟩⟩⟩⟩, hk.2.2.1⟩))))); (case aB => exact qx4_0); (case aF => exact (fun k_ hk => ⟨(Nat.le_trans (below_size qx4_0) hk), Kd.fresh' (Kd.R_lt qx4_5) k_ hk, Kd.fresh' (Kd.R_lt qx4_7) k_ hk, Kd.freshB (g := gb174) (o := .cells #[u175000] 69 (0, 0)) qx4_1 k_ hk, Kd.freshB (g := gb181) (o := .cells #[.slice Ao15 t178.length co15] 24 (0, 0)) qx4_3 k_ hk, Kd.freshB (g := gb182) (o := .cells #[.int .i64 x183000_2, .slice Ao73 x183001_2.length co73] 74 (0, 0)) qx4_4 k_ hk⟩)); (case aO => exact qx4_8); (case aS => exact (below_size qx4_0)); (case aL => have := LMc64.out; omega); intro v184 w72 ho hb hg hat; rw [← Ny183.out] at ho; have n0_ := Aside0.mk (Kd.R_over' qx4_5 (Kd.N_typed qx4_8) (by decide) hg); have n1_ := Aside0.mk (Kd.R_over' qx4_7 (Kd.N_typed qx4_8) (by decide) hg); have n2_ := Aside0.mk (Kd.V_afterv (ok := (fun k_ => (w.heap.size ≤ k_) ∧ some k_ ≠ (.slice Ao19 x9_1.length co19 : Value).ownBlock ∧ some k_ ≠ (.slice Ao15 t178.length co15 : Value).ownBlock ∧ k_ ≠ gb174 ∧ k_ ≠ gb181 ∧ k_ ≠ gb182)) (by (with_reducible repeat (first | apply Kd.V_alloc | apply Kd.V_drewN | apply Kd.V_drew)); exact Kd.V_mono HO_183001.out (fun _ hk => ⟨⟨hk.1, ⟨hk.2.1, ⟨hk.2.2.2.1, ⟨hk.2.2.2.2.1, ⟨hk.2.2.2.2.2.1, hk.2.2.2.2.2.2⟩⟩⟩⟩⟩, hk.2.2.1⟩)) hg hat); have n3_ := Aside0.mk (blk_grown (g := gb174) (o := .cells #[u175000] 69 (0, 0)) qx4_1 hg (Kd.N_ne HO_175000.out BK174.out (by decide))); have n4_ := Aside0.mk (blk_grown (g := gb181) (o := .cells #[.slice Ao15 t178.length co15] 24 (0, 0)) qx4_3 hg (Kd.N_ne HO_175000.out BK181.out (by decide))); have n5_ := Aside0.mk (blk_grown (g := gb182) (o := .cells #[.int .i64 x183000_2, .slice Ao73 x183001_2.length co73] 74 (0, 0)) qx4_4 hg (Kd.N_away HO_175000.out (fun _ hk => hk.2.2.2.2.2))); have n6_ := Aside0.mk (hb); have n7_ := Aside0.mk (ho); clear HO_9; clear HO_182000; clear HO_183001; clear BK174; clear BK181; clear BK182; clear HB; clear HO_175000; have HO_9 := n0_; have HO_182000 := n1_; have HO_183001 := n2_; have BK174 := n3_; have BK181 := n4_; have BK182 := n5_; have HB := n6_; have HO185 := n7_; clear n0_ n1_ n2_ n3_ n4_ n5_ n6_ n7_; clear ho hb hg hat; obtain ⟨Ao74, co74, eo74⟩ := Kd.N_slice HO185.out; subst eo74; have hcz75_0 : w72.cell? ⟨gb174, 0, none⟩ = some (u175000) := (blk_cell BK174.out 0).trans rfl; have hfz75_0 := blk_frozen BK174.out 0) | (go_at_call 49; have hNq := Kd.N_far (p := ⟨gb174, 0, none⟩) (Kd.N_mono HO185.out (fun k_ hk => (⟨hk, hk.2.2.2.1⟩ : _ ∧ k_ ≠ gb174))) (fun _ hk => hk.2) (.slice Ao74 y183.length co74); have hRq := Kd.R_far (p := ⟨gb174, 0, none⟩) (Kd.R_types HO_182000.out BK174.out (by decide)) (fun _ hk => hk.2) (.slice Ao74 y183.length co74); have l1q : (0 : Int) < (y183.length : Int) := (by rw [Ny183.out, List.length_append, List.length_singleton]; omega); have l2q : (0 : Int) < (t178.length : Int) := (by obtain ⟨s_, hs_⟩ := List.exists_mem_of_length_pos Q0.out; have := of_decide_eq_true (List.all_eq_true.1 Q1.out s_ hs_); omega); obtain ⟨ad1, Aq0, cq0, ea1, _, _⟩ := at_T74 (Kd.N_reads' hNq).2.2 0 (Int.le_refl 0) l1q; obtain ⟨ad2, ea2, _⟩ := Kd.at_int (Kd.R_reads' hRq).2.2 0 (Int.le_refl 0) l2q; have eq74 : Ao74 = some ad1 := ea1; have eq15 : Ao15 = some ad2 := ea2; refine (prune_calls (fun k_ => (w.heap.size ≤ k_) ∧ some k_ ≠ (.slice Ao15 t178.length co15 : Value).ownBlock) (.slice Ao19 x9_1.length co19) x9_1 w _ ?B ?O ?ne gb174 gb181 gb182 y183.length co74 t178.length co15 ad1 ad2 x183000_2 (fun s => (rd_T74 y183 s).f0) (fun s => rd t178 s) ?h1 ?h2 ?h3 ?hF ?hQ ?d1 ?d2 ?d3 ?d4 ?d5 ?hl).mono ?_; (case B => exact qx4_0); (case O => exact (by (with_reducible repeat (first | apply Kd.R_alloc | apply Kd.R_drewN | apply Kd.R_drew)); exact Kd.R_mono (Kd.R_far (p := ⟨gb174, 0, none⟩) (Kd.R_types HO_9.out BK174.out (by decide)) (fun _ hk => hk.2) (.slice Ao74 y183.length co74)) (fun _ hk => ⟨hk.1.1, hk.1.2⟩))); (case ne => exact (fun e_ => by have := Q0.out; rw [e_] at this; exact absurd this (Nat.lt_irrefl 0))); (case h1 => have hb_ : (w72.setCell ⟨gb174, 0, none⟩ (.slice Ao74 y183.length co74)).heap[gb174]? = some (.cells #[.slice Ao74 y183.length co74] 69 (0, 0)) := blk_put (cs := #[u175000]) BK174.out 0 _ rfl; rw [← eq74]; exact (blk_cell hb_ 0).trans rfl); (case h2 => have hb_ : (w72.setCell ⟨gb174, 0, none⟩ (.slice Ao74 y183.length co74)).heap[gb181]? = some (.cells #[.slice Ao15 t178.length co15] 24 (0, 0)) := blk_far BK181.out NB181_174.out _; rw [← eq15]; exact (blk_cell hb_ 0).trans rfl); (case h3 => have hb_ : (w72.setCell ⟨gb174, 0, none⟩ (.slice Ao74 y183.length co74)).heap[gb182]? = some (.cells #[.int .i64 x183000_2, .slice Ao73 x183001_2.length co73] 74 (0, 0)) := blk_far BK182.out NB182_174.out _; exact (blk_cell hb_ 0).trans rfl); (case hF => intro s_ h0_ h1_; obtain ⟨ad_, _, _, e_, h_, _⟩ := at_T74 (Kd.N_reads' hNq).2.2 s_ h0_ h1_; rw [eq74] at e_; cases e_; exact h_); (case hQ => intro s_ h0_ h1_; obtain ⟨ad_, e_, h_⟩ := Kd.at_int (Kd.R_reads' hRq).2.2 s_ h0_ h1_; rw [eq15] at e_; cases e_; exact h_); (case d1 => exact (fun k_ hk_ e_ => Kd.R_ne HO_9.out BK174.out (by decide) (by rw [← e_]; exact hk_))); (case d2 => exact (fun k_ hk_ e_ => Kd.R_ne HO_9.out BK181.out (by decide) (by rw [← e_]; exact hk_))); (case d3 => exact (fun k_ hk_ e_ => Kd.R_ne HO_9.out BK182.out (by decide) (by rw [← e_]; exact hk_))); (case d4 => exact (fun k_ hk_ e_ => (HO185.out.1 k_ (by rw [eq74, ← e_]; rfl)).2.1 hk_)); (case d5 => exact (fun k_ hk_ e_ => (HO_182000.out.1 k_ (by rw [eq15, ← e_]; rfl)).2 hk_)); (case hl => exact (fun x_ hx_ => by have := of_decide_eq_true (List.all_eq_true.1 Q1.out x_ hx_); exact this)); clear hNq hRq l1q l2q ea1 ea2; rintro e w76 ⟨v187, rfl, ho1, hb, hg, hat0⟩; have ho : Kd.R (Kd.int .i64) 3 w76 w.heap.size (fun k_ => (w.heap.size ≤ k_) ∧ some k_ ≠ (.slice Ao15 t178.length co15 : Value).ownBlock) v187 z183 := (by rw [Nz.out]; exact ho1); clear ho1; have hat : v187.ownBlock = (.slice Ao19 x9_1.length co19 : Value).ownBlock ∨ ∃ b, v187.ownBlock = some b ∧ (w72.setCell ⟨gb174, 0, none⟩ (.slice Ao74 y183.length co74)).heap.size ≤ b := Or.inl hat0; clear hat0; have n0_ := Aside0.mk (Kd.R_after (ok := (fun k_ => (w.heap.size ≤ k_))) (by (with_reducible repeat (first | apply Kd.R_alloc | apply Kd.R_drewN | apply Kd.R_drew)); exact Kd.R_mono (Kd.R_far (p := ⟨gb174, 0, none⟩) (Kd.R_types HO_182000.out BK174.out (by decide)) (fun _ hk => hk.2) (.slice Ao74 y183.length co74)) (fun _ hk => ⟨hk.1.1, hk.1.2⟩)) hg hat); have n1_ := Aside0.mk (Kd.V_afterv (ok := (fun k_ => (w.heap.size ≤ k_) ∧ some k_ ≠ (.slice Ao15 t178.length co15 : Value).ownBlock ∧ some k_ ≠ (.slice Ao74 y183.length co74 : Value).ownBlock ∧ k_ ≠ gb174 ∧ k_ ≠ gb181 ∧ k_ ≠ gb182)) (by (with_reducible repeat (first | apply Kd.V_alloc | apply Kd.V_drewN | apply Kd.V_drew)); exact Kd.V_mono (Kd.V_far (p := ⟨gb174, 0, none⟩) (Kd.V_mono HO_183001.out (fun k_ hk => (⟨hk, hk.1.2.2.2.1⟩ : _ ∧ k_ ≠ gb174))) (fun _ hk => hk.2) (.slice Ao74 y183.length co74)) (fun _ hk => ⟨⟨hk.1.1.1, ⟨hk.1.1.2.2.1, ⟨hk.1.2, ⟨hk.1.1.2.2.2.1, ⟨hk.1.1.2.2.2.2.1, hk.1.1.2.2.2.2.2⟩⟩⟩⟩⟩, hk.1.1.2.1⟩)) hg hat); have n2_ := Aside0.mk (blk_grown (g := gb174) (o := .cells #[.slice Ao74 y183.length co74] 69 (0, 0)) (by (with_reducible repeat (first | refine blk_drewN ?_ _ | refine blk_drew ?_ | refine blk_alloc ?_ _)); refine blk_put (cs := #[u175000]) ?_ 0 _ rfl; (with_reducible repeat (first | refine blk_drewN ?_ _ | refine blk_drew ?_ | refine blk_alloc ?_ _)); exact BK174.out) hg (Kd.R_ne HO_9.out BK174.out (by decide))); have n3_ := Aside0.mk (blk_grown (g := gb181) (o := .cells #[.slice Ao15 t178.length co15] 24 (0, 0)) (by (with_reducible repeat (first | refine blk_drewN ?_ _ | refine blk_drew ?_ | refine blk_alloc ?_ _)); refine blk_far ?_ NB181_174.out _; (with_reducible repeat (first | refine blk_drewN ?_ _ | refine blk_drew ?_ | refine blk_alloc ?_ _)); exact BK181.out) hg (Kd.R_ne HO_9.out BK181.out (by decide))); have n4_ := Aside0.mk (blk_grown (g := gb182) (o := .cells #[.int .i64 x183000_2, .slice Ao73 x183001_2.length co73] 74 (0, 0)) (by (with_reducible repeat (first | refine blk_drewN ?_ _ | refine blk_drew ?_ | refine blk_alloc ?_ _)); refine blk_far ?_ NB182_174.out _; (with_reducible repeat (first | refine blk_drewN ?_ _ | refine blk_drew ?_ | refine blk_alloc ?_ _)); exact BK182.out) hg (Kd.R_ne HO_9.out BK182.out (by decide))); have n5_ := Aside0.mk (Kd.N_afterv (ok := (fun k_ => (w.heap.size ≤ k_) ∧ some k_ ≠ (.slice Ao15 t178.length co15 : Value).ownBlock ∧ k_ ≠ gb174 ∧ k_ ≠ gb181 ∧ k_ ≠ gb182)) (by (with_reducible repeat (first | apply Kd.N_alloc | apply Kd.N_drewN | apply Kd.N_drew)); exact Kd.N_mono (Kd.N_far (p := ⟨gb174, 0, none⟩) (Kd.N_mono HO185.out (fun k_ hk => (⟨hk, hk.2.2.2.1⟩ : _ ∧ k_ ≠ gb174))) (fun _ hk => hk.2) (.slice Ao74 y183.length co74)) (fun _ hk => ⟨⟨hk.1.1, ⟨hk.1.2.2.1, ⟨hk.1.2.2.2.1, ⟨hk.1.2.2.2.2.1, hk.1.2.2.2.2.2⟩⟩⟩⟩, hk.1.2.1⟩)) hg hat); have n6_ := Aside0.mk (hb); have n7_ := Aside0.mk (ho); clear HO_182000; clear HO_183001; clear BK174; clear BK181; clear BK182; clear HO185; clear HB; clear HO_9; have HO_182000 := n0_; have HO_183001 := n1_; have BK174 := n2_; have BK181 := n3_; have BK182 := n4_; have HO185 := n5_; have HB := n6_; have HO188 := n7_; clear n0_ n1_ n2_ n3_ n4_ n5_ n6_ n7_; clear ho hb hg hat eq74 eq15; obtain ⟨Aoz, coz, eoz⟩ := Kd.R_slice HO188.out; subst eoz) | ((with_reducible refine gate_builtin (b := .append) (xs := #[.tmp 88, .tmp 90]) rfl ?_); at_builtin; refine Kd.R_append (Kd.int .i64) (w0 := w) w.heap.size rfl (.tmp 88) (.tmp 90) 24 3 (.int .i64 0) 8 rfl Try.underlying24 info3 rfl (by decide) (by omega) (.slice Aoz z183.length coz) z183 x11_1 [.int .i64 x11_1] (fun k_ => (w.heap.size ≤ k_)) (fun _ => False) rfl qx4_31 ?aP (fun _ hk => hk.elim) ?aF ?aO ?aB ?aS ?aL ?_; (case aP => exact rfl); (case aB => exact qx4_0); (case aF => exact (fun k_ hk => Nat.le_trans (below_size qx4_0) hk)); (case aO => exact (by (with_reducible repeat (first | apply Kd.R_alloc | apply Kd.R_drewN | apply Kd.R_drew)); exact Kd.R_mono HO188.out (fun _ hk => hk.1))); (case aS => exact (below_size qx4_0)); (case aL => have := LMz.out; omega); intro v189 w78 ho hb hg hat; rw [← Ny186.out] at ho; have n2_ := Aside0.mk (blk_grown (g := gb174) (o := .cells #[.slice Ao74 y183.length co74] 69 (0, 0)) qx4_1 hg (Kd.R_ne HO188.out BK174.out (by decide))); have n5_ := Aside0.mk (Kd.N_afterv (ok := (fun k_ => (w.heap.size ≤ k_) ∧ k_ ≠ gb174)) (by (with_reducible repeat (first | apply Kd.N_alloc | apply Kd.N_drewN | apply Kd.N_drew)); exact Kd.N_mono HO185.out (fun _ hk => ⟨⟨hk.1.1, hk.1.2.2.1⟩, hk.2⟩)) hg hat); have n6_ := Aside0.mk (hb); have n7_ := Aside0.mk (ho); clear BK174; clear HO185; clear HB; clear HO188; have BK174 := n2_; have HO185 := n5_; have HB := n6_; have HO188 := n7_; clear n2_ n5_ n6_ n7_; clear ho hb hg hat))
     go_roundg k2
     case measure => have := HK1.out; have := HK2.out; omega
     case rel => exact ⟨(y186), (x10_2), (wrap64 (x11_1 + 1)), (y183), (.slice Ao74 y183.length co74), qx4_10, qx4_10, H', ⟨by have := HK1.out; have := HK2.out; omega⟩, ⟨by (with_reducible repeat (first | apply Kd.R_alloc | apply Kd.R_drewN | apply Kd.R_drew)); exact HO188.out⟩, ⟨by (with_reducible repeat (first | apply Kd.N_alloc | apply Kd.N_drewN | apply Kd.N_drew)); exact Kd.N_mono HO185.out (fun _ hk => ⟨hk.1.1, ⟨hk.2, hk.1.2⟩⟩)⟩, ⟨qx4_1⟩, ⟨qx4_0⟩⟩
    replace c65 := Bool.eq_false_iff.mpr c65
    subst c65
    have H1 : (if x9_1.length < 17592186044416 then (segmentation_solve.l0 k2 l0 a1 false (x9_1 ++ [x11_1]) x10_2 (wrap64 (x11_1 + 1)) y183) else (none)) = some (r1, r2) := by rw [if_neg (show ¬ (false = true) by decide)] at H; exact H
    clear H
    have H := H1
    clear H1
    by_cases c66 : x9_1.length < 17592186044416
    rotate_left
    ·rw [if_neg c66] at H
     exact absurd H (by simp)
    rw [if_pos c66] at H
    have LMc66 := Aside0.mk c66
    clear c66
    obtain ⟨y186, hy186⟩ : ∃ y_ : List Int, y_ = (x9_1 ++ [x11_1]) := ⟨_, rfl⟩
    replace H : (segmentation_solve.l0 k2 l0 a1 false y186 x10_2 (wrap64 (x11_1 + 1)) y183) = some (r1, r2) := by first | (rw [hy186]; with_reducible exact H) | (have H2_ := (Option.bind_some _ _).symm.trans H; rw [hy186]; with_reducible exact H2_) | (have H2_ := (Option.bind_some _ _).symm.trans H; with_reducible exact H2_) | with_reducible exact H | (rw [hy186]; exact H) | exact H
    have Ny186 := Aside0.mk hy186
    clear hy186
    have H' := Aside0.mk H
    clear H
    have hnb67 := NB174_181.out
    have hnc67 := NB181_174.out
    have hnb68 := NB174_182.out
    have hnc68 := NB182_174.out
    have hcz69_0 : wr.cell? ⟨gb174, 0, none⟩ = some (u175000) := (blk_cell BK174.out 0).trans rfl
    have hfz69_0 := blk_frozen BK174.out 0
    have hnb70 := NB182_181.out
    have hnc70 := NB181_182.out
    have hcz71_0 : wr.cell? ⟨gb182, 0, none⟩ = some (.int .i64 x183000_2) := (blk_cell BK182.out 0).trans rfl
    have hcz71_1 : wr.cell? ⟨gb182, 1, none⟩ = some (u183001) := (blk_cell BK182.out 1).trans rfl
    have hfz71_0 := blk_frozen BK182.out 0
    have hfz71_1 := blk_frozen BK182.out 1
    obtain ⟨Ao73, co73, eo73⟩ := Kd.V_slice HO_183001.out
    subst eo73
    go_wp2_with (first | ((with_reducible refine gate_builtin (b := .append) (xs := #[.tmp 80, .tmp 82]) rfl ?_); at_builtin; refine Kd.N_append k74 (w0 := w) w.heap.size rfl (.tmp 80) (.tmp 82) 69 74 (.agg #[(.int .i64 0), (.slice none 0 0)]) 32 rfl Try.underlying69 info74 rfl (by decide) (by omega) u175000 x175000_1 (⟨x183000_2, x183001_2⟩ : S74) [.int .i64 x183000_2, .slice Ao73 x183001_2.length co73] (fun k_ => (w.heap.size ≤ k_) ∧ some k_ ≠ (.slice Ao19 x9_1.length co19 : Value).ownBlock ∧ some k_ ≠ (.slice Ao15 t178.length co15 : Value).ownBlock ∧ k_ ≠ gb174 ∧ k_ ≠ gb181 ∧ k_ ≠ gb182) (fun k_ => ((fun k_ => (w.heap.size ≤ k_) ∧ some k_ ≠ (.slice Ao19 x9_1.length co19 : Value).ownBlock ∧ some k_ ≠ (.slice Ao15 t178.length co15 : Value).ownBlock ∧ k_ ≠ gb174 ∧ k_ ≠ gb181 ∧ k_ ≠ gb182)) k_ ∧ some k_ ≠ (u175000 : Value).ownBlock) rfl rfl ?aP (fun _ hk => hk) ?aF ?aO ?aB ?aS ?aL ?_; (case aP => exact (k74_mkF _ _ (⟨x183000_2, x183001_2⟩ : S74) (Kd.V_reads' (Kd.V_mono (ok' := (fun k_ => ((fun k_ => (w.heap.size ≤ k_) ∧ some k_ ≠ (.slice Ao19 x9_1.length co19 : Value).ownBlock ∧ some k_ ≠ (.slice Ao15 t178.length co15 : Value).ownBlock ∧ k_ ≠ gb174 ∧ k_ ≠ gb181 ∧ k_ ≠ gb182)) k_ ∧ some k_ ≠ (u175000 : Value).ownBlock)) (HO_183001.out) (fun k_ hk => ⟨⟨hk.1, ⟨hk.2.1, ⟨hk.2.2.2.1, ⟨hk.2.2.2.2.1, ⟨hk.2.2.2.2.2.1, hk.2.2.2.2.2.2⟩⟩⟩⟩⟩, hk.2.2.1⟩))).2.1 (Kd.V_F (Kd.V_mono (ok' := (fun k_ => ((fun k_ => (w.heap.size ≤ k_) ∧ some k_ ≠ (.slice Ao19 x9_1.length co19 : Value).ownBlock ∧ some k_ ≠ (.slice Ao15 t178.length co15 : Value).ownBlock ∧ k_ ≠ gb174 ∧ k_ ≠ gb181 ∧ k_ ≠ gb182)) k_ ∧ some k_ ≠ (u175000 : Value).ownBlock)) (HO_183001.out) (fun k_ hk => ⟨⟨hk.1, ⟨hk.2.1, ⟨hk.2.2.2.1, ⟨hk.2.2.2.2.1, ⟨hk.2.2.2.2.2.1, hk.2.2.2.2.2.2⟩⟩⟩⟩⟩, hk.2.2.1⟩))))); (case aB => exact qx4_0); (case aF => exact (fun k_ hk => ⟨(Nat.le_trans (below_size qx4_0) hk), Kd.fresh' (Kd.R_lt qx4_5) k_ hk, Kd.fresh' (Kd.R_lt qx4_7) k_ hk, Kd.freshB (g := gb174) (o := .cells #[u175000] 69 (0, 0)) qx4_1 k_ hk, Kd.freshB (g := gb181) (o := .cells #[.slice Ao15 t178.length co15] 24 (0, 0)) qx4_3 k_ hk, Kd.freshB (g := gb182) (o := .cells #[.int .i64 x183000_2, .slice Ao73 x183001_2.length co73] 74 (0, 0)) qx4_4 k_ hk⟩)); (case aO => exact qx4_8); (case aS => exact (below_size qx4_0)); (case aL => have := LMc64.out; omega); intro v184 w72 ho hb hg hat; rw [← Ny183.out] at ho; have n0_ := Aside0.mk (Kd.R_over' qx4_5 (Kd.N_typed qx4_8) (by decide) hg); have n1_ := Aside0.mk (Kd.R_over' qx4_7 (Kd.N_typed qx4_8) (by decide) hg); have n2_ := Aside0.mk (Kd.V_afterv (ok := (fun k_ => (w.heap.size ≤ k_) ∧ some k_ ≠ (.slice Ao19 x9_1.length co19 : Value).ownBlock ∧ some k_ ≠ (.slice Ao15 t178.length co15 : Value).ownBlock ∧ k_ ≠ gb174 ∧ k_ ≠ gb181 ∧ k_ ≠ gb182)) (by (with_reducible repeat (first | apply Kd.V_alloc | apply Kd.V_drewN | apply Kd.V_drew)); exact Kd.V_mono HO_183001.out (fun _ hk => ⟨⟨hk.1, ⟨hk.2.1, ⟨hk.2.2.2.1, ⟨hk.2.2.2.2.1, ⟨hk.2.2.2.2.2.1, hk.2.2.2.2.2.2⟩⟩⟩⟩⟩, hk.2.2.1⟩)) hg hat); have n3_ := Aside0.mk (blk_grown (g := gb174) (o := .cells #[u175000] 69 (0, 0)) qx4_1 hg (Kd.N_ne HO_175000.out BK174.out (by decide))); have n4_ := Aside0.mk (blk_grown (g := gb181) (o := .cells #[.slice Ao15 t178.length co15] 24 (0, 0)) qx4_3 hg (Kd.N_ne HO_175000.out BK181.out (by decide))); have n5_ := Aside0.mk (blk_grown (g := gb182) (o := .cells #[.int .i64 x183000_2, .slice Ao73 x183001_2.length co73] 74 (0, 0)) qx4_4 hg (Kd.N_away HO_175000.out (fun _ hk => hk.2.2.2.2.2))); have n6_ := Aside0.mk (hb); have n7_ := Aside0.mk (ho); clear HO_9; clear HO_182000; clear HO_183001; clear BK174; clear BK181; clear BK182; clear HB; clear HO_175000; have HO_9 := n0_; have HO_182000 := n1_; have HO_183001 := n2_; have BK174 := n3_; have BK181 := n4_; have BK182 := n5_; have HB := n6_; have HO185 := n7_; clear n0_ n1_ n2_ n3_ n4_ n5_ n6_ n7_; clear ho hb hg hat; obtain ⟨Ao74, co74, eo74⟩ := Kd.N_slice HO185.out; subst eo74; have hcz75_0 : w72.cell? ⟨gb174, 0, none⟩ = some (u175000) := (blk_cell BK174.out 0).trans rfl; have hfz75_0 := blk_frozen BK174.out 0) | ((with_reducible refine gate_builtin (b := .append) (xs := #[.tmp 88, .tmp 90]) rfl ?_); at_builtin; refine Kd.R_append (Kd.int .i64) (w0 := w) w.heap.size rfl (.tmp 88) (.tmp 90) 24 3 (.int .i64 0) 8 rfl Try.underlying24 info3 rfl (by decide) (by omega) (.slice Ao19 x9_1.length co19) x9_1 x11_1 [.int .i64 x11_1] (fun k_ => (w.heap.size ≤ k_) ∧ some k_ ≠ (.slice Ao15 t178.length co15 : Value).ownBlock) (fun _ => False) rfl qx4_31 ?aP (fun _ hk => hk.elim) ?aF ?aO ?aB ?aS ?aL ?_; (case aP => exact rfl); (case aB => exact qx4_0); (case aF => exact (fun k_ hk => ⟨(Nat.le_trans (below_size qx4_0) hk), Kd.fresh' (Kd.R_lt (by (with_reducible repeat (first | apply Kd.R_alloc | apply Kd.R_drewN | apply Kd.R_drew)); exact (Kd.R_mono (Kd.R_far (p := ⟨gb174, 0, none⟩) (Kd.R_types HO_182000.out BK174.out (by decide)) (fun _ hk => hk.2) (.slice Ao74 y183.length co74)) (fun _ h_ => h_.1)))) k_ hk⟩)); (case aO => exact (by (with_reducible repeat (first | apply Kd.R_alloc | apply Kd.R_drewN | apply Kd.R_drew)); exact Kd.R_mono (Kd.R_far (p := ⟨gb174, 0, none⟩) (Kd.R_types HO_9.out BK174.out (by decide)) (fun _ hk => hk.2) (.slice Ao74 y183.length co74)) (fun _ hk => ⟨hk.1.1, hk.1.2⟩))); (case aS => exact (below_size qx4_0)); (case aL => have := LMc66.out; omega); intro v187 w76 ho hb hg hat; rw [← Ny186.out] at ho; have n0_ := Aside0.mk (Kd.R_after (ok := (fun k_ => (w.heap.size ≤ k_))) (by (with_reducible repeat (first | apply Kd.R_alloc | apply Kd.R_drewN | apply Kd.R_drew)); exact Kd.R_mono (Kd.R_far (p := ⟨gb174, 0, none⟩) (Kd.R_types HO_182000.out BK174.out (by decide)) (fun _ hk => hk.2) (.slice Ao74 y183.length co74)) (fun _ hk => ⟨hk.1.1, hk.1.2⟩)) hg hat); have n1_ := Aside0.mk (Kd.V_afterv (ok := (fun k_ => (w.heap.size ≤ k_) ∧ some k_ ≠ (.slice Ao15 t178.length co15 : Value).ownBlock ∧ some k_ ≠ (.slice Ao74 y183.length co74 : Value).ownBlock ∧ k_ ≠ gb174 ∧ k_ ≠ gb181 ∧ k_ ≠ gb182)) (by (with_reducible repeat (first | apply Kd.V_alloc | apply Kd.V_drewN | apply Kd.V_drew)); exact Kd.V_mono (Kd.V_far (p := ⟨gb174, 0, none⟩) (Kd.V_mono HO_183001.out (fun k_ hk => (⟨hk, hk.1.2.2.2.1⟩ : _ ∧ k_ ≠ gb174))) (fun _ hk => hk.2) (.slice Ao74 y183.length co74)) (fun _ hk => ⟨⟨hk.1.1.1, ⟨hk.1.1.2.2.1, ⟨hk.1.2, ⟨hk.1.1.2.2.2.1, ⟨hk.1.1.2.2.2.2.1, hk.1.1.2.2.2.2.2⟩⟩⟩⟩⟩, hk.1.1.2.1⟩)) hg hat); have n2_ := Aside0.mk (blk_grown (g := gb174) (o := .cells #[.slice Ao74 y183.length co74] 69 (0, 0)) (by (with_reducible repeat (first | refine blk_drewN ?_ _ | refine blk_drew ?_ | refine blk_alloc ?_ _)); refine blk_put (cs := #[u175000]) ?_ 0 _ rfl; (with_reducible repeat (first | refine blk_drewN ?_ _ | refine blk_drew ?_ | refine blk_alloc ?_ _)); exact BK174.out) hg (Kd.R_ne HO_9.out BK174.out (by decide))); have n3_ := Aside0.mk (blk_grown (g := gb181) (o := .cells #[.slice Ao15 t178.length co15] 24 (0, 0)) (by (with_reducible repeat (first | refine blk_drewN ?_ _ | refine blk_drew ?_ | refine blk_alloc ?_ _)); refine blk_far ?_ NB181_174.out _; (with_reducible repeat (first | refine blk_drewN ?_ _ | refine blk_drew ?_ | refine blk_alloc ?_ _)); exact BK181.out) hg (Kd.R_ne HO_9.out BK181.out (by decide))); have n4_ := Aside0.mk (blk_grown (g := gb182) (o := .cells #[.int .i64 x183000_2, .slice Ao73 x183001_2.length co73] 74 (0, 0)) (by (with_reducible repeat (first | refine blk_drewN ?_ _ | refine blk_drew ?_ | refine blk_alloc ?_ _)); refine blk_far ?_ NB182_174.out _; (with_reducible repeat (first | refine blk_drewN ?_ _ | refine blk_drew ?_ | refine blk_alloc ?_ _)); exact BK182.out) hg (Kd.R_ne HO_9.out BK182.out (by decide))); have n5_ := Aside0.mk (Kd.N_afterv (ok := (fun k_ => (w.heap.size ≤ k_) ∧ some k_ ≠ (.slice Ao15 t178.length co15 : Value).ownBlock ∧ k_ ≠ gb174 ∧ k_ ≠ gb181 ∧ k_ ≠ gb182)) (by (with_reducible repeat (first | apply Kd.N_alloc | apply Kd.N_drewN | apply Kd.N_drew)); exact Kd.N_mono (Kd.N_far (p := ⟨gb174, 0, none⟩) (Kd.N_mono HO185.out (fun k_ hk => (⟨hk, hk.2.2.2.1⟩ : _ ∧ k_ ≠ gb174))) (fun _ hk => hk.2) (.slice Ao74 y183.length co74)) (fun _ hk => ⟨⟨hk.1.1, ⟨hk.1.2.2.1, ⟨hk.1.2.2.2.1, ⟨hk.1.2.2.2.2.1, hk.1.2.2.2.2.2⟩⟩⟩⟩, hk.1.2.1⟩)) hg hat); have n6_ := Aside0.mk (hb); have n7_ := Aside0.mk (ho); clear HO_182000; clear HO_183001; clear BK174; clear BK181; clear BK182; clear HO185; clear HB; clear HO_9; have HO_182000 := n0_; have HO_183001 := n1_; have BK174 := n2_; have BK181 := n3_; have BK182 := n4_; have HO185 := n5_; have HB := n6_; have HO188 := n7_; clear n0_ n1_ n2_ n3_ n4_ n5_ n6_ n7_; clear ho hb hg hat))
    go_roundg k2
    case measure => have := HK1.out; have := HK2.out; omega
    case rel => exact ⟨(y186), (x10_2), (wrap64 (x11_1 + 1)), (y183), (.slice Ao74 y183.length co74), qx4_10, qx4_10, H', ⟨by have := HK1.out; have := HK2.out; omega⟩, ⟨by (with_reducible repeat (first | apply Kd.R_alloc | apply Kd.R_drewN | apply Kd.R_drew)); exact Kd.R_mono HO188.out (fun _ hk => hk.1)⟩, ⟨by (with_reducible repeat (first | apply Kd.N_alloc | apply Kd.N_drewN | apply Kd.N_drew)); exact Kd.N_mono HO185.out (fun _ hk => ⟨hk.1.1, ⟨hk.2, hk.1.2.2.1⟩⟩)⟩, ⟨qx4_1⟩, ⟨qx4_0⟩⟩
   rw [if_pos c20] at H
   have c20b0 : decide (x33_2 < (x9_1.length : Int)) = true := decide_eq_true c20
   clear c20
   by_cases c21 : 0 ≤ x33_2
   rotate_left
   ·rw [if_neg c21] at H
    exact absurd H (by simp)
   rw [if_pos c21] at H
   have c21b0 : decide (0 ≤ x33_2) = true := decide_eq_true c21
   clear c21
   by_cases c22 : x33_2 < (x9_1.length : Int)
   rotate_left
   ·rw [if_neg c22] at H
    exact absurd H (by simp)
   rw [if_pos c22] at H
   have c22b0 : decide (x33_2 < (x9_1.length : Int)) = true := decide_eq_true c22
   clear c22
   have HC23 := Aside0.mk H
   clear H
   have p189 : 0 ≤ (x33_2 : Int) := of_decide_eq_true qx4_15
   have q189 : x33_2 < (x9_1.length : Int) := of_decide_eq_true qx4_15
   obtain ⟨ad189, e189, hx189_0⟩ := Kd.at_int (Kd.R_reads' HO_9.out).2.2 x33_2 p189 q189
   cases e189
   replace p189 := eq_true p189
   replace q189 := eq_true q189
   go_upto_region 13 with (fail)
   go_cut [58] (fun v58 wc => ∃ (kq : Nat) (x58_22 : Bool), v58 = .bool x58_22 ∧ Aside0 (segmentation_solve.j2 kq l0 a1 a2 x9_1 (wrap64 (x10_2 + 1)) x11_1 x33_2 (rd x9_1 x33_2) (x9_1.length : Int) x33_2 x58_22 x175000_1 t178 x183000_2 x183001_2 = some (r1, r2)) ∧ Aside0 (kq ≤ k2) ∧ Aside0 (Kd.R (Kd.int .i64) 3 wc w.heap.size (fun k_ => (w.heap.size ≤ k_) ∧ some k_ ≠ ((.slice Ao15 t178.length co15) : Value).ownBlock) (.slice (some ad189) x9_1.length co19) x9_1) ∧ Aside0 (Kd.N k74 74 wc w.heap.size (fun k_ => (w.heap.size ≤ k_) ∧ some k_ ≠ ((.slice (some ad189) x9_1.length co19) : Value).ownBlock ∧ some k_ ≠ ((.slice Ao15 t178.length co15) : Value).ownBlock ∧ k_ ≠ gb174 ∧ k_ ≠ gb181 ∧ k_ ≠ gb182) u175000 x175000_1) ∧ Aside0 (Kd.R (Kd.int .i64) 3 wc w.heap.size (fun k_ => (w.heap.size ≤ k_) ∧ some k_ ≠ ((.slice (some ad189) x9_1.length co19) : Value).ownBlock) (.slice Ao15 t178.length co15) t178) ∧ Aside0 (Kd.V (Kd.int .i64) 3 wc w.heap.size (fun k_ => (w.heap.size ≤ k_) ∧ some k_ ≠ ((.slice (some ad189) x9_1.length co19) : Value).ownBlock ∧ some k_ ≠ (u175000 : Value).ownBlock ∧ some k_ ≠ ((.slice Ao15 t178.length co15) : Value).ownBlock ∧ k_ ≠ gb174 ∧ k_ ≠ gb181 ∧ k_ ≠ gb182) u183001 x183001_2) ∧ Aside0 (wc.heap[gb174]? = some (.cells #[u175000] 69 (0, 0))) ∧ Aside0 (wc.heap[gb181]? = some (.cells #[(.slice Ao15 t178.length co15)] 24 (0, 0))) ∧ Aside0 (wc.heap[gb182]? = some (.cells #[.int .i64 x183000_2, u183001] 74 (0, 0))) ∧ Aside0 (Below w.heap.size w wc))
   case first =>
    have H := HC23.out
    clear HC23
    by_cases c24 : x33_2 > 0
    rotate_left
    ·rw [if_neg c24] at H
     have c24b0 : decide (0 < x33_2) = false := decide_eq_false c24
     clear c24
     (first | rw [c24b0] | (simp only [i64_w, i32_w]; rw [c24b0]) | skip)
     have H' := Aside0.mk H
     clear H
     try go_wp2
     have n0_ := Aside0.mk (Kd.R_drew HO_9.out)
     have n1_ := Aside0.mk (Kd.N_drew HO_175000.out)
     have n2_ := Aside0.mk (Kd.R_drew HO_182000.out)
     have n3_ := Aside0.mk (Kd.V_drew HO_183001.out)
     have n4_ := Aside0.mk (blk_drew BK174.out)
     have n5_ := Aside0.mk (blk_drew BK181.out)
     have n6_ := Aside0.mk (blk_drew BK182.out)
     have n7_ := Aside0.mk (below_drew1 HB.out)
     clear HO_9
     clear HO_175000
     clear HO_182000
     clear HO_183001
     clear BK174
     clear BK181
     clear BK182
     clear HB
     have HO_9 := n0_
     have HO_175000 := n1_
     have HO_182000 := n2_
     have HO_183001 := n3_
     have BK174 := n4_
     have BK181 := n5_
     have BK182 := n6_
     have HB := n7_
     clear n0_ n1_ n2_ n3_ n4_ n5_ n6_ n7_
     refine start_ (n := 19) (S := fun w' => True) (ds := []) #[F4, F4, F4, F4, F4, F4, F4, F4, F4, F4, F4, F4, F4, F4, F4, F4, F4, F4, F4] (by kernel_rfl) rfl rfl trivial (fun hHeld => ?_); refine with_tabW segmentation_solve.tab13 segmentation_solve.bits13 (fun HT_ HW_ => ?_)
     generalize wr.drew = w30 at HO_9 HO_175000 HO_182000 HO_183001 BK174 BK181 BK182 HB hHeld ⊢
     refine pure_ (i := 0) (N := some 40) (v := ?_) (a' := ?_) #[T4, F4, F4, F4, F4, F4, F4, F4, F4, F4, F4, F4, F4, F4, F4, F4, F4, F4, F4] rfl rfl (any_of HT_.out (by kernel_rfl)) (fun _ _ _ h => h) (Or.inl ⟨by rfl, ?_⟩) ?_ ?_
     rotate_left
     ·intro w'
      go_simp
      with_reducible rfl
     rotate_left
     ·simp only [Act.put, List.setIfInBounds_toArray, List.set_cons_zero, List.set_cons_succ, i64_w, i32_w]
      rfl
     refine pure_ (i := 1) (N := some 41) (v := ?_) (a' := ?_) #[T4, T4, F4, F4, F4, F4, F4, F4, F4, F4, F4, F4, F4, F4, F4, F4, F4, F4, F4] rfl rfl (any_of HT_.out (by kernel_rfl)) (fun _ _ _ h => h) (Or.inl ⟨by rfl, ?_⟩) ?_ ?_
     rotate_left
     ·intro w'
      go_simp
      with_reducible rfl
     rotate_left
     ·simp only [Act.put, List.setIfInBounds_toArray, List.set_cons_zero, List.set_cons_succ, i64_w, i32_w]
      rfl
     refine pure_ (i := 2) (N := some 42) (v := ?_) (a' := ?_) #[T4, T4, T4, F4, F4, F4, F4, F4, F4, F4, F4, F4, F4, F4, F4, F4, F4, F4, F4] rfl rfl (any_of HT_.out (by kernel_rfl)) (fun _ _ _ h => h) (Or.inl ⟨by rfl, ?_⟩) ?_ ?_
     rotate_left
     ·intro w'
      go_simp
      with_reducible rfl
     rotate_left
     ·simp only [Act.put, List.setIfInBounds_toArray, List.set_cons_zero, List.set_cons_succ, i64_w, i32_w]
      rfl
     refine pure_ (i := 3) (N := some 43) (v := undef) (a' := ?_) #[T4, T4, T4, T4, F4, F4, F4, F4, F4, F4, F4, F4, F4, F4, F4, F4, F4, F4, F4] rfl rfl (any_of HT_.out (by kernel_rfl)) (fun _ _ _ h => h) (Or.inr ⟨by rfl, rfl⟩) ?_ ?_
     rotate_left
     ·simp only [Act.put, List.setIfInBounds_toArray, List.set_cons_zero, List.set_cons_succ, i64_w, i32_w]
      rfl
     refine pure_ (i := 4) (N := some 44) (v := undef) (a' := ?_) #[T4, T4, T4, T4, T4, F4, F4, F4, F4, F4, F4, F4, F4, F4, F4, F4, F4, F4, F4] rfl rfl (any_of HT_.out (by kernel_rfl)) (fun _ _ _ h => h) (Or.inr ⟨by rfl, rfl⟩) ?_ ?_
     rotate_left
     ·simp only [Act.put, List.setIfInBounds_toArray, List.set_cons_zero, List.set_cons_succ, i64_w, i32_w]
      rfl
     refine pure_ (i := 5) (N := some 45) (v := undef) (a' := ?_) #[T4, T4, T4, T4, T4, T4, F4, F4, F4, F4, F4, F4, F4, F4, F4, F4, F4, F4, F4] rfl rfl (any_of HT_.out (by kernel_rfl)) (fun _ _ _ h => h) (Or.inr ⟨by rfl, rfl⟩) ?_ ?_
     rotate_left
     ·simp only [Act.put, List.setIfInBounds_toArray, List.set_cons_zero, List.set_cons_succ, i64_w, i32_w]
      rfl
     refine pure_ (i := 6) (N := some 46) (v := undef) (a' := ?_) #[T4, T4, T4, T4, T4, T4, T4, F4, F4, F4, F4, F4, F4, F4, F4, F4, F4, F4, F4] rfl rfl (any_of HT_.out (by kernel_rfl)) (fun _ _ _ h => h) (Or.inr ⟨by rfl, rfl⟩) ?_ ?_
     rotate_left
     ·simp only [Act.put, List.setIfInBounds_toArray, List.set_cons_zero, List.set_cons_succ, i64_w, i32_w]
      rfl
     refine pure_ (i := 7) (N := some 47) (v := undef) (a' := ?_) #[T4, T4, T4, T4, T4, T4, T4, T4, F4, F4, F4, F4, F4, F4, F4, F4, F4, F4, F4] rfl rfl (any_of HT_.out (by kernel_rfl)) (fun _ _ _ h => h) (Or.inr ⟨by rfl, rfl⟩) ?_ ?_
     rotate_left
     ·simp only [Act.put, List.setIfInBounds_toArray, List.set_cons_zero, List.set_cons_succ, i64_w, i32_w]
      rfl
     refine pure_ (i := 8) (N := some 48) (v := undef) (a' := ?_) #[T4, T4, T4, T4, T4, T4, T4, T4, T4, F4, F4, F4, F4, F4, F4, F4, F4, F4, F4] rfl rfl (any_of HT_.out (by kernel_rfl)) (fun _ _ _ h => h) (Or.inr ⟨by rfl, rfl⟩) ?_ ?_
     rotate_left
     ·simp only [Act.put, List.setIfInBounds_toArray, List.set_cons_zero, List.set_cons_succ, i64_w, i32_w]
      rfl
     refine pure_ (i := 9) (N := some 49) (v := undef) (a' := ?_) #[T4, T4, T4, T4, T4, T4, T4, T4, T4, T4, F4, F4, F4, F4, F4, F4, F4, F4, F4] rfl rfl (any_of HT_.out (by kernel_rfl)) (fun _ _ _ h => h) (Or.inr ⟨by rfl, rfl⟩) ?_ ?_
     rotate_left
     ·simp only [Act.put, List.setIfInBounds_toArray, List.set_cons_zero, List.set_cons_succ, i64_w, i32_w]
      rfl
     refine pure_ (i := 10) (N := some 50) (v := undef) (a' := ?_) #[T4, T4, T4, T4, T4, T4, T4, T4, T4, T4, T4, F4, F4, F4, F4, F4, F4, F4, F4] rfl rfl (any_of HT_.out (by kernel_rfl)) (fun _ _ _ h => h) (Or.inr ⟨by rfl, rfl⟩) ?_ ?_
     rotate_left
     ·simp only [Act.put, List.setIfInBounds_toArray, List.set_cons_zero, List.set_cons_succ, i64_w, i32_w]
      rfl
     refine pure_ (i := 11) (N := some 51) (v := undef) (a' := ?_) #[T4, T4, T4, T4, T4, T4, T4, T4, T4, T4, T4, T4, F4, F4, F4, F4, F4, F4, F4] rfl rfl (any_of HT_.out (by kernel_rfl)) (fun _ _ _ h => h) (Or.inr ⟨by rfl, rfl⟩) ?_ ?_
     rotate_left
     ·simp only [Act.put, List.setIfInBounds_toArray, List.set_cons_zero, List.set_cons_succ, i64_w, i32_w]
      rfl
     refine pure_ (i := 12) (N := some 52) (v := undef) (a' := ?_) #[T4, T4, T4, T4, T4, T4, T4, T4, T4, T4, T4, T4, T4, F4, F4, F4, F4, F4, F4] rfl rfl (any_of HT_.out (by kernel_rfl)) (fun _ _ _ h => h) (Or.inr ⟨by rfl, rfl⟩) ?_ ?_
     rotate_left
     ·simp only [Act.put, List.setIfInBounds_toArray, List.set_cons_zero, List.set_cons_succ, i64_w, i32_w]
      rfl
     refine pure_ (i := 13) (N := some 53) (v := undef) (a' := ?_) #[T4, T4, T4, T4, T4, T4, T4, T4, T4, T4, T4, T4, T4, T4, F4, F4, F4, F4, F4] rfl rfl (any_of HT_.out (by kernel_rfl)) (fun _ _ _ h => h) (Or.inr ⟨by rfl, rfl⟩) ?_ ?_
     rotate_left
     ·simp only [Act.put, List.setIfInBounds_toArray, List.set_cons_zero, List.set_cons_succ, i64_w, i32_w]
      rfl
     refine pure_ (i := 14) (N := some 54) (v := undef) (a' := ?_) #[T4, T4, T4, T4, T4, T4, T4, T4, T4, T4, T4, T4, T4, T4, T4, F4, F4, F4, F4] rfl rfl (any_of HT_.out (by kernel_rfl)) (fun _ _ _ h => h) (Or.inr ⟨by rfl, rfl⟩) ?_ ?_
     rotate_left
     ·simp only [Act.put, List.setIfInBounds_toArray, List.set_cons_zero, List.set_cons_succ, i64_w, i32_w]
      rfl
     refine pure_ (i := 15) (N := some 55) (v := undef) (a' := ?_) #[T4, T4, T4, T4, T4, T4, T4, T4, T4, T4, T4, T4, T4, T4, T4, T4, F4, F4, F4] rfl rfl (any_of HT_.out (by kernel_rfl)) (fun _ _ _ h => h) (Or.inr ⟨by rfl, rfl⟩) ?_ ?_
     rotate_left
     ·simp only [Act.put, List.setIfInBounds_toArray, List.set_cons_zero, List.set_cons_succ, i64_w, i32_w]
      rfl
     refine pure_ (i := 16) (N := some 56) (v := undef) (a' := ?_) #[T4, T4, T4, T4, T4, T4, T4, T4, T4, T4, T4, T4, T4, T4, T4, T4, T4, F4, F4] rfl rfl (any_of HT_.out (by kernel_rfl)) (fun _ _ _ h => h) (Or.inr ⟨by rfl, rfl⟩) ?_ ?_
     rotate_left
     ·simp only [Act.put, List.setIfInBounds_toArray, List.set_cons_zero, List.set_cons_succ, i64_w, i32_w]
      rfl
     refine pure_ (i := 17) (N := some 57) (v := undef) (a' := ?_) #[T4, T4, T4, T4, T4, T4, T4, T4, T4, T4, T4, T4, T4, T4, T4, T4, T4, T4, F4] rfl rfl (any_of HT_.out (by kernel_rfl)) (fun _ _ _ h => h) (Or.inr ⟨by rfl, rfl⟩) ?_ ?_
     rotate_left
     ·simp only [Act.put, List.setIfInBounds_toArray, List.set_cons_zero, List.set_cons_succ, i64_w, i32_w]
      rfl
     refine pure_ (i := 18) (N := some 58) (v := ?_) (a' := ?_) #[T4, T4, T4, T4, T4, T4, T4, T4, T4, T4, T4, T4, T4, T4, T4, T4, T4, T4, T4] rfl rfl (any_of HT_.out (by kernel_rfl)) (fun _ _ _ h => h) (Or.inl ⟨by rfl, ?_⟩) ?_ ?_
     rotate_left
     ·intro w'
      go_simp
      with_reducible rfl
     rotate_left
     ·simp only [Act.put, List.setIfInBounds_toArray, List.set_cons_zero, List.set_cons_succ, i64_w, i32_w]
      rfl
     refine done_ (done_of HT_.out (by kernel_rfl)) ?_
     try go_wp2
     go_meet
     case rel => exact ⟨_, (false), qx4_10, H', ⟨by have := HK1.out; have := HK2.out; first | omega | exact Nat.le_refl _⟩, ⟨qx4_5⟩, ⟨qx4_8⟩, ⟨qx4_7⟩, ⟨qx4_12⟩, ⟨qx4_1⟩, ⟨qx4_3⟩, ⟨qx4_4⟩, ⟨qx4_0⟩⟩
    rw [if_pos c24] at H
    have c24b0 : decide (0 < x33_2) = true := decide_eq_true c24
    clear c24
    (first | rw [c24b0] | (simp only [i64_w, i32_w]; rw [c24b0]) | skip)
    by_cases c25 : 0 ≤ (rd x9_1 x33_2)
    rotate_left
    ·rw [if_neg c25] at H
     exact absurd H (by simp)
    rw [if_pos c25] at H
    have c25b0 : decide (0 ≤ (rd x9_1 x33_2)) = true := decide_eq_true c25
    clear c25
    by_cases c26 : (rd x9_1 x33_2) < (x175000_1.length : Int)
    rotate_left
    ·rw [if_neg c26] at H
     exact absurd H (by simp)
    rw [if_pos c26] at H
    have c26b0 : decide ((rd x9_1 x33_2) < (x175000_1.length : Int)) = true := decide_eq_true c26
    clear c26
    by_cases c27 : (rd x9_1 x33_2) < (t178.length : Int)
    rotate_left
    ·rw [if_neg c27] at H
     exact absurd H (by simp)
    rw [if_pos c27] at H
    have c27b0 : decide ((rd x9_1 x33_2) < (t178.length : Int)) = true := decide_eq_true c27
    clear c27
    have H' := Aside0.mk H
    clear H
    try go_wp2
    have n0_ := Aside0.mk (Kd.R_drew HO_9.out)
    have n1_ := Aside0.mk (Kd.N_drew HO_175000.out)
    have n2_ := Aside0.mk (Kd.R_drew HO_182000.out)
    have n3_ := Aside0.mk (Kd.V_drew HO_183001.out)
    have n4_ := Aside0.mk (blk_drew BK174.out)
    have n5_ := Aside0.mk (blk_drew BK181.out)
    have n6_ := Aside0.mk (blk_drew BK182.out)
    have n7_ := Aside0.mk (below_drew1 HB.out)
    clear HO_9
    clear HO_175000
    clear HO_182000
    clear HO_183001
    clear BK174
    clear BK181
    clear BK182
    clear HB
    have HO_9 := n0_
    have HO_175000 := n1_
    have HO_182000 := n2_
    have HO_183001 := n3_
    have BK174 := n4_
    have BK181 := n5_
    have BK182 := n6_
    have HB := n7_
    clear n0_ n1_ n2_ n3_ n4_ n5_ n6_ n7_
    obtain ⟨Ao29, co29, eo29⟩ := Kd.N_slice HO_175000.out
    (first | subst eo29 | (injection eo29 with f1_ f2_ f3_; have f4_ := f1_.symm; have f5_ := f3_.symm; clear f1_ f2_ f3_; subst f4_; subst f5_))
    have p190 : 0 ≤ ((rd x9_1 x33_2) : Int) := of_decide_eq_true qx4_15
    have q190 : (rd x9_1 x33_2) < (x175000_1.length : Int) := of_decide_eq_true qx4_15
    obtain ⟨ad190, A190_1, c190_1, e190, hx190_0, hx190_1, hl190_1, hi190_1⟩ := at_T74 (Kd.N_reads' HO_175000.out).2.2 (rd x9_1 x33_2) p190 q190
    cases e190
    obtain ⟨ce190, hce190, hMe190, hcc190⟩ := Kd.N_get HO_175000.out z74 (rd x9_1 x33_2) p190 (by first | exact q190 | exact of_decide_eq_true qx4_15 | (have e_ := (Kd.N_reads' HO_175000.out).1; omega))
    obtain ⟨ua190_1, uc190_1, rfl, ul190_1, ge190_1⟩ := k74_openF hMe190
    have hv190_1 := hcc190 1 _ rfl
    rw [add_field _ _ 1 (by omega)] at hv190_1
    replace hv190_1 := Option.some.inj (hv190_1.symm.trans hx190_1)
    injection hv190_1 with hva_ hvn_ hvc_
    rw [hva_] at ge190_1
    rw [hvc_] at ul190_1
    have HL190_1 := Aside0.mk (show Kd.V (Kd.int .i64) 3 _ w.heap.size _ _ ((rd_T74 x175000_1 (rd x9_1 x33_2)).f1) from Kd.V_mk ul190_1 ge190_1)
    clear hva_ hvn_ hvc_ ge190_1 ul190_1
    clear hcc190 hce190
    have HR190_1 := Aside0.mk hi190_1
    have HC190_1 := Aside0.mk hl190_1
    clear hi190_1 hl190_1
    replace p190 := eq_true p190
    replace q190 := eq_true q190
    have p191 : 0 ≤ ((rd x9_1 x33_2) : Int) := of_decide_eq_true qx4_15
    have q191 : (rd x9_1 x33_2) < (t178.length : Int) := of_decide_eq_true qx4_15
    obtain ⟨ad191, e191, hx191_0⟩ := Kd.at_int (Kd.R_reads' HO_182000.out).2.2 (rd x9_1 x33_2) p191 q191
    cases e191
    replace p191 := eq_true p191
    replace q191 := eq_true q191
    refine start_ (n := 19) (S := fun w' => w'.cell? ⟨gb174, 0, none⟩ = some (.slice (some ad190) x175000_1.length co29) ∧ w'.cell? ⟨gb181, 0, none⟩ = some (.slice (some ad191) t178.length co15) ∧ w'.cell? ⟨gb182, 0, none⟩ = some (.int .i64 x183000_2) ∧ w'.cell? ⟨gb182, 1, none⟩ = some (u183001) ∧ w'.cell? (ad190.add (((rd x9_1 x33_2)).toNat * 2)) = some (.int .i64 ((rd_T74 x175000_1 (rd x9_1 x33_2)).f0)) ∧ w'.cell? ⟨(ad190.add (((rd x9_1 x33_2)).toNat * 2)).block, (ad190.add (((rd x9_1 x33_2)).toNat * 2)).off + 1, none⟩ = some (.slice A190_1 ((rd_T74 x175000_1 (rd x9_1 x33_2)).f1).length c190_1) ∧ w'.cell? (ad191.add ((rd x9_1 x33_2)).toNat) = some (.int .i64 (rd t178 (rd x9_1 x33_2)))) (ds := []) #[F4, F4, F4, F4, F4, F4, F4, F4, F4, F4, F4, F4, F4, F4, F4, F4, F4, F4, F4] (by kernel_rfl) rfl rfl ⟨(blk_cell BK174.out 0).trans rfl, (blk_cell BK181.out 0).trans rfl, (blk_cell BK182.out 0).trans rfl, (blk_cell BK182.out 1).trans rfl, hx190_0, hx190_1, hx191_0⟩ (fun hHeld => ?_); refine with_tabW segmentation_solve.tab13 segmentation_solve.bits13 (fun HT_ HW_ => ?_)
    generalize wr.drew = w28 at HO_9 HO_175000 HO_182000 HO_183001 BK174 BK181 BK182 HB HL190_1 HR190_1 hx190_0 hx190_1 hx191_0 hHeld ⊢
    refine pure_ (i := 0) (N := some 40) (v := ?_) (a' := ?_) #[T4, F4, F4, F4, F4, F4, F4, F4, F4, F4, F4, F4, F4, F4, F4, F4, F4, F4, F4] rfl rfl (any_of HT_.out (by kernel_rfl)) (fun _ _ _ h => h) (Or.inl ⟨by rfl, ?_⟩) ?_ ?_
    rotate_left
    ·intro w'
     go_simp
     with_reducible rfl
    rotate_left
    ·simp only [Act.put, List.setIfInBounds_toArray, List.set_cons_zero, List.set_cons_succ, i64_w, i32_w]
     rfl
    refine pure_ (i := 1) (N := some 41) (v := ?_) (a' := ?_) #[T4, T4, F4, F4, F4, F4, F4, F4, F4, F4, F4, F4, F4, F4, F4, F4, F4, F4, F4] rfl rfl (any_of HT_.out (by kernel_rfl)) (fun _ _ _ h => h) (Or.inl ⟨by rfl, ?_⟩) ?_ ?_
    rotate_left
    ·intro w'
     go_simp
     with_reducible rfl
    rotate_left
    ·simp only [Act.put, List.setIfInBounds_toArray, List.set_cons_zero, List.set_cons_succ, i64_w, i32_w]
     rfl
    refine pure_ (i := 2) (N := some 42) (v := ?_) (a' := ?_) #[T4, T4, T4, F4, F4, F4, F4, F4, F4, F4, F4, F4, F4, F4, F4, F4, F4, F4, F4] rfl rfl (any_of HT_.out (by kernel_rfl)) (fun _ _ _ h => h) (Or.inl ⟨by rfl, ?_⟩) ?_ ?_
    rotate_left
    ·intro w'
     go_simp
     with_reducible rfl
    rotate_left
    ·simp only [Act.put, List.setIfInBounds_toArray, List.set_cons_zero, List.set_cons_succ, i64_w, i32_w]
     rfl
    refine pure_ (i := 4) (N := some 44) (v := ?_) (a' := ?_) #[T4, T4, T4, F4, T4, F4, F4, F4, F4, F4, F4, F4, F4, F4, F4, F4, F4, F4, F4] rfl rfl (any_of HT_.out (by kernel_rfl)) (fun _ _ _ h => h) (Or.inl ⟨by rfl, ?_⟩) ?_ ?_
    rotate_left
    ·intro w'
     go_simp
     with_reducible rfl
    rotate_left
    ·simp only [Act.put, List.setIfInBounds_toArray, List.set_cons_zero, List.set_cons_succ, i64_w, i32_w]
     rfl
    refine pure_ (i := 8) (N := some 48) (v := ?_) (a' := ?_) #[T4, T4, T4, F4, T4, F4, F4, F4, T4, F4, F4, F4, F4, F4, F4, F4, F4, F4, F4] rfl rfl (any_of HT_.out (by kernel_rfl)) (fun _ _ _ h => h) (Or.inl ⟨by rfl, ?_⟩) ?_ ?_
    rotate_left
    ·intro w'
     go_simp
     with_reducible rfl
    rotate_left
    ·simp only [Act.put, List.setIfInBounds_toArray, List.set_cons_zero, List.set_cons_succ, i64_w, i32_w]
     rfl
    refine pure_ (i := 11) (N := some 51) (v := ?_) (a' := ?_) #[T4, T4, T4, F4, T4, F4, F4, F4, T4, F4, F4, T4, F4, F4, F4, F4, F4, F4, F4] rfl rfl (any_of HT_.out (by kernel_rfl)) (fun _ _ _ h => h) (Or.inl ⟨by rfl, ?_⟩) ?_ ?_
    rotate_left
    ·intro w'
     go_simp
     with_reducible rfl
    rotate_left
    ·simp only [Act.put, List.setIfInBounds_toArray, List.set_cons_zero, List.set_cons_succ, i64_w, i32_w]
     rfl
    refine pure_ (i := 15) (N := some 55) (v := ?_) (a' := ?_) #[T4, T4, T4, F4, T4, F4, F4, F4, T4, F4, F4, T4, F4, F4, F4, T4, F4, F4, F4] rfl rfl (any_of HT_.out (by kernel_rfl)) (fun _ _ _ h => h) (Or.inl ⟨by rfl, ?_⟩) ?_ ?_
    rotate_left
    ·intro w'
     go_simp
     with_reducible rfl
    rotate_left
    ·simp only [Act.put, List.setIfInBounds_toArray, List.set_cons_zero, List.set_cons_succ, i64_w, i32_w]
     rfl
    refine take_ (i := 3) (N := some 43) (v := ?_) (a' := ?_) #[T4, T4, T4, T4, T4, F4, F4, F4, T4, F4, F4, T4, F4, F4, F4, T4, F4, F4, F4] rfl rfl (take_ofW HT_.out HW_.out (by kernel_rfl)) (fun _ _ _ h => h) (Or.inl ⟨by rfl, ?_⟩) hHeld ?_ ?_
    rotate_left
    ·rintro w' ⟨s0, s1, s2, s3, s4, s5, s6⟩
     go_simp
     with_reducible rfl
    rotate_left
    ·simp only [Act.put, List.setIfInBounds_toArray, List.set_cons_zero, List.set_cons_succ, i64_w, i32_w]
     rfl
    refine pure_ (i := 5) (N := some 45) (v := ?_) (a' := ?_) #[T4, T4, T4, T4, T4, T4, F4, F4, T4, F4, F4, T4, F4, F4, F4, T4, F4, F4, F4] rfl rfl (any_of HT_.out (by kernel_rfl)) (fun _ _ _ h => h) (Or.inl ⟨by rfl, ?_⟩) ?_ ?_
    rotate_left
    ·intro w'
     go_simp
     with_reducible rfl
    rotate_left
    ·simp only [Act.put, List.setIfInBounds_toArray, List.set_cons_zero, List.set_cons_succ, i64_w, i32_w]
     rfl
    refine pure_ (i := 6) (N := some 46) (v := ?_) (a' := ?_) #[T4, T4, T4, T4, T4, T4, T4, F4, T4, F4, F4, T4, F4, F4, F4, T4, F4, F4, F4] rfl rfl (any_of HT_.out (by kernel_rfl)) (fun _ _ _ h => h) (Or.inl ⟨by rfl, ?_⟩) ?_ ?_
    rotate_left
    ·intro w'
     go_simp
     with_reducible rfl
    rotate_left
    ·simp only [Act.put, List.setIfInBounds_toArray, List.set_cons_zero, List.set_cons_succ, i64_w, i32_w]
     rfl
    refine take_ (i := 7) (N := some 47) (v := ?_) (a' := ?_) #[T4, T4, T4, T4, T4, T4, T4, T4, T4, F4, F4, T4, F4, F4, F4, T4, F4, F4, F4] rfl rfl (take_ofW HT_.out HW_.out (by kernel_rfl)) (fun _ _ _ h => h) (Or.inl ⟨by rfl, ?_⟩) hHeld ?_ ?_
    rotate_left
    ·rintro w' ⟨s0, s1, s2, s3, s4, s5, s6⟩
     go_simp
     with_reducible rfl
    rotate_left
    ·simp only [Act.put, List.setIfInBounds_toArray, List.set_cons_zero, List.set_cons_succ, i64_w, i32_w]
     rfl
    refine pure_ (i := 9) (N := some 49) (v := ?_) (a' := ?_) #[T4, T4, T4, T4, T4, T4, T4, T4, T4, T4, F4, T4, F4, F4, F4, T4, F4, F4, F4] rfl rfl (any_of HT_.out (by kernel_rfl)) (fun _ _ _ h => h) (Or.inl ⟨by rfl, ?_⟩) ?_ ?_
    rotate_left
    ·intro w'
     go_simp
     with_reducible rfl
    rotate_left
    ·simp only [Act.put, List.setIfInBounds_toArray, List.set_cons_zero, List.set_cons_succ, i64_w, i32_w]
     rfl
    refine take_ (i := 10) (N := some 50) (v := ?_) (a' := ?_) #[T4, T4, T4, T4, T4, T4, T4, T4, T4, T4, T4, T4, F4, F4, F4, T4, F4, F4, F4] rfl rfl (take_ofW HT_.out HW_.out (by kernel_rfl)) (fun _ _ _ h => h) (Or.inl ⟨by rfl, ?_⟩) hHeld ?_ ?_
    rotate_left
    ·rintro w' ⟨s0, s1, s2, s3, s4, s5, s6⟩
     go_simp
     with_reducible rfl
    rotate_left
    ·simp only [Act.put, List.setIfInBounds_toArray, List.set_cons_zero, List.set_cons_succ, i64_w, i32_w]
     rfl
    refine pure_ (i := 12) (N := some 52) (v := ?_) (a' := ?_) #[T4, T4, T4, T4, T4, T4, T4, T4, T4, T4, T4, T4, T4, F4, F4, T4, F4, F4, F4] rfl rfl (any_of HT_.out (by kernel_rfl)) (fun _ _ _ h => h) (Or.inl ⟨by rfl, ?_⟩) ?_ ?_
    rotate_left
    ·intro w'
     go_simp
     with_reducible rfl
    rotate_left
    ·simp only [Act.put, List.setIfInBounds_toArray, List.set_cons_zero, List.set_cons_succ, i64_w, i32_w]
     rfl
    refine take_ (i := 13) (N := some 53) (v := ?_) (a' := ?_) #[T4, T4, T4, T4, T4, T4, T4, T4, T4, T4, T4, T4, T4, T4, F4, T4, F4, F4, F4] rfl rfl (take_ofW HT_.out HW_.out (by kernel_rfl)) (fun _ _ _ h => h) (Or.inl ⟨by rfl, ?_⟩) hHeld ?_ ?_
    rotate_left
    ·rintro w' ⟨s0, s1, s2, s3, s4, s5, s6⟩
     go_simp
     with_reducible rfl
    rotate_left
    ·simp only [Act.put, List.setIfInBounds_toArray, List.set_cons_zero, List.set_cons_succ, i64_w, i32_w]
     rfl
    refine pure_ (i := 14) (N := some 54) (v := ?_) (a' := ?_) #[T4, T4, T4, T4, T4, T4, T4, T4, T4, T4, T4, T4, T4, T4, T4, T4, F4, F4, F4] rfl rfl (any_of HT_.out (by kernel_rfl)) (fun _ _ _ h => h) (Or.inl ⟨by rfl, ?_⟩) ?_ ?_
    rotate_left
    ·intro w'
     go_simp
     with_reducible rfl
    rotate_left
    ·simp only [Act.put, List.setIfInBounds_toArray, List.set_cons_zero, List.set_cons_succ, i64_w, i32_w]
     rfl
    refine take_ (i := 16) (N := some 56) (v := ?_) (a' := ?_) #[T4, T4, T4, T4, T4, T4, T4, T4, T4, T4, T4, T4, T4, T4, T4, T4, T4, F4, F4] rfl rfl (take_ofW HT_.out HW_.out (by kernel_rfl)) (fun _ _ _ h => h) (Or.inl ⟨by rfl, ?_⟩) hHeld ?_ ?_
    rotate_left
    ·rintro w' ⟨s0, s1, s2, s3, s4, s5, s6⟩
     go_simp
     with_reducible rfl
    rotate_left
    ·simp only [Act.put, List.setIfInBounds_toArray, List.set_cons_zero, List.set_cons_succ, i64_w, i32_w]
     rfl
    refine pure_ (i := 17) (N := some 57) (v := ?_) (a' := ?_) #[T4, T4, T4, T4, T4, T4, T4, T4, T4, T4, T4, T4, T4, T4, T4, T4, T4, T4, F4] rfl rfl (any_of HT_.out (by kernel_rfl)) (fun _ _ _ h => h) (Or.inl ⟨by rfl, ?_⟩) ?_ ?_
    rotate_left
    ·intro w'
     go_simp
     with_reducible rfl
    rotate_left
    ·simp only [Act.put, List.setIfInBounds_toArray, List.set_cons_zero, List.set_cons_succ, i64_w, i32_w]
     rfl
    refine pure_ (i := 18) (N := some 58) (v := ?_) (a' := ?_) #[T4, T4, T4, T4, T4, T4, T4, T4, T4, T4, T4, T4, T4, T4, T4, T4, T4, T4, T4] rfl rfl (any_of HT_.out (by kernel_rfl)) (fun _ _ _ h => h) (Or.inl ⟨by rfl, ?_⟩) ?_ ?_
    rotate_left
    ·intro w'
     go_simp
     with_reducible rfl
    rotate_left
    ·simp only [Act.put, List.setIfInBounds_toArray, List.set_cons_zero, List.set_cons_succ, i64_w, i32_w]
     rfl
    refine done_ (done_of HT_.out (by kernel_rfl)) ?_
    try go_wp2
    go_meet
    case rel => exact ⟨_, (decide ((wrap64 ((wrap64 (((rd_T74 x175000_1 (rd x9_1 x33_2)).f0) + a1)) + (rd t178 (rd x9_1 x33_2)))) > x183000_2)), qx4_10, H', ⟨by have := HK1.out; have := HK2.out; first | omega | exact Nat.le_refl _⟩, ⟨qx4_5⟩, ⟨qx4_8⟩, ⟨qx4_7⟩, ⟨qx4_12⟩, ⟨qx4_1⟩, ⟨qx4_3⟩, ⟨qx4_4⟩, ⟨qx4_0⟩⟩
   clear HC23
   try clear c1
   try clear p1
   try clear q1
   try clear hx1
   try clear c2
   try clear p2
   try clear c3
   try clear c4
   try clear p6
   try clear c11
   try clear c11b0
   try clear c16
   try clear p18
   try clear q18
   try clear hx18
   try clear c19
   try clear p19
   try clear q19
   try clear hx19
   try clear c20
   try clear c20b0
   try clear c21
   try clear c21b0
   try clear c22
   try clear c22b0
   try clear c24
   try clear c24b0
   try clear c25
   try clear c25b0
   try clear c26
   try clear c26b0
   try clear c27
   try clear c27b0
   try clear hcz17_0
   try clear hcz8_0
   try clear hfz17_0
   try clear hfz8_0
   try clear hx189_0
   try clear hx190_0
   try clear hx190_1
   try clear hx191_0
   try clear p189
   try clear p190
   try clear p191
   try clear p2
   try clear p6
   try clear q189
   try clear q190
   try clear q191
   obtain ⟨kq, x58_22, rfl, HA, HJ22, HO_9, HO_175000, HO_182000, HO_183001, BK174, BK181, BK182, HB⟩ := hcut
   cases kq with
   | zero => exact absurd HA.out (by simp [segmentation_solve.j2])
   | succ kj22 =>
    have H := HA.out
    clear HA
    simp only [segmentation_solve.j2] at H
    by_cases c31 : x58_22 = true
    ·subst c31
     have H1 : (segmentation_solve.l1 kj22 l0 a1 a2 x9_1 (wrap64 (x10_2 + 1)) x11_1 (x9_1.length : Int) (wrap64 (x33_2 + 1)) x175000_1 t178 x183000_2 x183001_2) = some (r1, r2) := by rw [if_pos rfl] at H; exact H
     clear H
     have H := H1
     clear H1
     have H' := Aside0.mk H
     clear H
     go_wp2
     go_roundg kj22
     case measure => have := HK1.out; have := HK2.out; have := HJ22.out; omega
     case rel => exact ⟨((wrap64 (x10_2 + 1))), (wrap64 (x33_2 + 1)), (x183000_2), (x183001_2), (u183001), qx4_10, qx4_10, H', ⟨by have := HK1.out; have := HK2.out; have := HJ22.out; omega⟩, ⟨qx4_5⟩, ⟨qx4_8⟩, ⟨qx4_7⟩, ⟨qx4_12⟩, ⟨qx4_1⟩, ⟨qx4_3⟩, ⟨qx4_4⟩, ⟨qx4_0⟩⟩
    replace c31 := Bool.eq_false_iff.mpr c31
    subst c31
    have H1 : (if 0 ≤ (rd x9_1 x33_2) then (if (rd x9_1 x33_2) < (x175000_1.length : Int) then (if (rd x9_1 x33_2) < (t178.length : Int) then ((segmentation_best_after.f ((rd_T74 x175000_1 (rd x9_1 x33_2)).f0) ((rd_T74 x175000_1 (rd x9_1 x33_2)).f1) (rd x9_1 x33_2) (wrap64 (a1 + (rd t178 (rd x9_1 x33_2))))).bind fun bt194 => (if x33_2 = 0 then (segmentation_solve.j3 kj22 l0 a1 a2 x9_1 (wrap64 (x10_2 + 1)) x11_1 (x9_1.length : Int) x33_2 true x175000_1 t178 x183000_2 x183001_2 bt194.1 bt194.2) else ((segmentation_best_better.f kj22 bt194.1 bt194.2 x183000_2 x183001_2).bind fun t199 => (segmentation_solve.j3 kj22 l0 a1 a2 x9_1 (wrap64 (x10_2 + 1)) x11_1 (x9_1.length : Int) x33_2 t199 x175000_1 t178 x183000_2 x183001_2 bt194.1 bt194.2)))) else (none)) else (none)) else (none)) = some (r1, r2) := by rw [if_neg (show ¬ (false = true) by decide)] at H; exact H
    clear H
    have H := H1
    clear H1
    by_cases c32 : 0 ≤ (rd x9_1 x33_2)
    rotate_left
    ·rw [if_neg c32] at H
     exact absurd H (by simp)
    rw [if_pos c32] at H
    have c32b0 : decide (0 ≤ (rd x9_1 x33_2)) = true := decide_eq_true c32
    clear c32
    by_cases c33 : (rd x9_1 x33_2) < (x175000_1.length : Int)
    rotate_left
    ·rw [if_neg c33] at H
     exact absurd H (by simp)
    rw [if_pos c33] at H
    have c33b0 : decide ((rd x9_1 x33_2) < (x175000_1.length : Int)) = true := decide_eq_true c33
    clear c33
    by_cases c34 : (rd x9_1 x33_2) < (t178.length : Int)
    rotate_left
    ·rw [if_neg c34] at H
     exact absurd H (by simp)
    rw [if_pos c34] at H
    have c34b0 : decide ((rd x9_1 x33_2) < (t178.length : Int)) = true := decide_eq_true c34
    clear c34
    replace H := Option.bind_eq_some_iff.mp H
    obtain ⟨⟨t194, t195⟩, A350, H⟩ := H
    replace H : (if x33_2 = 0 then (segmentation_solve.j3 kj22 l0 a1 a2 x9_1 (wrap64 (x10_2 + 1)) x11_1 (x9_1.length : Int) x33_2 true x175000_1 t178 x183000_2 x183001_2 t194 t195) else ((segmentation_best_better.f kj22 t194 t195 x183000_2 x183001_2).bind fun t199 => (segmentation_solve.j3 kj22 l0 a1 a2 x9_1 (wrap64 (x10_2 + 1)) x11_1 (x9_1.length : Int) x33_2 t199 x175000_1 t178 x183000_2 x183001_2 t194 t195))) = some (r1, r2) := H
    have A35 := Aside0.mk A350
    clear A350
    have HC36 := Aside0.mk H
    clear H
    try go_wp2
    have n0_ := Aside0.mk (Kd.R_drew HO_9.out)
    have n1_ := Aside0.mk (Kd.N_drew HO_175000.out)
    have n2_ := Aside0.mk (Kd.R_drew HO_182000.out)
    have n3_ := Aside0.mk (Kd.V_drew HO_183001.out)
    have n4_ := Aside0.mk (blk_drew BK174.out)
    have n5_ := Aside0.mk (blk_drew BK181.out)
    have n6_ := Aside0.mk (blk_drew BK182.out)
    have n7_ := Aside0.mk (below_drew1 HB.out)
    clear HO_9
    clear HO_175000
    clear HO_182000
    clear HO_183001
    clear BK174
    clear BK181
    clear BK182
    clear HB
    have HO_9 := n0_
    have HO_175000 := n1_
    have HO_182000 := n2_
    have HO_183001 := n3_
    have BK174 := n4_
    have BK181 := n5_
    have BK182 := n6_
    have HB := n7_
    clear n0_ n1_ n2_ n3_ n4_ n5_ n6_ n7_
    obtain ⟨Ao38, co38, eo38⟩ := Kd.N_slice HO_175000.out
    (first | subst eo38 | (injection eo38 with f1_ f2_ f3_; have f4_ := f1_.symm; have f5_ := f3_.symm; clear f1_ f2_ f3_; subst f4_; subst f5_))
    have p192 : 0 ≤ ((rd x9_1 x33_2) : Int) := of_decide_eq_true qx4_15
    have q192 : (rd x9_1 x33_2) < (x175000_1.length : Int) := of_decide_eq_true qx4_15
    obtain ⟨ad192, A192_1, c192_1, e192, hx192_0, hx192_1, hl192_1, hi192_1⟩ := at_T74 (Kd.N_reads' HO_175000.out).2.2 (rd x9_1 x33_2) p192 q192
    cases e192
    obtain ⟨ce192, hce192, hMe192, hcc192⟩ := Kd.N_get HO_175000.out z74 (rd x9_1 x33_2) p192 (by first | exact q192 | exact of_decide_eq_true qx4_15 | (have e_ := (Kd.N_reads' HO_175000.out).1; omega))
    obtain ⟨ua192_1, uc192_1, rfl, ul192_1, ge192_1⟩ := k74_openF hMe192
    have hv192_1 := hcc192 1 _ rfl
    rw [add_field _ _ 1 (by omega)] at hv192_1
    replace hv192_1 := Option.some.inj (hv192_1.symm.trans hx192_1)
    injection hv192_1 with hva_ hvn_ hvc_
    rw [hva_] at ge192_1
    rw [hvc_] at ul192_1
    have HL192_1 := Aside0.mk (show Kd.V (Kd.int .i64) 3 _ w.heap.size _ _ ((rd_T74 x175000_1 (rd x9_1 x33_2)).f1) from Kd.V_mk ul192_1 ge192_1)
    clear hva_ hvn_ hvc_ ge192_1 ul192_1
    clear hcc192 hce192
    have HR192_1 := Aside0.mk hi192_1
    have HC192_1 := Aside0.mk hl192_1
    clear hi192_1 hl192_1
    replace p192 := eq_true p192
    replace q192 := eq_true q192
    have p193 : 0 ≤ ((rd x9_1 x33_2) : Int) := of_decide_eq_true qx4_15
    have q193 : (rd x9_1 x33_2) < (t178.length : Int) := of_decide_eq_true qx4_15
    obtain ⟨ad193, e193, hx193_0⟩ := Kd.at_int (Kd.R_reads' HO_182000.out).2.2 (rd x9_1 x33_2) p193 q193
    cases e193
    replace p193 := eq_true p193
    replace q193 := eq_true q193
    refine start_ (n := 14) (S := fun w' => w'.cell? ⟨gb174, 0, none⟩ = some (.slice (some ad192) x175000_1.length co38) ∧ w'.cell? ⟨gb181, 0, none⟩ = some (.slice (some ad193) t178.length co15) ∧ w'.cell? (ad192.add (((rd x9_1 x33_2)).toNat * 2)) = some (.int .i64 ((rd_T74 x175000_1 (rd x9_1 x33_2)).f0)) ∧ w'.cell? ⟨(ad192.add (((rd x9_1 x33_2)).toNat * 2)).block, (ad192.add (((rd x9_1 x33_2)).toNat * 2)).off + 1, none⟩ = some (.slice A192_1 ((rd_T74 x175000_1 (rd x9_1 x33_2)).f1).length c192_1) ∧ w'.cell? (ad193.add ((rd x9_1 x33_2)).toNat) = some (.int .i64 (rd t178 (rd x9_1 x33_2)))) (ds := []) #[F4, F4, F4, F4, F4, F4, F4, F4, F4, F4, F4, F4, F4, F4] (by kernel_rfl) rfl rfl ⟨(blk_cell BK174.out 0).trans rfl, (blk_cell BK181.out 0).trans rfl, hx192_0, hx192_1, hx193_0⟩ (fun hHeld => ?_); refine with_tabW segmentation_solve.tab14 segmentation_solve.bits14 (fun HT_ HW_ => ?_)
    generalize wc.drew = w37 at HO_9 HO_175000 HO_182000 HO_183001 BK174 BK181 BK182 HB HL192_1 HR192_1 hx192_0 hx192_1 hx193_0 hHeld ⊢
    refine pure_ (i := 1) (N := some 60) (v := ?_) (a' := ?_) #[F4, T4, F4, F4, F4, F4, F4, F4, F4, F4, F4, F4, F4, F4] rfl rfl (any_of HT_.out (by kernel_rfl)) (fun _ _ _ h => h) (Or.inl ⟨by rfl, ?_⟩) ?_ ?_
    rotate_left
    ·intro w'
     go_simp
     with_reducible rfl
    rotate_left
    ·simp only [Act.put, List.setIfInBounds_toArray, List.set_cons_zero, List.set_cons_succ, i64_w, i32_w]
     rfl
    refine pure_ (i := 4) (N := some 63) (v := ?_) (a' := ?_) #[F4, T4, F4, F4, T4, F4, F4, F4, F4, F4, F4, F4, F4, F4] rfl rfl (any_of HT_.out (by kernel_rfl)) (fun _ _ _ h => h) (Or.inl ⟨by rfl, ?_⟩) ?_ ?_
    rotate_left
    ·intro w'
     go_simp
     with_reducible rfl
    rotate_left
    ·simp only [Act.put, List.setIfInBounds_toArray, List.set_cons_zero, List.set_cons_succ, i64_w, i32_w]
     rfl
    refine pure_ (i := 5) (N := some 64) (v := ?_) (a' := ?_) #[F4, T4, F4, F4, T4, T4, F4, F4, F4, F4, F4, F4, F4, F4] rfl rfl (any_of HT_.out (by kernel_rfl)) (fun _ _ _ h => h) (Or.inl ⟨by rfl, ?_⟩) ?_ ?_
    rotate_left
    ·intro w'
     go_simp
     with_reducible rfl
    rotate_left
    ·simp only [Act.put, List.setIfInBounds_toArray, List.set_cons_zero, List.set_cons_succ, i64_w, i32_w]
     rfl
    refine pure_ (i := 7) (N := some 66) (v := ?_) (a' := ?_) #[F4, T4, F4, F4, T4, T4, F4, T4, F4, F4, F4, F4, F4, F4] rfl rfl (any_of HT_.out (by kernel_rfl)) (fun _ _ _ h => h) (Or.inl ⟨by rfl, ?_⟩) ?_ ?_
    rotate_left
    ·intro w'
     go_simp
     with_reducible rfl
    rotate_left
    ·simp only [Act.put, List.setIfInBounds_toArray, List.set_cons_zero, List.set_cons_succ, i64_w, i32_w]
     rfl
    refine take_ (i := 0) (N := some 59) (v := ?_) (a' := ?_) #[T4, T4, F4, F4, T4, T4, F4, T4, F4, F4, F4, F4, F4, F4] rfl rfl (take_ofW HT_.out HW_.out (by kernel_rfl)) (fun _ _ _ h => h) (Or.inl ⟨by rfl, ?_⟩) hHeld ?_ ?_
    rotate_left
    ·rintro w' ⟨s0, s1, s2, s3, s4⟩
     go_simp
     with_reducible rfl
    rotate_left
    ·simp only [Act.put, List.setIfInBounds_toArray, List.set_cons_zero, List.set_cons_succ, i64_w, i32_w]
     rfl
    refine pure_ (i := 2) (N := some 61) (v := ?_) (a' := ?_) #[T4, T4, T4, F4, T4, T4, F4, T4, F4, F4, F4, F4, F4, F4] rfl rfl (any_of HT_.out (by kernel_rfl)) (fun _ _ _ h => h) (Or.inl ⟨by rfl, ?_⟩) ?_ ?_
    rotate_left
    ·intro w'
     go_simp
     with_reducible rfl
    rotate_left
    ·simp only [Act.put, List.setIfInBounds_toArray, List.set_cons_zero, List.set_cons_succ, i64_w, i32_w]
     rfl
    refine take_ (i := 3) (N := some 62) (v := ?_) (a' := ?_) #[T4, T4, T4, T4, T4, T4, F4, T4, F4, F4, F4, F4, F4, F4] rfl rfl (take_ofW HT_.out HW_.out (by kernel_rfl)) (fun _ _ _ h => h) (Or.inl ⟨by rfl, ?_⟩) hHeld ?_ ?_
    rotate_left
    ·rintro w' ⟨s0, s1, s2, s3, s4⟩
     go_simp
     with_reducible rfl
    rotate_left
    ·simp only [Act.put, List.setIfInBounds_toArray, List.set_cons_zero, List.set_cons_succ, i64_w, i32_w]
     rfl
    refine take_ (i := 6) (N := some 65) (v := ?_) (a' := ?_) #[T4, T4, T4, T4, T4, T4, T4, T4, F4, F4, F4, F4, F4, F4] rfl rfl (take_ofW HT_.out HW_.out (by kernel_rfl)) (fun _ _ _ h => h) (Or.inl ⟨by rfl, ?_⟩) hHeld ?_ ?_
    rotate_left
    ·rintro w' ⟨s0, s1, s2, s3, s4⟩
     go_simp
     with_reducible rfl
    rotate_left
    ·simp only [Act.put, List.setIfInBounds_toArray, List.set_cons_zero, List.set_cons_succ, i64_w, i32_w]
     rfl
    refine pure_ (i := 8) (N := some 67) (v := ?_) (a' := ?_) #[T4, T4, T4, T4, T4, T4, T4, T4, T4, F4, F4, F4, F4, F4] rfl rfl (any_of HT_.out (by kernel_rfl)) (fun _ _ _ h => h) (Or.inl ⟨by rfl, ?_⟩) ?_ ?_
    rotate_left
    ·intro w'
     go_simp
     with_reducible rfl
    rotate_left
    ·simp only [Act.put, List.setIfInBounds_toArray, List.set_cons_zero, List.set_cons_succ, i64_w, i32_w]
     rfl
    refine take_ (i := 9) (N := some 68) (v := ?_) (a' := ?_) #[T4, T4, T4, T4, T4, T4, T4, T4, T4, T4, F4, F4, F4, F4] rfl rfl (take_ofW HT_.out HW_.out (by kernel_rfl)) (fun _ _ _ h => h) (Or.inl ⟨by rfl, ?_⟩) hHeld ?_ ?_
    rotate_left
    ·rintro w' ⟨s0, s1, s2, s3, s4⟩
     go_simp
     with_reducible rfl
    rotate_left
    ·simp only [Act.put, List.setIfInBounds_toArray, List.set_cons_zero, List.set_cons_succ, i64_w, i32_w]
     rfl
    refine pure_ (i := 10) (N := some 69) (v := ?_) (a' := ?_) #[T4, T4, T4, T4, T4, T4, T4, T4, T4, T4, T4, F4, F4, F4] rfl rfl (any_of HT_.out (by kernel_rfl)) (fun _ _ _ h => h) (Or.inl ⟨by rfl, ?_⟩) ?_ ?_
    rotate_left
    ·intro w'
     go_simp
     with_reducible rfl
    rotate_left
    ·simp only [Act.put, List.setIfInBounds_toArray, List.set_cons_zero, List.set_cons_succ, i64_w, i32_w]
     rfl
    refine join_ (σ := Value × Nat) 1 #[T4, T4, T4, T4, T4, T4, T4, T4, T4, T4, T4, T4, T4, F4] (fun s_ => [(70, .agg #[.int .i64 t194, s_.1]), (16, .pointer (some ⟨s_.2, 0, none⟩))]) (fun s_ w' => (w'.cell? ⟨gb174, 0, none⟩ = some (.slice (some ad192) x175000_1.length co38) ∧ w'.cell? ⟨gb181, 0, none⟩ = some (.slice (some ad193) t178.length co15) ∧ w'.cell? (ad192.add (((rd x9_1 x33_2)).toNat * 2)) = some (.int .i64 ((rd_T74 x175000_1 (rd x9_1 x33_2)).f0)) ∧ w'.cell? ⟨(ad192.add (((rd x9_1 x33_2)).toNat * 2)).block, (ad192.add (((rd x9_1 x33_2)).toNat * 2)).off + 1, none⟩ = some (.slice A192_1 ((rd_T74 x175000_1 (rd x9_1 x33_2)).f1).length c192_1) ∧ w'.cell? (ad193.add ((rd x9_1 x33_2)).toNat) = some (.int .i64 (rd t178 (rd x9_1 x33_2)))) ∧ (Kd.V (Kd.int .i64) 3 w' w.heap.size (fun k_ => (w.heap.size ≤ k_) ∧ some k_ ≠ (.slice (some ad192) x175000_1.length co38 : Value).ownBlock ∧ some k_ ≠ (.slice (some ad193) t178.length co15 : Value).ownBlock ∧ some k_ ≠ (.slice (some ad189) x9_1.length co19 : Value).ownBlock ∧ k_ ≠ gb174 ∧ k_ ≠ gb181 ∧ k_ ≠ gb182 ∧ k_ ≠ s_.2) (.slice A192_1 ((rd_T74 x175000_1 (rd x9_1 x33_2)).f1).length c192_1) ((rd_T74 x175000_1 (rd x9_1 x33_2)).f1)) ∧ (Kd.V (Kd.int .i64) 3 w' w.heap.size (fun k_ => (w.heap.size ≤ k_) ∧ some k_ ≠ (.slice (some ad192) x175000_1.length co38 : Value).ownBlock ∧ some k_ ≠ (.slice (some ad193) t178.length co15 : Value).ownBlock ∧ some k_ ≠ (.slice (some ad189) x9_1.length co19 : Value).ownBlock ∧ k_ ≠ gb174 ∧ k_ ≠ gb181 ∧ k_ ≠ gb182 ∧ k_ ≠ s_.2) s_.1 t195) ∧ (Kd.N k74 74 w' w.heap.size (fun k_ => (w.heap.size ≤ k_) ∧ some k_ ≠ (.slice (some ad193) t178.length co15 : Value).ownBlock ∧ some k_ ≠ (.slice (some ad189) x9_1.length co19 : Value).ownBlock ∧ k_ ≠ gb174 ∧ k_ ≠ gb181 ∧ k_ ≠ gb182 ∧ k_ ≠ s_.2) (.slice (some ad192) x175000_1.length co38) x175000_1) ∧ (Kd.R (Kd.int .i64) 3 w' w.heap.size (fun k_ => (w.heap.size ≤ k_) ∧ some k_ ≠ (.slice (some ad189) x9_1.length co19 : Value).ownBlock) (.slice (some ad193) t178.length co15) t178) ∧ (Kd.V (Kd.int .i64) 3 w' w.heap.size (fun k_ => (w.heap.size ≤ k_) ∧ some k_ ≠ (.slice (some ad192) x175000_1.length co38 : Value).ownBlock ∧ some k_ ≠ (.slice (some ad193) t178.length co15 : Value).ownBlock ∧ some k_ ≠ (.slice (some ad189) x9_1.length co19 : Value).ownBlock ∧ k_ ≠ gb174 ∧ k_ ≠ gb181 ∧ k_ ≠ gb182 ∧ k_ ≠ s_.2) u183001 x183001_2) ∧ (Kd.R (Kd.int .i64) 3 w' w.heap.size (fun k_ => (w.heap.size ≤ k_) ∧ some k_ ≠ (.slice (some ad193) t178.length co15 : Value).ownBlock) (.slice (some ad189) x9_1.length co19) x9_1) ∧ (w'.heap[gb174]? = some (.cells #[.slice (some ad192) x175000_1.length co38] 69 (0, 0))) ∧ (w'.heap[gb181]? = some (.cells #[.slice (some ad193) t178.length co15] 24 (0, 0))) ∧ (w'.heap[gb182]? = some (.cells #[.int .i64 x183000_2, u183001] 74 (0, 0))) ∧ (w'.heap[s_.2]? = some (.cells #[.int .i64 0, .slice none 0 0] 74 (0, 0))) ∧ (w.heap.size ≤ s_.2) ∧ (w.heap.size ≤ s_.2) ∧ (gb174 ≠ s_.2) ∧ (s_.2 ≠ gb174) ∧ (gb181 ≠ s_.2) ∧ (s_.2 ≠ gb181) ∧ (gb182 ≠ s_.2) ∧ (s_.2 ≠ gb182) ∧ (Below w.heap.size w w')) ?_ ?_
    rotate_left
    ·intro hCont
     refine two_ (i := 11) (j := 12) (Ni := some 70) (Nj := some 16) #[T4, T4, T4, T4, T4, T4, T4, T4, T4, T4, T4, T4, F4, F4] #[T4, T4, T4, T4, T4, T4, T4, T4, T4, T4, T4, F4, T4, F4] rfl rfl rfl rfl (two_of HT_.out (by kernel_rfl)) (by decide) (by decide) (fun K hK => ?_) (fun K hK => ?_)
     ·skip
      refine goes_ Try.func46 (by kernel_rfl) rfl #[.agg #[.int .i64 ((rd_T74 x175000_1 (rd x9_1 x33_2)).f0), .slice A192_1 ((rd_T74 x175000_1 (rd x9_1 x33_2)).f1).length c192_1], .int .i64 (rd x9_1 x33_2), .int .i64 (wrap64 (a1 + (rd t178 (rd x9_1 x33_2))))] (by rfl) rfl rfl qx4_27 ?_
      with_reducible refine (segmentation_best_after.calls ((rd_T74 x175000_1 (rd x9_1 x33_2)).f0) (fun k_ => (((w.heap.size ≤ k_) ∧ (some k_ ≠ (.slice (some ad189) x9_1.length co19 : Value).ownBlock ∧ (some k_ ≠ (.slice (some ad193) t178.length co15 : Value).ownBlock ∧ (k_ ≠ gb174 ∧ (k_ ≠ gb181 ∧ k_ ≠ gb182))))) ∧ some k_ ≠ (.slice (some ad192) x175000_1.length co38 : Value).ownBlock)) _ _ ((rd_T74 x175000_1 (rd x9_1 x33_2)).f1) (rd x9_1 x33_2) (wrap64 (a1 + (rd t178 (rd x9_1 x33_2)))) t194 t195 _ ?side1 A35.out).mono ?_
      (case side1 => exact HL192_1.out)
      rintro e w39 ⟨v196, rfl, ho0, hb⟩
      have HS2_ := (hb.cell (World.block_lt_of_cell? _ _ (hHeld.2.2.1))).trans (hHeld.2.2.1)
      have HS3_ := (hb.cell (World.block_lt_of_cell? _ _ (hHeld.2.2.2.1))).trans (hHeld.2.2.2.1)
      have HS4_ := (hb.cell (World.block_lt_of_cell? _ _ (hHeld.2.2.2.2))).trans (hHeld.2.2.2.2)
      refine ⟨_, rfl, ?_⟩
      have n0_ := Aside0.mk (Kd.R_below qx4_5 hb)
      have n1_ := Aside0.mk (Kd.N_below qx4_8 hb)
      have n2_ := Aside0.mk (Kd.R_below qx4_7 hb)
      have n3_ := Aside0.mk (Kd.V_below qx4_12 hb)
      have n4_ := Aside0.mk (Kd.V_below qx4_26 hb)
      have n5_ := Aside0.mk (Kd.V_lower (Kd.V_mono (ok' := fun k_ => (w.heap.size ≤ k_) ∧ some k_ ≠ (.slice (some ad189) x9_1.length co19 : Value).ownBlock ∧ some k_ ≠ (.slice (some ad192) x175000_1.length co38 : Value).ownBlock ∧ some k_ ≠ (.slice (some ad193) t178.length co15 : Value).ownBlock ∧ k_ ≠ gb174 ∧ k_ ≠ gb181 ∧ k_ ≠ gb182) ho0 (fun k_ hk_ => ⟨Or.elim hk_ (fun hs_ => hs_.1.1) (fun hn_ => (Nat.le_trans (below_size qx4_0) hn_)), Or.elim hk_ (fun hs_ => hs_.1.2.1) (fun hn_ => (Kd.fresh' (Kd.R_lt qx4_5) k_ hn_)), Or.elim hk_ (fun hs_ => hs_.2) (fun hn_ => (Kd.fresh' (Kd.N_lt qx4_8) k_ hn_)), Or.elim hk_ (fun hs_ => hs_.1.2.2.1) (fun hn_ => (Kd.fresh' (Kd.R_lt qx4_7) k_ hn_)), Or.elim hk_ (fun hs_ => hs_.1.2.2.2.1) (fun hn_ => (Kd.freshB (g := gb174) (o := .cells #[.slice (some ad192) x175000_1.length co38] 69 (0, 0)) qx4_1 k_ hn_)), Or.elim hk_ (fun hs_ => hs_.1.2.2.2.2.1) (fun hn_ => (Kd.freshB (g := gb181) (o := .cells #[.slice (some ad193) t178.length co15] 24 (0, 0)) qx4_3 k_ hn_)), Or.elim hk_ (fun hs_ => hs_.1.2.2.2.2.2) (fun hn_ => (Kd.freshB (g := gb182) (o := .cells #[.int .i64 x183000_2, u183001] 74 (0, 0)) qx4_4 k_ hn_))⟩)) (below_size qx4_0))
      have n6_ := Aside0.mk (blk_below (g := gb174) (o := .cells #[.slice (some ad192) x175000_1.length co38] 69 (0, 0)) qx4_1 hb)
      have n7_ := Aside0.mk (blk_below (g := gb181) (o := .cells #[.slice (some ad193) t178.length co15] 24 (0, 0)) qx4_3 hb)
      have n8_ := Aside0.mk (blk_below (g := gb182) (o := .cells #[.int .i64 x183000_2, u183001] 74 (0, 0)) qx4_4 hb)
      have n9_ := Aside0.mk (Kd.C_below qx4_13 hb)
      have n10_ := Aside0.mk (below_step qx4_0 hb)
      clear HO_9
      clear HO_175000
      clear HO_182000
      clear HO_183001
      clear HL192_1
      clear BK174
      clear BK181
      clear BK182
      clear HR192_1
      clear HB
      have HO_9 := n0_
      have HO_175000 := n1_
      have HO_182000 := n2_
      have HO_183001 := n3_
      have HL192_1 := n4_
      have HO197 := n5_
      have BK174 := n6_
      have BK181 := n7_
      have BK182 := n8_
      have HR192_1 := n9_
      have HB := n10_
      clear n0_ n1_ n2_ n3_ n4_ n5_ n6_ n7_ n8_ n9_ n10_
      (try clear hb)
      (try clear hb2)
      (try clear hk)
      (try clear hi)
      (try clear ho0)
      refine hK.out _ _ ⟨(blk_cell BK174.out 0).trans rfl, (blk_cell BK181.out 0).trans rfl, HS2_, HS3_, HS4_⟩ (fun hHeld => ?_)
      clear hK K
      refine norm_ (a' := ?_) ?_ ?_
      rotate_left
      ·show Act.put _ (some 70) _ = _
       simp only [Act.put, List.setIfInBounds_toArray, List.set_cons_zero, List.set_cons_succ, i64_w, i32_w]
       rfl
      refine one_ (i := 12) (N := some 16) #[T4, T4, T4, T4, T4, T4, T4, T4, T4, T4, T4, T4, T4, F4] rfl rfl (one_of HT_.out (by kernel_rfl)) (by decide) (fun K hK => ?_)
      refine box_step ?hg (N := 16) ?hd (cs := #[.int .i64 0, .slice none 0 0]) (t := 74) ?hr ?_; (case hd => rfl); (case hg => rfl); (case hr => exact qx4_31)
      intro gb198 hg w40 hbox hb
      have HS2_ := (hb.cell (World.block_lt_of_cell? _ _ (hHeld.2.2.1))).trans (hHeld.2.2.1)
      have HS3_ := (hb.cell (World.block_lt_of_cell? _ _ (hHeld.2.2.2.1))).trans (hHeld.2.2.2.1)
      have HS4_ := (hb.cell (World.block_lt_of_cell? _ _ (hHeld.2.2.2.2))).trans (hHeld.2.2.2.2)
      have n0_ := Aside0.mk (Kd.R_below qx4_5 hb)
      have n1_ := Aside0.mk (Kd.N_below (Kd.N_elderB qx4_8 gb198 (Nat.le_of_eq hg.symm)) hb)
      have n2_ := Aside0.mk (Kd.R_below qx4_7 hb)
      have n3_ := Aside0.mk (Kd.V_below (Kd.V_elderB qx4_12 gb198 (Nat.le_of_eq hg.symm)) hb)
      have n4_ := Aside0.mk (Kd.V_below (Kd.V_elderB qx4_26 gb198 (Nat.le_of_eq hg.symm)) hb)
      have n5_ := Aside0.mk (Kd.V_below (Kd.V_elderB (by (with_reducible repeat (first | apply Kd.V_alloc | apply Kd.V_drewN | apply Kd.V_drew)); exact HO197.out) gb198 (Nat.le_of_eq hg.symm)) hb)
      have n6_ := Aside0.mk (blk_below (g := gb174) (o := .cells #[.slice (some ad192) x175000_1.length co38] 69 (0, 0)) qx4_1 hb)
      have n7_ := Aside0.mk (blk_below (g := gb181) (o := .cells #[.slice (some ad193) t178.length co15] 24 (0, 0)) qx4_3 hb)
      have n8_ := Aside0.mk (blk_below (g := gb182) (o := .cells #[.int .i64 x183000_2, u183001] 74 (0, 0)) qx4_4 hb)
      have n9_ := Aside0.mk (Kd.C_below qx4_13 hb)
      have n10_ := Aside0.mk (below_step qx4_0 hb)
      have n11_ := Aside0.mk (hbox)
      have n12_ := Aside0.mk ((by rw [hg]; exact (below_size qx4_0) : w.heap.size ≤ gb198))
      have n13_ := Aside0.mk ((by rw [hg]; exact (below_size qx4_0) : w.heap.size ≤ gb198))
      have n14_ := Aside0.mk ((by rw [hg]; exact Nat.ne_of_lt (blk_lt (g := gb174) (o := .cells #[.slice (some ad192) x175000_1.length co38] 69 (0, 0)) qx4_1) : gb174 ≠ gb198))
      have n15_ := Aside0.mk ((by rw [hg]; exact Nat.ne_of_gt (blk_lt (g := gb174) (o := .cells #[.slice (some ad192) x175000_1.length co38] 69 (0, 0)) qx4_1) : gb198 ≠ gb174))
      have n16_ := Aside0.mk ((by rw [hg]; exact Nat.ne_of_lt (blk_lt (g := gb181) (o := .cells #[.slice (some ad193) t178.length co15] 24 (0, 0)) qx4_3) : gb181 ≠ gb198))
      have n17_ := Aside0.mk ((by rw [hg]; exact Nat.ne_of_gt (blk_lt (g := gb181) (o := .cells #[.slice (some ad193) t178.length co15] 24 (0, 0)) qx4_3) : gb198 ≠ gb181))
      have n18_ := Aside0.mk ((by rw [hg]; exact Nat.ne_of_lt (blk_lt (g := gb182) (o := .cells #[.int .i64 x183000_2, u183001] 74 (0, 0)) qx4_4) : gb182 ≠ gb198))
      have n19_ := Aside0.mk ((by rw [hg]; exact Nat.ne_of_gt (blk_lt (g := gb182) (o := .cells #[.int .i64 x183000_2, u183001] 74 (0, 0)) qx4_4) : gb198 ≠ gb182))
      clear HO_9
      clear HO_175000
      clear HO_182000
      clear HO_183001
      clear HL192_1
      clear HO197
      clear BK174
      clear BK181
      clear BK182
      clear HR192_1
      clear HB
      have HO_9 := n0_
      have HO_175000 := n1_
      have HO_182000 := n2_
      have HO_183001 := n3_
      have HL192_1 := n4_
      have HO197 := n5_
      have BK174 := n6_
      have BK181 := n7_
      have BK182 := n8_
      have HR192_1 := n9_
      have HB := n10_
      have BK198 := n11_
      have GW198 := n12_
      have GE198 := n13_
      have NB174_198 := n14_
      have NB198_174 := n15_
      have NB181_198 := n16_
      have NB198_181 := n17_
      have NB182_198 := n18_
      have NB198_182 := n19_
      clear n0_ n1_ n2_ n3_ n4_ n5_ n6_ n7_ n8_ n9_ n10_ n11_ n12_ n13_ n14_ n15_ n16_ n17_ n18_ n19_
      clear hb hbox hg
      refine hK.out _ _ ⟨(blk_cell BK174.out 0).trans rfl, (blk_cell BK181.out 0).trans rfl, HS2_, HS3_, HS4_⟩ (fun hHeld => ?_)
      clear hK K
      refine norm_ (a' := ?_) ?_ ?_
      rotate_left
      ·show Act.put _ (some 16) _ = _
       simp only [Act.put, List.setIfInBounds_toArray, List.set_cons_zero, List.set_cons_succ, i64_w, i32_w]
       rfl
      exact norm_ (by simp only [putAll, Act.put, List.setIfInBounds_toArray, List.set_cons_zero, List.set_cons_succ]) (hCont (v196, gb198) _ ⟨hHeld, qx4_29, (by (with_reducible repeat (first | apply Kd.V_alloc | apply Kd.V_drewN | apply Kd.V_drew)); exact Kd.V_mono HO197.out (fun _ hk => ⟨hk.1.1, ⟨hk.1.2.2.1, ⟨hk.1.2.2.2.1, ⟨hk.1.2.1, ⟨hk.1.2.2.2.2.1, ⟨hk.1.2.2.2.2.2.1, ⟨hk.1.2.2.2.2.2.2, hk.2⟩⟩⟩⟩⟩⟩⟩)), qx4_30, qx4_7, qx4_28, qx4_5, qx4_1, qx4_3, qx4_4, qx4_17, GW198.out, GE198.out, NB174_198.out, NB198_174.out, NB181_198.out, NB198_181.out, NB182_198.out, NB198_182.out, qx4_2⟩)
     ·skip
      refine box_step ?hg (N := 16) ?hd (cs := #[.int .i64 0, .slice none 0 0]) (t := 74) ?hr ?_; (case hd => rfl); (case hg => rfl); (case hr => exact qx4_31)
      intro gb198 hg w39 hbox hb
      have HS2_ := (hb.cell (World.block_lt_of_cell? _ _ (hHeld.2.2.1))).trans (hHeld.2.2.1)
      have HS3_ := (hb.cell (World.block_lt_of_cell? _ _ (hHeld.2.2.2.1))).trans (hHeld.2.2.2.1)
      have HS4_ := (hb.cell (World.block_lt_of_cell? _ _ (hHeld.2.2.2.2))).trans (hHeld.2.2.2.2)
      have n0_ := Aside0.mk (Kd.R_below qx4_5 hb)
      have n1_ := Aside0.mk (Kd.N_below (Kd.N_elderB qx4_8 gb198 (Nat.le_of_eq hg.symm)) hb)
      have n2_ := Aside0.mk (Kd.R_below qx4_7 hb)
      have n3_ := Aside0.mk (Kd.V_below (Kd.V_elderB qx4_12 gb198 (Nat.le_of_eq hg.symm)) hb)
      have n4_ := Aside0.mk (Kd.V_below (Kd.V_elderB qx4_26 gb198 (Nat.le_of_eq hg.symm)) hb)
      have n5_ := Aside0.mk (blk_below (g := gb174) (o := .cells #[.slice (some ad192) x175000_1.length co38] 69 (0, 0)) qx4_1 hb)
      have n6_ := Aside0.mk (blk_below (g := gb181) (o := .cells #[.slice (some ad193) t178.length co15] 24 (0, 0)) qx4_3 hb)
      have n7_ := Aside0.mk (blk_below (g := gb182) (o := .cells #[.int .i64 x183000_2, u183001] 74 (0, 0)) qx4_4 hb)
      have n8_ := Aside0.mk (Kd.C_below qx4_13 hb)
      have n9_ := Aside0.mk (below_step qx4_0 hb)
      have n10_ := Aside0.mk (hbox)
      have n11_ := Aside0.mk ((by rw [hg]; exact (below_size qx4_0) : w.heap.size ≤ gb198))
      have n12_ := Aside0.mk ((by rw [hg]; exact (below_size qx4_0) : w.heap.size ≤ gb198))
      have n13_ := Aside0.mk ((by rw [hg]; exact Nat.ne_of_lt (blk_lt (g := gb174) (o := .cells #[.slice (some ad192) x175000_1.length co38] 69 (0, 0)) qx4_1) : gb174 ≠ gb198))
      have n14_ := Aside0.mk ((by rw [hg]; exact Nat.ne_of_gt (blk_lt (g := gb174) (o := .cells #[.slice (some ad192) x175000_1.length co38] 69 (0, 0)) qx4_1) : gb198 ≠ gb174))
      have n15_ := Aside0.mk ((by rw [hg]; exact Nat.ne_of_lt (blk_lt (g := gb181) (o := .cells #[.slice (some ad193) t178.length co15] 24 (0, 0)) qx4_3) : gb181 ≠ gb198))
      have n16_ := Aside0.mk ((by rw [hg]; exact Nat.ne_of_gt (blk_lt (g := gb181) (o := .cells #[.slice (some ad193) t178.length co15] 24 (0, 0)) qx4_3) : gb198 ≠ gb181))
      have n17_ := Aside0.mk ((by rw [hg]; exact Nat.ne_of_lt (blk_lt (g := gb182) (o := .cells #[.int .i64 x183000_2, u183001] 74 (0, 0)) qx4_4) : gb182 ≠ gb198))
      have n18_ := Aside0.mk ((by rw [hg]; exact Nat.ne_of_gt (blk_lt (g := gb182) (o := .cells #[.int .i64 x183000_2, u183001] 74 (0, 0)) qx4_4) : gb198 ≠ gb182))
      clear HO_9
      clear HO_175000
      clear HO_182000
      clear HO_183001
      clear HL192_1
      clear BK174
      clear BK181
      clear BK182
      clear HR192_1
      clear HB
      have HO_9 := n0_
      have HO_175000 := n1_
      have HO_182000 := n2_
      have HO_183001 := n3_
      have HL192_1 := n4_
      have BK174 := n5_
      have BK181 := n6_
      have BK182 := n7_
      have HR192_1 := n8_
      have HB := n9_
      have BK198 := n10_
      have GW198 := n11_
      have GE198 := n12_
      have NB174_198 := n13_
      have NB198_174 := n14_
      have NB181_198 := n15_
      have NB198_181 := n16_
      have NB182_198 := n17_
      have NB198_182 := n18_
      clear n0_ n1_ n2_ n3_ n4_ n5_ n6_ n7_ n8_ n9_ n10_ n11_ n12_ n13_ n14_ n15_ n16_ n17_ n18_
      clear hb hbox hg
      refine hK.out _ _ ⟨(blk_cell BK174.out 0).trans rfl, (blk_cell BK181.out 0).trans rfl, HS2_, HS3_, HS4_⟩ (fun hHeld => ?_)
      clear hK K
      refine norm_ (a' := ?_) ?_ ?_
      rotate_left
      ·show Act.put _ (some 16) _ = _
       simp only [Act.put, List.setIfInBounds_toArray, List.set_cons_zero, List.set_cons_succ, i64_w, i32_w]
       rfl
      refine one_ (i := 11) (N := some 70) #[T4, T4, T4, T4, T4, T4, T4, T4, T4, T4, T4, T4, T4, F4] rfl rfl (one_of HT_.out (by kernel_rfl)) (by decide) (fun K hK => ?_)
      refine goes_ Try.func46 (by kernel_rfl) rfl #[.agg #[.int .i64 ((rd_T74 x175000_1 (rd x9_1 x33_2)).f0), .slice A192_1 ((rd_T74 x175000_1 (rd x9_1 x33_2)).f1).length c192_1], .int .i64 (rd x9_1 x33_2), .int .i64 (wrap64 (a1 + (rd t178 (rd x9_1 x33_2))))] (by rfl) rfl rfl qx4_27 ?_
      with_reducible refine (segmentation_best_after.calls ((rd_T74 x175000_1 (rd x9_1 x33_2)).f0) (fun k_ => ((((w.heap.size ≤ k_) ∧ (some k_ ≠ (.slice (some ad189) x9_1.length co19 : Value).ownBlock ∧ (some k_ ≠ (.slice (some ad193) t178.length co15 : Value).ownBlock ∧ (k_ ≠ gb174 ∧ (k_ ≠ gb181 ∧ k_ ≠ gb182))))) ∧ some k_ ≠ (.slice (some ad192) x175000_1.length co38 : Value).ownBlock) ∧ k_ ≠ gb198)) _ _ ((rd_T74 x175000_1 (rd x9_1 x33_2)).f1) (rd x9_1 x33_2) (wrap64 (a1 + (rd t178 (rd x9_1 x33_2)))) t194 t195 _ ?side1 A35.out).mono ?_
      (case side1 => exact HL192_1.out)
      rintro e w40 ⟨v196, rfl, ho0, hb⟩
      have HS2_ := (hb.cell (World.block_lt_of_cell? _ _ (hHeld.2.2.1))).trans (hHeld.2.2.1)
      have HS3_ := (hb.cell (World.block_lt_of_cell? _ _ (hHeld.2.2.2.1))).trans (hHeld.2.2.2.1)
      have HS4_ := (hb.cell (World.block_lt_of_cell? _ _ (hHeld.2.2.2.2))).trans (hHeld.2.2.2.2)
      refine ⟨_, rfl, ?_⟩
      have n0_ := Aside0.mk (Kd.R_below qx4_5 hb)
      have n1_ := Aside0.mk (Kd.N_below qx4_8 hb)
      have n2_ := Aside0.mk (Kd.R_below qx4_7 hb)
      have n3_ := Aside0.mk (Kd.V_below qx4_12 hb)
      have n4_ := Aside0.mk (Kd.V_below qx4_26 hb)
      have n5_ := Aside0.mk (Kd.V_lower (Kd.V_mono (ok' := fun k_ => (w.heap.size ≤ k_) ∧ some k_ ≠ (.slice (some ad189) x9_1.length co19 : Value).ownBlock ∧ some k_ ≠ (.slice (some ad192) x175000_1.length co38 : Value).ownBlock ∧ some k_ ≠ (.slice (some ad193) t178.length co15 : Value).ownBlock ∧ k_ ≠ gb174 ∧ k_ ≠ gb181 ∧ k_ ≠ gb182 ∧ k_ ≠ gb198) ho0 (fun k_ hk_ => ⟨Or.elim hk_ (fun hs_ => hs_.1.1.1) (fun hn_ => (Nat.le_trans (below_size qx4_2) hn_)), Or.elim hk_ (fun hs_ => hs_.1.1.2.1) (fun hn_ => (Kd.fresh' (Kd.R_lt qx4_5) k_ hn_)), Or.elim hk_ (fun hs_ => hs_.1.2) (fun hn_ => (Kd.fresh' (Kd.N_lt qx4_8) k_ hn_)), Or.elim hk_ (fun hs_ => hs_.1.1.2.2.1) (fun hn_ => (Kd.fresh' (Kd.R_lt qx4_7) k_ hn_)), Or.elim hk_ (fun hs_ => hs_.1.1.2.2.2.1) (fun hn_ => (Kd.freshB (g := gb174) (o := .cells #[.slice (some ad192) x175000_1.length co38] 69 (0, 0)) qx4_1 k_ hn_)), Or.elim hk_ (fun hs_ => hs_.1.1.2.2.2.2.1) (fun hn_ => (Kd.freshB (g := gb181) (o := .cells #[.slice (some ad193) t178.length co15] 24 (0, 0)) qx4_3 k_ hn_)), Or.elim hk_ (fun hs_ => hs_.1.1.2.2.2.2.2) (fun hn_ => (Kd.freshB (g := gb182) (o := .cells #[.int .i64 x183000_2, u183001] 74 (0, 0)) qx4_4 k_ hn_)), Or.elim hk_ (fun hs_ => hs_.2) (fun hn_ => (Kd.freshB (g := gb198) (o := .cells #[.int .i64 0, .slice none 0 0] 74 (0, 0)) qx4_17 k_ hn_))⟩)) (below_size qx4_2))
      have n6_ := Aside0.mk (blk_below (g := gb174) (o := .cells #[.slice (some ad192) x175000_1.length co38] 69 (0, 0)) qx4_1 hb)
      have n7_ := Aside0.mk (blk_below (g := gb181) (o := .cells #[.slice (some ad193) t178.length co15] 24 (0, 0)) qx4_3 hb)
      have n8_ := Aside0.mk (blk_below (g := gb182) (o := .cells #[.int .i64 x183000_2, u183001] 74 (0, 0)) qx4_4 hb)
      have n9_ := Aside0.mk (Kd.C_below qx4_13 hb)
      have n10_ := Aside0.mk (blk_below (g := gb198) (o := .cells #[.int .i64 0, .slice none 0 0] 74 (0, 0)) qx4_17 hb)
      have n11_ := Aside0.mk (below_step qx4_2 hb)
      clear HO_9
      clear HO_175000
      clear HO_182000
      clear HO_183001
      clear HL192_1
      clear BK174
      clear BK181
      clear BK182
      clear HR192_1
      clear BK198
      clear HB
      have HO_9 := n0_
      have HO_175000 := n1_
      have HO_182000 := n2_
      have HO_183001 := n3_
      have HL192_1 := n4_
      have HO197 := n5_
      have BK174 := n6_
      have BK181 := n7_
      have BK182 := n8_
      have HR192_1 := n9_
      have BK198 := n10_
      have HB := n11_
      clear n0_ n1_ n2_ n3_ n4_ n5_ n6_ n7_ n8_ n9_ n10_ n11_
      (try clear hb)
      (try clear hb2)
      (try clear hk)
      (try clear hi)
      (try clear ho0)
      refine hK.out _ _ ⟨(blk_cell BK174.out 0).trans rfl, (blk_cell BK181.out 0).trans rfl, HS2_, HS3_, HS4_⟩ (fun hHeld => ?_)
      clear hK K
      refine norm_ (a' := ?_) ?_ ?_
      rotate_left
      ·show Act.put _ (some 70) _ = _
       simp only [Act.put, List.setIfInBounds_toArray, List.set_cons_zero, List.set_cons_succ, i64_w, i32_w]
       rfl
      exact norm_ (by simp only [putAll, Act.put, List.setIfInBounds_toArray, List.set_cons_zero, List.set_cons_succ]) (hCont (v196, gb198) _ ⟨hHeld, qx4_29, (by (with_reducible repeat (first | apply Kd.V_alloc | apply Kd.V_drewN | apply Kd.V_drew)); exact Kd.V_mono HO197.out (fun _ hk => ⟨hk.1, ⟨hk.2.2.1, ⟨hk.2.2.2.1, ⟨hk.2.1, ⟨hk.2.2.2.2.1, ⟨hk.2.2.2.2.2.1, ⟨hk.2.2.2.2.2.2.1, hk.2.2.2.2.2.2.2⟩⟩⟩⟩⟩⟩⟩)), qx4_30, qx4_7, qx4_28, qx4_5, qx4_1, qx4_3, qx4_4, qx4_17, GW198.out, GE198.out, NB174_198.out, NB198_174.out, NB181_198.out, NB198_181.out, NB182_198.out, NB198_182.out, qx4_2⟩)
    rintro ⟨v196, gb198⟩ w41 ⟨hS_, h0_, h1_, h2_, h3_, h4_, h5_, h6_, h7_, h8_, h9_, h10_, h11_, h12_, h13_, h14_, h15_, h16_, h17_, h18_⟩
    have n0_ : Aside0 (Kd.V (Kd.int .i64) 3 w41 w.heap.size (fun k_ => (w.heap.size ≤ k_) ∧ some k_ ≠ (.slice (some ad192) x175000_1.length co38 : Value).ownBlock ∧ some k_ ≠ (.slice (some ad193) t178.length co15 : Value).ownBlock ∧ some k_ ≠ (.slice (some ad189) x9_1.length co19 : Value).ownBlock ∧ k_ ≠ gb174 ∧ k_ ≠ gb181 ∧ k_ ≠ gb182 ∧ k_ ≠ gb198) (.slice A192_1 ((rd_T74 x175000_1 (rd x9_1 x33_2)).f1).length c192_1) ((rd_T74 x175000_1 (rd x9_1 x33_2)).f1)) := ⟨h0_⟩
    have n1_ : Aside0 (Kd.V (Kd.int .i64) 3 w41 w.heap.size (fun k_ => (w.heap.size ≤ k_) ∧ some k_ ≠ (.slice (some ad192) x175000_1.length co38 : Value).ownBlock ∧ some k_ ≠ (.slice (some ad193) t178.length co15 : Value).ownBlock ∧ some k_ ≠ (.slice (some ad189) x9_1.length co19 : Value).ownBlock ∧ k_ ≠ gb174 ∧ k_ ≠ gb181 ∧ k_ ≠ gb182 ∧ k_ ≠ gb198) v196 t195) := ⟨h1_⟩
    have n2_ : Aside0 (Kd.N k74 74 w41 w.heap.size (fun k_ => (w.heap.size ≤ k_) ∧ some k_ ≠ (.slice (some ad193) t178.length co15 : Value).ownBlock ∧ some k_ ≠ (.slice (some ad189) x9_1.length co19 : Value).ownBlock ∧ k_ ≠ gb174 ∧ k_ ≠ gb181 ∧ k_ ≠ gb182 ∧ k_ ≠ gb198) (.slice (some ad192) x175000_1.length co38) x175000_1) := ⟨h2_⟩
    have n3_ : Aside0 (Kd.R (Kd.int .i64) 3 w41 w.heap.size (fun k_ => (w.heap.size ≤ k_) ∧ some k_ ≠ (.slice (some ad189) x9_1.length co19 : Value).ownBlock) (.slice (some ad193) t178.length co15) t178) := ⟨h3_⟩
    have n4_ : Aside0 (Kd.V (Kd.int .i64) 3 w41 w.heap.size (fun k_ => (w.heap.size ≤ k_) ∧ some k_ ≠ (.slice (some ad192) x175000_1.length co38 : Value).ownBlock ∧ some k_ ≠ (.slice (some ad193) t178.length co15 : Value).ownBlock ∧ some k_ ≠ (.slice (some ad189) x9_1.length co19 : Value).ownBlock ∧ k_ ≠ gb174 ∧ k_ ≠ gb181 ∧ k_ ≠ gb182 ∧ k_ ≠ gb198) u183001 x183001_2) := ⟨h4_⟩
    have n5_ : Aside0 (Kd.R (Kd.int .i64) 3 w41 w.heap.size (fun k_ => (w.heap.size ≤ k_) ∧ some k_ ≠ (.slice (some ad193) t178.length co15 : Value).ownBlock) (.slice (some ad189) x9_1.length co19) x9_1) := ⟨h5_⟩
    have n6_ : Aside0 (w41.heap[gb174]? = some (.cells #[.slice (some ad192) x175000_1.length co38] 69 (0, 0))) := ⟨h6_⟩
    have n7_ : Aside0 (w41.heap[gb181]? = some (.cells #[.slice (some ad193) t178.length co15] 24 (0, 0))) := ⟨h7_⟩
    have n8_ : Aside0 (w41.heap[gb182]? = some (.cells #[.int .i64 x183000_2, u183001] 74 (0, 0))) := ⟨h8_⟩
    have n9_ : Aside0 (w41.heap[gb198]? = some (.cells #[.int .i64 0, .slice none 0 0] 74 (0, 0))) := ⟨h9_⟩
    have n10_ : Aside0 (w.heap.size ≤ gb198) := ⟨h10_⟩
    have n11_ : Aside0 (w.heap.size ≤ gb198) := ⟨h11_⟩
    have n12_ : Aside0 (gb174 ≠ gb198) := ⟨h12_⟩
    have n13_ : Aside0 (gb198 ≠ gb174) := ⟨h13_⟩
    have n14_ : Aside0 (gb181 ≠ gb198) := ⟨h14_⟩
    have n15_ : Aside0 (gb198 ≠ gb181) := ⟨h15_⟩
    have n16_ : Aside0 (gb182 ≠ gb198) := ⟨h16_⟩
    have n17_ : Aside0 (gb198 ≠ gb182) := ⟨h17_⟩
    have n18_ : Aside0 (Below w.heap.size w w41) := ⟨h18_⟩
    clear HO_9
    clear HO_175000
    clear HO_182000
    clear HO_183001
    clear BK174
    clear BK181
    clear BK182
    clear HB
    clear h0_ h1_ h2_ h3_ h4_ h5_ h6_ h7_ h8_ h9_ h10_ h11_ h12_ h13_ h14_ h15_ h16_ h17_ h18_
    have HL192_1 := n0_
    have HO197 := n1_
    have HO_175000 := n2_
    have HO_182000 := n3_
    have HO_183001 := n4_
    have HO_9 := n5_
    have BK174 := n6_
    have BK181 := n7_
    have BK182 := n8_
    have BK198 := n9_
    have GW198 := n10_
    have GE198 := n11_
    have NB174_198 := n12_
    have NB198_174 := n13_
    have NB181_198 := n14_
    have NB198_181 := n15_
    have NB182_198 := n16_
    have NB198_182 := n17_
    have HB := n18_
    clear n0_ n1_ n2_ n3_ n4_ n5_ n6_ n7_ n8_ n9_ n10_ n11_ n12_ n13_ n14_ n15_ n16_ n17_ n18_
    have hHeld : w41.cell? ⟨gb174, 0, none⟩ = some (.slice (some ad192) x175000_1.length co38) ∧ w41.cell? ⟨gb181, 0, none⟩ = some (.slice (some ad193) t178.length co15) ∧ w41.cell? (ad192.add (((rd x9_1 x33_2)).toNat * 2)) = some (.int .i64 ((rd_T74 x175000_1 (rd x9_1 x33_2)).f0)) ∧ w41.cell? ⟨(ad192.add (((rd x9_1 x33_2)).toNat * 2)).block, (ad192.add (((rd x9_1 x33_2)).toNat * 2)).off + 1, none⟩ = some (.slice A192_1 ((rd_T74 x175000_1 (rd x9_1 x33_2)).f1).length c192_1) ∧ w41.cell? (ad193.add ((rd x9_1 x33_2)).toNat) = some (.int .i64 (rd t178 (rd x9_1 x33_2))) := hS_
    obtain ⟨Ao43, co43, eo43⟩ := Kd.V_slice HO197.out
    (first | subst eo43 | (injection eo43 with f1_ f2_ f3_; have f4_ := f1_.symm; have f5_ := f3_.symm; clear f1_ f2_ f3_; subst f4_; subst f5_))
    refine norm_ (a' := ?_) ?_ ?_
    rotate_left
    ·simp only [putAll, Act.put, List.setIfInBounds_toArray, List.set_cons_zero, List.set_cons_succ]
     rfl
    refine one_ (i := 13) (N := none) #[T4, T4, T4, T4, T4, T4, T4, T4, T4, T4, T4, T4, T4, T4] rfl rfl (one_of HT_.out (by kernel_rfl)) (by decide) (fun K hK => ?_)
    have hs42 : w41.cell? ⟨gb198, 0, none⟩ = some (.int .i64 0) := (blk_cell BK198.out 0).trans rfl
    have hfs42 := blk_frozen BK198.out 0
    have hns42_0 := NB174_198.out
    have hns42_1 := NB181_198.out
    have hns42_2 := NB182_198.out
    have hms42_0 := NB198_174.out
    have hms42_1 := NB198_181.out
    have hms42_2 := NB198_182.out
    have hs44 : w41.cell? ⟨gb198, 1, none⟩ = some (.slice none 0 0) := (blk_cell BK198.out 1).trans rfl
    have hfs44 := blk_frozen BK198.out 1
    have hns44_0 := NB174_198.out
    have hns44_1 := NB181_198.out
    have hns44_2 := NB182_198.out
    have hms44_0 := NB198_174.out
    have hms44_1 := NB198_181.out
    have hms44_2 := NB198_182.out
    refine skip_ (w1 := ?_) (by rfl) rfl ?_ ?_
    rotate_left
    ·go_simp
     rfl
    refine hK.out _ _ ⟨((cell_far (p := ⟨gb198, _, none⟩) NB174_198.out _).trans (((cell_far (p := ⟨gb198, _, none⟩) NB174_198.out _).trans (hHeld.1)))), ((cell_far (p := ⟨gb198, _, none⟩) NB181_198.out _).trans (((cell_far (p := ⟨gb198, _, none⟩) NB181_198.out _).trans (hHeld.2.1)))), ((cell_far (p := ⟨gb198, _, none⟩) qx4_9 _).trans (((cell_far (p := ⟨gb198, _, none⟩) qx4_9 _).trans (hHeld.2.2.1)))), ((cell_far (p := ⟨gb198, _, none⟩) qx4_9 _).trans (((cell_far (p := ⟨gb198, _, none⟩) qx4_9 _).trans (hHeld.2.2.2.1)))), ((cell_far (p := ⟨gb198, _, none⟩) qx4_25 _).trans (((cell_far (p := ⟨gb198, _, none⟩) qx4_25 _).trans (hHeld.2.2.2.2))))⟩ (fun hHeld => ?_)
    clear hK K
    refine done_ (done_of HT_.out (by kernel_rfl)) ?_
    go_upto_region 15 with (fail)
    go_cut [77] (fun v77 wc => ∃ (kq : Nat) (x77_35 : Bool), v77 = .bool x77_35 ∧ Aside0 (segmentation_solve.j3 kq l0 a1 a2 x9_1 (wrap64 (x10_2 + 1)) x11_1 (x9_1.length : Int) x33_2 x77_35 x175000_1 t178 x183000_2 x183001_2 t194 t195 = some (r1, r2)) ∧ Aside0 (kq ≤ kj22) ∧ Aside0 (Kd.R (Kd.int .i64) 3 wc w.heap.size (fun k_ => (w.heap.size ≤ k_) ∧ some k_ ≠ ((.slice (some ad193) t178.length co15) : Value).ownBlock) (.slice (some ad189) x9_1.length co19) x9_1) ∧ Aside0 (Kd.N k74 74 wc w.heap.size (fun k_ => (w.heap.size ≤ k_) ∧ some k_ ≠ ((.slice (some ad189) x9_1.length co19) : Value).ownBlock ∧ some k_ ≠ ((.slice (some ad193) t178.length co15) : Value).ownBlock ∧ k_ ≠ gb174 ∧ k_ ≠ gb181 ∧ k_ ≠ gb182 ∧ k_ ≠ gb198) (.slice (some ad192) x175000_1.length co38) x175000_1) ∧ Aside0 (Kd.R (Kd.int .i64) 3 wc w.heap.size (fun k_ => (w.heap.size ≤ k_) ∧ some k_ ≠ ((.slice (some ad189) x9_1.length co19) : Value).ownBlock) (.slice (some ad193) t178.length co15) t178) ∧ Aside0 (Kd.V (Kd.int .i64) 3 wc w.heap.size (fun k_ => (w.heap.size ≤ k_) ∧ some k_ ≠ ((.slice (some ad189) x9_1.length co19) : Value).ownBlock ∧ some k_ ≠ ((.slice (some ad192) x175000_1.length co38) : Value).ownBlock ∧ some k_ ≠ ((.slice (some ad193) t178.length co15) : Value).ownBlock ∧ k_ ≠ gb174 ∧ k_ ≠ gb181 ∧ k_ ≠ gb182 ∧ k_ ≠ gb198) u183001 x183001_2) ∧ Aside0 (Kd.V (Kd.int .i64) 3 wc w.heap.size (fun k_ => (w.heap.size ≤ k_) ∧ some k_ ≠ ((.slice (some ad189) x9_1.length co19) : Value).ownBlock ∧ some k_ ≠ ((.slice (some ad192) x175000_1.length co38) : Value).ownBlock ∧ some k_ ≠ ((.slice (some ad193) t178.length co15) : Value).ownBlock ∧ k_ ≠ gb174 ∧ k_ ≠ gb181 ∧ k_ ≠ gb182 ∧ k_ ≠ gb198) (.slice Ao43 t195.length co43) t195) ∧ Aside0 (wc.heap[gb174]? = some (.cells #[(.slice (some ad192) x175000_1.length co38)] 69 (0, 0))) ∧ Aside0 (wc.heap[gb181]? = some (.cells #[(.slice (some ad193) t178.length co15)] 24 (0, 0))) ∧ Aside0 (wc.heap[gb182]? = some (.cells #[.int .i64 x183000_2, u183001] 74 (0, 0))) ∧ Aside0 (wc.heap[gb198]? = some (.cells #[.int .i64 t194, (.slice Ao43 t195.length co43)] 74 (0, 0))) ∧ Aside0 (Below w.heap.size w wc))
    case first =>
     have H := HC36.out
     clear HC36
     by_cases c45 : x33_2 = 0
     ·rw [if_pos c45] at H
      have c45b0 : (x33_2 == 0) = true := beq_iff_eq.mpr c45
      have c45b1 : (x33_2 != 0) = false := bne_eq_false_iff_eq.mpr c45
      clear c45
      (first | rw [c45b0] | (simp only [i64_w, i32_w]; rw [c45b0]) | skip)
      have H' := Aside0.mk H
      clear H
      go_wp2
      go_meet
      case rel => exact ⟨_, (true), qx4_10, H', ⟨by have := HK1.out; have := HK2.out; have := HJ22.out; first | omega | exact Nat.le_refl _⟩, ⟨by (with_reducible repeat (first | apply Kd.R_alloc | apply Kd.R_drewN | apply Kd.R_drew)); exact Kd.R_mono (Kd.R_far (p := ⟨gb198, 1, none⟩) (Kd.R_far (p := ⟨gb198, 0, none⟩) (Kd.R_types HO_9.out BK198.out (by decide)) (fun _ hk => hk.2) (.int .i64 t194)) (fun _ hk => hk.2) (.slice Ao43 t195.length co43)) (fun _ hk => ⟨hk.1.1, hk.1.2⟩)⟩, ⟨by (with_reducible repeat (first | apply Kd.N_alloc | apply Kd.N_drewN | apply Kd.N_drew)); exact Kd.N_mono (Kd.N_far (p := ⟨gb198, 1, none⟩) (Kd.N_far (p := ⟨gb198, 0, none⟩) (Kd.N_mono HO_175000.out (fun k_ hk => (⟨hk, hk.2.2.2.2.2.2⟩ : _ ∧ k_ ≠ gb198))) (fun _ hk => hk.2) (.int .i64 t194)) (fun _ hk => hk.2) (.slice Ao43 t195.length co43)) (fun _ hk => ⟨hk.1.1, ⟨hk.1.2.2.1, ⟨hk.1.2.1, ⟨hk.1.2.2.2.1, ⟨hk.1.2.2.2.2.1, ⟨hk.1.2.2.2.2.2.1, hk.1.2.2.2.2.2.2⟩⟩⟩⟩⟩⟩)⟩, ⟨by (with_reducible repeat (first | apply Kd.R_alloc | apply Kd.R_drewN | apply Kd.R_drew)); exact Kd.R_mono (Kd.R_far (p := ⟨gb198, 1, none⟩) (Kd.R_far (p := ⟨gb198, 0, none⟩) (Kd.R_types HO_182000.out BK198.out (by decide)) (fun _ hk => hk.2) (.int .i64 t194)) (fun _ hk => hk.2) (.slice Ao43 t195.length co43)) (fun _ hk => ⟨hk.1.1, hk.1.2⟩)⟩, ⟨by (with_reducible repeat (first | apply Kd.V_alloc | apply Kd.V_drewN | apply Kd.V_drew)); exact Kd.V_mono (Kd.V_far (p := ⟨gb198, 1, none⟩) (Kd.V_far (p := ⟨gb198, 0, none⟩) (Kd.V_mono HO_183001.out (fun k_ hk => (⟨hk, hk.2.2.2.2.2.2.2⟩ : _ ∧ k_ ≠ gb198))) (fun _ hk => hk.2) (.int .i64 t194)) (fun _ hk => hk.2) (.slice Ao43 t195.length co43)) (fun _ hk => ⟨hk.1.1, ⟨hk.1.2.2.2.1, ⟨hk.1.2.1, ⟨hk.1.2.2.1, ⟨hk.1.2.2.2.2.1, ⟨hk.1.2.2.2.2.2.1, ⟨hk.1.2.2.2.2.2.2.1, hk.1.2.2.2.2.2.2.2⟩⟩⟩⟩⟩⟩⟩)⟩, ⟨by (with_reducible repeat (first | apply Kd.V_alloc | apply Kd.V_drewN | apply Kd.V_drew)); exact Kd.V_mono (Kd.V_far (p := ⟨gb198, 1, none⟩) (Kd.V_far (p := ⟨gb198, 0, none⟩) (Kd.V_mono HO197.out (fun k_ hk => (⟨hk, hk.2.2.2.2.2.2.2⟩ : _ ∧ k_ ≠ gb198))) (fun _ hk => hk.2) (.int .i64 t194)) (fun _ hk => hk.2) (.slice Ao43 t195.length co43)) (fun _ hk => ⟨hk.1.1, ⟨hk.1.2.2.2.1, ⟨hk.1.2.1, ⟨hk.1.2.2.1, ⟨hk.1.2.2.2.2.1, ⟨hk.1.2.2.2.2.2.1, ⟨hk.1.2.2.2.2.2.2.1, hk.1.2.2.2.2.2.2.2⟩⟩⟩⟩⟩⟩⟩)⟩, ⟨qx4_20⟩, ⟨qx4_21⟩, ⟨qx4_22⟩, ⟨qx4_18⟩, ⟨qx4_2⟩⟩
     rw [if_neg c45] at H
     have c45b0 : (x33_2 == 0) = false := beq_eq_false_iff_ne.mpr c45
     have c45b1 : (x33_2 != 0) = true := bne_iff_ne.mpr c45
     (first | rw [c45b0] | (simp only [i64_w, i32_w]; rw [c45b0]) | skip)
     replace H := Option.bind_eq_some_iff.mp H
     obtain ⟨t199, A460, H⟩ := H
     replace H : (segmentation_solve.j3 kj22 l0 a1 a2 x9_1 (wrap64 (x10_2 + 1)) x11_1 (x9_1.length : Int) x33_2 t199 x175000_1 t178 x183000_2 x183001_2 t194 t195) = some (r1, r2) := H
     have A46 := Aside0.mk A460
     clear A460
     have H' := Aside0.mk H
     clear H
     have hnb47 := NB198_174.out
     have hnc47 := NB174_198.out
     have hnb48 := NB198_181.out
     have hnc48 := NB181_198.out
     have hnb49 := NB198_182.out
     have hnc49 := NB182_198.out
     have hcz50_0 : w41.cell? ⟨gb198, 0, none⟩ = some (.int .i64 0) := (blk_cell BK198.out 0).trans rfl
     have hcz50_1 : w41.cell? ⟨gb198, 1, none⟩ = some (.slice none 0 0) := (blk_cell BK198.out 1).trans rfl
     have hfz50_0 := blk_frozen BK198.out 0
     have hfz50_1 := blk_frozen BK198.out 1
     have hnb51 := NB182_174.out
     have hnc51 := NB174_182.out
     have hnb52 := NB182_181.out
     have hnc52 := NB181_182.out
     have hcz53_0 : w41.cell? ⟨gb182, 0, none⟩ = some (.int .i64 x183000_2) := (blk_cell BK182.out 0).trans rfl
     have hcz53_1 : w41.cell? ⟨gb182, 1, none⟩ = some (u183001) := (blk_cell BK182.out 1).trans rfl
     have hfz53_0 := blk_frozen BK182.out 0
     have hfz53_1 := blk_frozen BK182.out 1
     obtain ⟨Ao54, co54, eo54⟩ := Kd.V_slice HO_183001.out
     subst eo54
     go_wp2_with (first | (go_at_call 47; (with_reducible refine (segmentation_best_better.calls kj22 t194 _ _ t195 x183000_2 _ _ x183001_2 t199 _ ?side1 ?side2 ?side3 ?side4 A46.out).mono ?_); (case side1 => refine (Kd.V_reads' (e := 3) (base := w.heap.size) (ok := fun k_ => ((w.heap.size ≤ k_) ∧ (some k_ ≠ (.slice (some ad192) x175000_1.length co38 : Value).ownBlock ∧ (some k_ ≠ (.slice (some ad193) t178.length co15 : Value).ownBlock ∧ (some k_ ≠ (.slice (some ad189) x9_1.length co19 : Value).ownBlock ∧ (k_ ≠ gb174 ∧ (k_ ≠ gb181 ∧ (k_ ≠ gb182 ∧ k_ ≠ gb198)))))))) (n := t195.length) (c := co43) ?_).2.2; exact qx4_24); (case side2 => exact (Kd.V_reads' HO197.out).2.1); (case side3 => refine (Kd.V_reads' (e := 3) (base := w.heap.size) (ok := fun k_ => ((w.heap.size ≤ k_) ∧ (some k_ ≠ (.slice (some ad192) x175000_1.length co38 : Value).ownBlock ∧ (some k_ ≠ (.slice (some ad193) t178.length co15 : Value).ownBlock ∧ (some k_ ≠ (.slice (some ad189) x9_1.length co19 : Value).ownBlock ∧ (k_ ≠ gb174 ∧ (k_ ≠ gb181 ∧ (k_ ≠ gb182 ∧ k_ ≠ gb198)))))))) (n := x183001_2.length) (c := co54) ?_).2.2; exact qx4_23); (case side4 => exact (Kd.V_reads' HO_183001.out).2.1); rintro e w55 ⟨rfl, hb⟩; have n0_ := Aside0.mk (Kd.R_below (by (with_reducible repeat (first | apply Kd.R_alloc | apply Kd.R_drewN | apply Kd.R_drew)); exact (Kd.R_mono (Kd.R_far (p := ⟨gb198, 1, none⟩) (Kd.R_far (p := ⟨gb198, 0, none⟩) (Kd.R_types HO_9.out BK198.out (by decide)) (fun _ hk => hk.2) (.int .i64 t194)) (fun _ hk => hk.2) (.slice Ao43 t195.length co43)) (fun _ h_ => h_.1))) hb); have n1_ := Aside0.mk (Kd.N_below (by (with_reducible repeat (first | apply Kd.N_alloc | apply Kd.N_drewN | apply Kd.N_drew)); exact (Kd.N_mono (Kd.N_far (p := ⟨gb198, 1, none⟩) (Kd.N_far (p := ⟨gb198, 0, none⟩) (Kd.N_mono HO_175000.out (fun k_ hk => (⟨hk, hk.2.2.2.2.2.2⟩ : _ ∧ k_ ≠ gb198))) (fun _ hk => hk.2) (.int .i64 t194)) (fun _ hk => hk.2) (.slice Ao43 t195.length co43)) (fun _ h_ => h_.1))) hb); have n2_ := Aside0.mk (Kd.R_below (by (with_reducible repeat (first | apply Kd.R_alloc | apply Kd.R_drewN | apply Kd.R_drew)); exact (Kd.R_mono (Kd.R_far (p := ⟨gb198, 1, none⟩) (Kd.R_far (p := ⟨gb198, 0, none⟩) (Kd.R_types HO_182000.out BK198.out (by decide)) (fun _ hk => hk.2) (.int .i64 t194)) (fun _ hk => hk.2) (.slice Ao43 t195.length co43)) (fun _ h_ => h_.1))) hb); have n3_ := Aside0.mk (Kd.V_below qx4_23 hb); have n4_ := Aside0.mk (Kd.V_below (by (with_reducible repeat (first | apply Kd.V_alloc | apply Kd.V_drewN | apply Kd.V_drew)); exact (Kd.V_mono (Kd.V_far (p := ⟨gb198, 1, none⟩) (Kd.V_far (p := ⟨gb198, 0, none⟩) (Kd.V_mono HL192_1.out (fun k_ hk => (⟨hk, hk.2.2.2.2.2.2.2⟩ : _ ∧ k_ ≠ gb198))) (fun _ hk => hk.2) (.int .i64 t194)) (fun _ hk => hk.2) (.slice Ao43 t195.length co43)) (fun _ h_ => h_.1))) hb); have n5_ := Aside0.mk (Kd.V_below qx4_24 hb); have n6_ := Aside0.mk (blk_below (g := gb174) (o := .cells #[.slice (some ad192) x175000_1.length co38] 69 (0, 0)) qx4_20 hb); have n7_ := Aside0.mk (blk_below (g := gb181) (o := .cells #[.slice (some ad193) t178.length co15] 24 (0, 0)) qx4_21 hb); have n8_ := Aside0.mk (blk_below (g := gb182) (o := .cells #[.int .i64 x183000_2, .slice Ao54 x183001_2.length co54] 74 (0, 0)) qx4_22 hb); have n9_ := Aside0.mk (blk_below (g := gb198) (o := .cells #[.int .i64 t194, .slice Ao43 t195.length co43] 74 (0, 0)) qx4_18 hb); have n10_ := Aside0.mk (below_step qx4_2 hb); clear HO_9; clear HO_175000; clear HO_182000; clear HO_183001; clear HL192_1; clear HO197; clear BK174; clear BK181; clear BK182; clear BK198; clear HB; have HO_9 := n0_; have HO_175000 := n1_; have HO_182000 := n2_; have HO_183001 := n3_; have HL192_1 := n4_; have HO197 := n5_; have BK174 := n6_; have BK181 := n7_; have BK182 := n8_; have BK198 := n9_; have HB := n10_; clear n0_ n1_ n2_ n3_ n4_ n5_ n6_ n7_ n8_ n9_ n10_; (try clear hb); (try clear hb2); (try clear hk); (try clear hi)))
     go_meet
     case rel => exact ⟨_, (t199), qx4_10, H', ⟨by have := HK1.out; have := HK2.out; have := HJ22.out; first | omega | exact Nat.le_refl _⟩, ⟨qx4_5⟩, ⟨by (with_reducible repeat (first | apply Kd.N_alloc | apply Kd.N_drewN | apply Kd.N_drew)); exact Kd.N_mono HO_175000.out (fun _ hk => ⟨hk.1, ⟨hk.2.2.1, ⟨hk.2.1, ⟨hk.2.2.2.1, ⟨hk.2.2.2.2.1, ⟨hk.2.2.2.2.2.1, hk.2.2.2.2.2.2⟩⟩⟩⟩⟩⟩)⟩, ⟨qx4_7⟩, ⟨by (with_reducible repeat (first | apply Kd.V_alloc | apply Kd.V_drewN | apply Kd.V_drew)); exact Kd.V_mono HO_183001.out (fun _ hk => ⟨hk.1, ⟨hk.2.2.2.1, ⟨hk.2.1, ⟨hk.2.2.1, ⟨hk.2.2.2.2.1, ⟨hk.2.2.2.2.2.1, ⟨hk.2.2.2.2.2.2.1, hk.2.2.2.2.2.2.2⟩⟩⟩⟩⟩⟩⟩)⟩, ⟨by (with_reducible repeat (first | apply Kd.V_alloc | apply Kd.V_drewN | apply Kd.V_drew)); exact Kd.V_mono HO197.out (fun _ hk => ⟨hk.1, ⟨hk.2.2.2.1, ⟨hk.2.1, ⟨hk.2.2.1, ⟨hk.2.2.2.2.1, ⟨hk.2.2.2.2.2.1, ⟨hk.2.2.2.2.2.2.1, hk.2.2.2.2.2.2.2⟩⟩⟩⟩⟩⟩⟩)⟩, ⟨qx4_1⟩, ⟨qx4_3⟩, ⟨qx4_4⟩, ⟨qx4_17⟩, ⟨qx4_2⟩⟩
    clear HC36
    try clear c1
    try clear p1
    try clear q1
    try clear hx1
    try clear c2
    try clear p2
    try clear c3
    try clear c4
    try clear c5
    try clear p6
    try clear p18
    try clear q18
    try clear hx18
    try clear c19
    try clear p19
    try clear q19
    try clear hx19
    try clear c20
    try clear c20b0
    try clear c21
    try clear c21b0
    try clear c22
    try clear c22b0
    try clear c24
    try clear c24b0
    try clear c25
    try clear c25b0
    try clear c26
    try clear c26b0
    try clear c27
    try clear c27b0
    try clear c31
    try clear c32
    try clear c32b0
    try clear c33
    try clear c33b0
    try clear c34
    try clear c34b0
    try clear c45
    try clear c45b0
    try clear c45b1
    try clear c46
    try clear c47
    try clear c48
    try clear c49
    try clear c51
    try clear c52
    try clear hcz17_0
    try clear hcz50_0
    try clear hcz50_1
    try clear hcz53_0
    try clear hcz53_1
    try clear hcz8_0
    try clear hfz17_0
    try clear hfz50_0
    try clear hfz50_1
    try clear hfz53_0
    try clear hfz53_1
    try clear hfz8_0
    try clear hx189_0
    try clear hx190_0
    try clear hx190_1
    try clear hx191_0
    try clear hx192_0
    try clear hx192_1
    try clear hx193_0
    try clear p189
    try clear p19
    try clear p190
    try clear p191
    try clear p192
    try clear p193
    try clear p2
    try clear p6
    try clear q189
    try clear q19
    try clear q190
    try clear q191
    try clear q192
    try clear q193
    obtain ⟨kq, x77_35, rfl, HA, HJ35, HO_9, HO_175000, HO_182000, HO_183001, HO_199001, BK174, BK181, BK182, BK198, HB⟩ := hcut
    cases kq with
    | zero => exact absurd HA.out (by simp [segmentation_solve.j3])
    | succ kj35 =>
     have H := HA.out
     clear HA
     simp only [segmentation_solve.j3] at H
     by_cases c56 : x77_35 = true
     rotate_left
     ·replace c56 := Bool.eq_false_iff.mpr c56
      subst c56
      have H1 : (segmentation_solve.l1 kj35 l0 a1 a2 x9_1 (wrap64 (x10_2 + 1)) x11_1 (x9_1.length : Int) (wrap64 (x33_2 + 1)) x175000_1 t178 x183000_2 x183001_2) = some (r1, r2) := by rw [if_neg (show ¬ (false = true) by decide)] at H; exact H
      clear H
      have H := H1
      clear H1
      have H' := Aside0.mk H
      clear H
      go_wp2
      go_roundg kj35
      case measure => have := HK1.out; have := HK2.out; have := HJ22.out; have := HJ35.out; omega
      case rel => exact ⟨((wrap64 (x10_2 + 1))), (wrap64 (x33_2 + 1)), (x183000_2), (x183001_2), (u183001), qx4_10, qx4_10, H', ⟨by have := HK1.out; have := HK2.out; have := HJ22.out; have := HJ35.out; omega⟩, ⟨qx4_5⟩, ⟨by (with_reducible repeat (first | apply Kd.N_alloc | apply Kd.N_drewN | apply Kd.N_drew)); exact Kd.N_mono HO_175000.out (fun _ hk => ⟨hk.1, ⟨hk.2.1, ⟨hk.2.2.1, ⟨hk.2.2.2.1, ⟨hk.2.2.2.2.1, hk.2.2.2.2.2.1⟩⟩⟩⟩⟩)⟩, ⟨qx4_7⟩, ⟨by (with_reducible repeat (first | apply Kd.V_alloc | apply Kd.V_drewN | apply Kd.V_drew)); exact Kd.V_mono HO_183001.out (fun _ hk => ⟨hk.1, ⟨hk.2.1, ⟨hk.2.2.1, ⟨hk.2.2.2.1, ⟨hk.2.2.2.2.1, ⟨hk.2.2.2.2.2.1, hk.2.2.2.2.2.2.1⟩⟩⟩⟩⟩⟩)⟩, ⟨qx4_1⟩, ⟨qx4_3⟩, ⟨qx4_4⟩, ⟨qx4_2⟩⟩
     subst c56
     have H1 : (segmentation_solve.l1 kj35 l0 a1 a2 x9_1 (wrap64 (x10_2 + 1)) x11_1 (x9_1.length : Int) (wrap64 (x33_2 + 1)) x175000_1 t178 t194 t195) = some (r1, r2) := by rw [if_pos rfl] at H; exact H
     clear H
     have H := H1
     clear H1
     have H' := Aside0.mk H
     clear H
     have hnb57 := NB198_174.out
     have hnc57 := NB174_198.out
     have hnb58 := NB198_181.out
     have hnc58 := NB181_198.out
     have hnb59 := NB198_182.out
     have hnc59 := NB182_198.out
     have hcz60_0 : wc.cell? ⟨gb198, 0, none⟩ = some (.int .i64 t194) := (blk_cell BK198.out 0).trans rfl
     have hcz60_1 : wc.cell? ⟨gb198, 1, none⟩ = some (.slice Ao43 t195.length co43) := (blk_cell BK198.out 1).trans rfl
     have hfz60_0 := blk_frozen BK198.out 0
     have hfz60_1 := blk_frozen BK198.out 1
     have hnb61 := NB182_174.out
     have hnc61 := NB174_182.out
     have hnb62 := NB182_181.out
     have hnc62 := NB181_182.out
     have hcz63_0 : wc.cell? ⟨gb182, 0, none⟩ = some (.int .i64 x183000_2) := (blk_cell BK182.out 0).trans rfl
     have hcz63_1 : wc.cell? ⟨gb182, 1, none⟩ = some (u183001) := (blk_cell BK182.out 1).trans rfl
     have hfz63_0 := blk_frozen BK182.out 0
     have hfz63_1 := blk_frozen BK182.out 1
     go_wp2
     go_roundg kj35
     case measure => have := HK1.out; have := HK2.out; have := HJ22.out; have := HJ35.out; omega
     case rel => exact ⟨((wrap64 (x10_2 + 1))), (wrap64 (x33_2 + 1)), (t194), (t195), (.slice Ao43 t195.length co43), qx4_10, qx4_10, H', ⟨by have := HK1.out; have := HK2.out; have := HJ22.out; have := HJ35.out; omega⟩, ⟨by (with_reducible repeat (first | apply Kd.R_alloc | apply Kd.R_drewN | apply Kd.R_drew)); exact Kd.R_mono (Kd.R_far (p := ⟨gb182, 1, none⟩) (Kd.R_far (p := ⟨gb182, 0, none⟩) (Kd.R_types HO_9.out BK182.out (by decide)) (fun _ hk => hk.2) (.int .i64 t194)) (fun _ hk => hk.2) (.slice Ao43 t195.length co43)) (fun _ hk => ⟨hk.1.1, hk.1.2⟩)⟩, ⟨by (with_reducible repeat (first | apply Kd.N_alloc | apply Kd.N_drewN | apply Kd.N_drew)); exact Kd.N_mono (Kd.N_far (p := ⟨gb182, 1, none⟩) (Kd.N_far (p := ⟨gb182, 0, none⟩) (Kd.N_mono HO_175000.out (fun k_ hk => (⟨hk, hk.2.2.2.2.2.1⟩ : _ ∧ k_ ≠ gb182))) (fun _ hk => hk.2) (.int .i64 t194)) (fun _ hk => hk.2) (.slice Ao43 t195.length co43)) (fun _ hk => ⟨hk.1.1, ⟨hk.1.2.1, ⟨hk.1.2.2.1, ⟨hk.1.2.2.2.1, ⟨hk.1.2.2.2.2.1, hk.1.2.2.2.2.2.1⟩⟩⟩⟩⟩)⟩, ⟨by (with_reducible repeat (first | apply Kd.R_alloc | apply Kd.R_drewN | apply Kd.R_drew)); exact Kd.R_mono (Kd.R_far (p := ⟨gb182, 1, none⟩) (Kd.R_far (p := ⟨gb182, 0, none⟩) (Kd.R_types HO_182000.out BK182.out (by decide)) (fun _ hk => hk.2) (.int .i64 t194)) (fun _ hk => hk.2) (.slice Ao43 t195.length co43)) (fun _ hk => ⟨hk.1.1, hk.1.2⟩)⟩, ⟨by (with_reducible repeat (first | apply Kd.V_alloc | apply Kd.V_drewN | apply Kd.V_drew)); exact Kd.V_mono (Kd.V_far (p := ⟨gb182, 1, none⟩) (Kd.V_far (p := ⟨gb182, 0, none⟩) (Kd.V_mono HO_199001.out (fun k_ hk => (⟨hk, hk.2.2.2.2.2.2.1⟩ : _ ∧ k_ ≠ gb182))) (fun _ hk => hk.2) (.int .i64 t194)) (fun _ hk => hk.2) (.slice Ao43 t195.length co43)) (fun _ hk => ⟨hk.1.1, ⟨hk.1.2.1, ⟨hk.1.2.2.1, ⟨hk.1.2.2.2.1, ⟨hk.1.2.2.2.2.1, ⟨hk.1.2.2.2.2.2.1, hk.1.2.2.2.2.2.2.1⟩⟩⟩⟩⟩⟩)⟩, ⟨by (with_reducible repeat (first | refine blk_drewN ?_ _ | refine blk_drew ?_ | refine blk_alloc ?_ _)); refine blk_far ?_ NB174_182.out _; (with_reducible repeat (first | refine blk_drewN ?_ _ | refine blk_drew ?_ | refine blk_alloc ?_ _)); refine blk_far ?_ NB174_182.out _; (with_reducible repeat (first | refine blk_drewN ?_ _ | refine blk_drew ?_ | refine blk_alloc ?_ _)); exact BK174.out⟩, ⟨by (with_reducible repeat (first | refine blk_drewN ?_ _ | refine blk_drew ?_ | refine blk_alloc ?_ _)); refine blk_far ?_ NB181_182.out _; (with_reducible repeat (first | refine blk_drewN ?_ _ | refine blk_drew ?_ | refine blk_alloc ?_ _)); refine blk_far ?_ NB181_182.out _; (with_reducible repeat (first | refine blk_drewN ?_ _ | refine blk_drew ?_ | refine blk_alloc ?_ _)); exact BK181.out⟩, ⟨by (with_reducible repeat (first | refine blk_drewN ?_ _ | refine blk_drew ?_ | refine blk_alloc ?_ _)); refine blk_put (cs := #[.int .i64 t194, u183001]) ?_ 1 _ rfl; (with_reducible repeat (first | refine blk_drewN ?_ _ | refine blk_drew ?_ | refine blk_alloc ?_ _)); refine blk_put (cs := #[.int .i64 x183000_2, u183001]) ?_ 0 _ rfl; (with_reducible repeat (first | refine blk_drewN ?_ _ | refine blk_drew ?_ | refine blk_alloc ?_ _)); exact BK182.out⟩, ⟨qx4_2⟩⟩

end Go.Proofs.Ytiimanpmidnffaa.Q
