-- Laid by myprint.py (a program of this session's, over the kit's printer and with functions proved by hand)
import Derived.Test.YtiimanpmidnffaaQx0
import Derived.Test.YtiimanpmidnffaaQx1
import Derived.Test.YtiimanpmidnffaaQx4
import Derived.Test.YtiimanpmidnffaaQx5
import Derived.Test.YtiimanpmidnffaaQx6
namespace Go.Proofs.Ytiimanpmidnffaa.Q
open Go.RowKit Go.Proofs.YtiimanpmidnffaaW.PrintWords Go.Proofs.YtiimanpmidnffaaW.PrintLast Go.Proofs.YtiimanpmidnffaaW.PrintMore
attribute [local go_sem] max2_int min2_int max_two min_two max_three min_three max_four min_four   -- for this text's walks alone
set_option linter.unusedVariables false
set_option linter.unusedSimpArgs false

theorem qy6_0 {p : Prop} (h : p := by repeat (first | (with_reducible first | exact HB.out | apply below_alloc | apply pw_below_drewN | apply below_drew1 | refine below_set ?_ GE441.out) | exact HB.out)) : p := h
theorem qy6_1 {p : Prop} (h : p := by repeat (first | (with_reducible first | exact HB.out | apply below_alloc | apply pw_below_drewN | apply below_drew1) | exact HB.out)) : p := h
theorem qy6_2 {p : Prop} (h : p := by (with_reducible repeat (first | refine blk_drewN ?_ _ | refine blk_drew ?_ | refine blk_alloc ?_ _)); exact BK441.out) : p := h
theorem qy6_3 {p : Prop} (h : p := by (try simp only [List.map_toArray, List.map_cons, List.map_nil]); first | done | rfl | (simp only [List.length_drop, List.length_take]; rfl)) : p := h
theorem qy6_4 {p : Prop} (h : p := by repeat (first | exact (Kd.C_below HR0.out HB.out) | (with_reducible refine Kd.C_alloc ?_ _) | (with_reducible refine Kd.C_drewN ?_ _) | (with_reducible refine Kd.C_drew ?_))) : p := h
/-! ### segmentation_Pruned: function 25 -/
def segmentation_Pruned.f (k : Nat) (l0 : List Int) (a1 : Int) : Option (List Int × Int × Int × Int) := (segmentation_Check.f k l0 a1).bind fun t442 => (if t442 = 0 then ((segmentation_solve.f k l0 a1 true).bind fun bt443 => ((segmentation_segmentation.f bt443.1).bind fun bt447 => (some (bt447.1, bt447.2, bt443.2, 0)))) else (some (([] : List Int), 0, 0, t442)))
theorem segmentation_Pruned.mono : ∀ a0 a1 k, LeO (segmentation_Pruned.f k a0 a1) (segmentation_Pruned.f (k + 1) a0 a1) := by
 intro a0 a1 k
 unfold segmentation_Pruned.f
 repeat' first
   | (with_reducible exact segmentation_Check.mono _ _ _)
   | (with_reducible exact segmentation_solve.mono _ _ _ _)
   | (with_reducible exact LeO.refl _)
   | (with_reducible exact LeO.none _)
   | (with_reducible refine LeO.ite ?_ ?_)
   | (with_reducible refine LeO.bind ?_ (fun _ => ?_))
   | exact segmentation_Check.mono _ _ _
   | exact segmentation_solve.mono _ _ _ _
   | exact LeO.none _
   | refine LeO.ite ?_ ?_
   | refine LeO.bind ?_ (fun _ => ?_)
set_option maxHeartbeats 8000000 in
set_option maxRecDepth 100000 in
theorem segmentation_Pruned.calls (k : Nat) (A0 : Option Addr) (c0 : Nat) (l0 : List Int) (a1 : Int) (r1 : List Int) (r2 : Int) (r3 : Int) (r4 : Int) (w : World) (hr0 : Kd.C (Kd.int .i64) w A0 l0.length l0) (hc0 : l0.length ≤ c0) (h : segmentation_Pruned.f k l0 a1 = some (r1, r2, r3, r4)) :
  Calls Try.prog 25 #[.slice A0 l0.length c0, .int .i64 a1] w fun e w' => ∃ v0_ : Value, e = .returned (.tuple #[.agg #[v0_, .int .i64 r2], .int .i64 r3, .int .i64 r4]) ∧ Kd.R (Kd.int .i64) 3 w' w.heap.size (fun _ => True) v0_ r1 ∧ Below w.heap.size w w' := by
 have hu27 := Try.underlying27
 have HR0 := Aside0.mk hr0
 have HC0 := Aside0.mk hc0
 clear hr0 hc0
 have HB := Aside0.mk (Below.refl w.heap.size w)
 have H : ((segmentation_Check.f k l0 a1).bind fun t442 => (if t442 = 0 then ((segmentation_solve.f k l0 a1 true).bind fun bt443 => ((segmentation_segmentation.f bt443.1).bind fun bt447 => (some (bt447.1, bt447.2, bt443.2, 0)))) else (some (([] : List Int), 0, 0, t442)))) = some (r1, r2, r3, r4) := h
 clear h
 replace H := Option.bind_eq_some_iff.mp H
 obtain ⟨t442, A30, H⟩ := H
 replace H : (if t442 = 0 then ((segmentation_solve.f k l0 a1 true).bind fun bt443 => ((segmentation_segmentation.f bt443.1).bind fun bt447 => (some (bt447.1, bt447.2, bt443.2, 0)))) else (some (([] : List Int), 0, 0, t442))) = some (r1, r2, r3, r4) := H
 have A3 := Aside0.mk A30
 clear A30
 by_cases c4 : t442 = 0
 ·rw [if_pos c4] at H
  have c4b0 : (t442 == 0) = true := beq_iff_eq.mpr c4
  have c4b1 : (t442 != 0) = false := bne_eq_false_iff_eq.mpr c4
  clear c4
  replace H := Option.bind_eq_some_iff.mp H
  obtain ⟨⟨t443, t446⟩, A50, H⟩ := H
  replace H : ((segmentation_segmentation.f t443).bind fun bt447 => (some (bt447.1, bt447.2, t446, 0))) = some (r1, r2, r3, r4) := H
  have A5 := Aside0.mk A50
  clear A50
  replace H := Option.bind_eq_some_iff.mp H
  obtain ⟨⟨t447, t450⟩, A60, H⟩ := H
  replace H : (some (t447, t450, t446, 0)) = some (r1, r2, r3, r4) := H
  have A6 := Aside0.mk A60
  clear A60
  simp only [Option.some.injEq, Prod.mk.injEq] at H
  obtain ⟨rfl, rfl, rfl, rfl⟩ := H
  go_enter Try.func25, Try.ntmps25
  go_wp2_with (first | ((with_reducible refine gate_dst (N := 4) rfl ?_); refine box_event ?hg (N := 4) ?hd (cs := #[.slice none 0 0, .int .i64 0]) (t := 27) ?hr ?_; (case hd => rfl); (case hg => rfl); (case hr => first | (go_simp; done) | (go_simp; rfl)); intro gb441 hg w7 hbox hb; have n0_ := Aside0.mk (below_step qy6_1 hb); have n1_ := Aside0.mk (hbox); have n2_ := Aside0.mk ((by rw [hg]; exact (below_size qy6_1) : w.heap.size ≤ gb441)); have n3_ := Aside0.mk ((by rw [hg]; exact (below_size qy6_1) : w.heap.size ≤ gb441)); clear HB; have HB := n0_; have BK441 := n1_; have GW441 := n2_; have GE441 := n3_; clear n0_ n1_ n2_ n3_; clear hb hbox hg) | ((with_reducible refine gate_callee (f := 36) rfl ?_); refine goesL_ (some 12) rfl rfl Try.func36 (by kernel_rfl) rfl #[.slice A0 l0.length c0, .int .i64 a1] rfl qy6_3 ?_; (with_reducible refine (segmentation_Check.calls k _ _ l0 a1 t442 _ ?side1 ?side2 A3.out).mono ?_); (case side1 => exact qy6_4); (case side2 => exact HC0.out); rintro e w' ⟨rfl, ⟨nd, rfl⟩⟩; refine ⟨_, rfl, ?_⟩; (try (rw [drewN_self w7]; generalize hq_ : World.drewN w7 _ = w7; have n0_ : Aside0 (w7.heap[gb441]? = some (.cells #[.slice none 0 0, .int .i64 0] 27 (0, 0))) := ⟨by rw [← hq_]; exact qy6_2⟩; have n1_ : Aside0 (Below w.heap.size w w7) := ⟨by rw [← hq_]; exact qy6_0⟩; clear BK441 HB hq_; have BK441 := n0_; have HB := n1_; clear n0_ n1_))) | ((with_reducible refine gate_callee (f := 37) rfl ?_); refine goesL_ (some 20) rfl rfl Try.func37 (by kernel_rfl) rfl #[.slice A0 l0.length c0, .int .i64 a1, .bool true] rfl qy6_3 ?_; (with_reducible refine (segmentation_solve.calls k _ _ l0 a1 true t443 t446 _ ?side1 ?side2 A5.out).mono ?_); (case side1 => exact qy6_4); (case side2 => exact HC0.out); rintro e w8 ⟨v444, rfl, ho0, hb⟩; refine ⟨_, rfl, ?_⟩; have n0_ := Aside0.mk (Kd.N_lower (Kd.N_mono (ok' := fun k_ => k_ ≠ gb441) ho0 (fun k_ hk_ => (Kd.freshB (g := gb441) (o := .cells #[.slice none 0 0, .int .i64 0] 27 (0, 0)) qy6_2 k_ hk_))) (below_size qy6_0)); have n1_ := Aside0.mk (blk_below (g := gb441) (o := .cells #[.slice none 0 0, .int .i64 0] 27 (0, 0)) qy6_2 hb); have n2_ := Aside0.mk (below_step qy6_0 hb); clear BK441; clear HB; have HO445 := n0_; have BK441 := n1_; have HB := n2_; clear n0_ n1_ n2_; (try clear hb); (try clear hb2); (try clear hk); (try clear hi); (try clear ho0); obtain ⟨Ao9, co9, eo9⟩ := Kd.N_slice HO445.out; subst eo9) | ((with_reducible refine gate_callee (f := 38) rfl ?_); refine goesL_ (some 24) rfl rfl Try.func38 (by kernel_rfl) rfl #[.slice Ao9 t443.length co9] rfl qy6_3 ?_; (with_reducible refine (segmentation_segmentation.calls _ _ t443 t447 t450 _ ?side1 ?side2 A6.out).mono ?_); (case side1 => repeat (first | exact (Kd.N_reads' HO445.out).2.2 | (with_reducible refine Kd.C_alloc ?_ _) | (with_reducible refine Kd.C_drewN ?_ _) | (with_reducible refine Kd.C_drew ?_))); (case side2 => exact (Kd.N_reads' HO445.out).2.1); rintro e w10 ⟨v448, rfl, ho0, hb⟩; refine ⟨_, rfl, ?_⟩; have n0_ := Aside0.mk (Kd.N_elder' (by (with_reducible repeat (first | apply Kd.N_alloc | apply Kd.N_drewN | apply Kd.N_drew)); exact HO445.out) (Kd.R_base ho0) hb); have n1_ := Aside0.mk (Kd.R_lower ho0 (below_size qy6_0)); have n2_ := Aside0.mk (blk_below (g := gb441) (o := .cells #[.slice none 0 0, .int .i64 0] 27 (0, 0)) qy6_2 hb); have n3_ := Aside0.mk (below_step qy6_0 hb); clear HO445; clear BK441; clear HB; have HO445 := n0_; have HO449 := n1_; have BK441 := n2_; have HB := n3_; clear n0_ n1_ n2_ n3_; (try clear hb); (try clear hb2); (try clear hk); (try clear hi); (try clear ho0); obtain ⟨Ao11, co11, eo11⟩ := Kd.R_slice HO449.out; subst eo11; have hcz12_0 : w10.cell? ⟨gb441, 0, none⟩ = some (.slice none 0 0) := (blk_cell BK441.out 0).trans rfl; have hcz12_1 : w10.cell? ⟨gb441, 1, none⟩ = some (.int .i64 0) := (blk_cell BK441.out 1).trans rfl; have hfz12_0 := blk_frozen BK441.out 0; have hfz12_1 := blk_frozen BK441.out 1))
  refine bodyPost_ret (results_ctt rfl _ _ gb441 27 #[.slice Ao11 t447.length co11, .int .i64 t450] (0, 0) _ rfl (by (with_reducible repeat (first | refine blk_drewN ?_ _ | refine blk_drew ?_ | refine blk_alloc ?_ _)); refine blk_put (cs := #[.slice Ao11 t447.length co11, .int .i64 0]) ?_ 1 _ rfl; (with_reducible repeat (first | refine blk_drewN ?_ _ | refine blk_drew ?_ | refine blk_alloc ?_ _)); refine blk_put (cs := #[.slice none 0 0, .int .i64 0]) ?_ 0 _ rfl; (with_reducible repeat (first | refine blk_drewN ?_ _ | refine blk_drew ?_ | refine blk_alloc ?_ _)); exact BK441.out) Try.underlying27 rfl (by kernel_rfl)) rfl ?_
  exact ⟨_, by first | rfl | (simp [errW_none, errW_some] <;> rfl) | (simp [*, errW_none, errW_some] <;> rfl), by (with_reducible repeat (first | apply Kd.R_alloc | apply Kd.R_drewN | apply Kd.R_drew)); exact Kd.R_mono (Kd.R_far (p := ⟨gb441, 1, none⟩) (Kd.R_far (p := ⟨gb441, 0, none⟩) (Kd.R_types HO449.out BK441.out (by decide)) (fun _ hk => hk.2) (.slice Ao11 t447.length co11)) (fun _ hk => hk.2) (.int .i64 t450)) (fun _ hk => trivial), qy6_0⟩
 ·rw [if_neg c4] at H
  have c4b0 : (t442 == 0) = false := beq_eq_false_iff_ne.mpr c4
  have c4b1 : (t442 != 0) = true := bne_iff_ne.mpr c4
  simp only [Option.some.injEq, Prod.mk.injEq] at H
  obtain ⟨rfl, rfl, rfl, rfl⟩ := H
  go_enter Try.func25, Try.ntmps25
  go_wp2_with (first | ((with_reducible refine gate_dst (N := 4) rfl ?_); refine box_event ?hg (N := 4) ?hd (cs := #[.slice none 0 0, .int .i64 0]) (t := 27) ?hr ?_; (case hd => rfl); (case hg => rfl); (case hr => first | (go_simp; done) | (go_simp; rfl)); intro gb441 hg w13 hbox hb; have n0_ := Aside0.mk (below_step qy6_1 hb); have n1_ := Aside0.mk (hbox); have n2_ := Aside0.mk ((by rw [hg]; exact (below_size qy6_1) : w.heap.size ≤ gb441)); have n3_ := Aside0.mk ((by rw [hg]; exact (below_size qy6_1) : w.heap.size ≤ gb441)); clear HB; have HB := n0_; have BK441 := n1_; have GW441 := n2_; have GE441 := n3_; clear n0_ n1_ n2_ n3_; clear hb hbox hg) | ((with_reducible refine gate_callee (f := 36) rfl ?_); refine goesL_ (some 12) rfl rfl Try.func36 (by kernel_rfl) rfl #[.slice A0 l0.length c0, .int .i64 a1] rfl qy6_3 ?_; (with_reducible refine (segmentation_Check.calls k _ _ l0 a1 t442 _ ?side1 ?side2 A3.out).mono ?_); (case side1 => exact qy6_4); (case side2 => exact HC0.out); rintro e w' ⟨rfl, ⟨nd, rfl⟩⟩; refine ⟨_, rfl, ?_⟩; (try (rw [drewN_self w13]; generalize hq_ : World.drewN w13 _ = w13; have n0_ : Aside0 (w13.heap[gb441]? = some (.cells #[.slice none 0 0, .int .i64 0] 27 (0, 0))) := ⟨by rw [← hq_]; exact qy6_2⟩; have n1_ : Aside0 (Below w.heap.size w w13) := ⟨by rw [← hq_]; exact qy6_0⟩; clear BK441 HB hq_; have BK441 := n0_; have HB := n1_; clear n0_ n1_)); have hcz14_0 : w13.cell? ⟨gb441, 0, none⟩ = some (.slice none 0 0) := (blk_cell BK441.out 0).trans rfl; have hcz14_1 : w13.cell? ⟨gb441, 1, none⟩ = some (.int .i64 0) := (blk_cell BK441.out 1).trans rfl; have hfz14_0 := blk_frozen BK441.out 0; have hfz14_1 := blk_frozen BK441.out 1))
  refine bodyPost_ret (results_ctt rfl _ _ gb441 27 #[.slice none 0 0, .int .i64 0] (0, 0) _ rfl (by (with_reducible repeat (first | refine blk_drewN ?_ _ | refine blk_drew ?_ | refine blk_alloc ?_ _)); refine blk_put (cs := #[.slice none 0 0, .int .i64 0]) ?_ 1 _ rfl; (with_reducible repeat (first | refine blk_drewN ?_ _ | refine blk_drew ?_ | refine blk_alloc ?_ _)); refine blk_put (cs := #[.slice none 0 0, .int .i64 0]) ?_ 0 _ rfl; (with_reducible repeat (first | refine blk_drewN ?_ _ | refine blk_drew ?_ | refine blk_alloc ?_ _)); exact BK441.out) Try.underlying27 rfl (by kernel_rfl)) rfl ?_
  exact ⟨_, by first | rfl | (simp [errW_none, errW_some] <;> rfl) | (simp [*, errW_none, errW_some] <;> rfl), by first | exact Kd.R_nil _ _ _ _ _ | exact Kd.N_nil _ _ _ _ _ | exact Kd.V_nil _ _ _ _ _ | exact Kd.Q_nil _ _ _ _ _ | exact Kd.S_nil _ _ _ _ _, qy6_0⟩

-- NOT PRINTED: function 26 (sleuthlaw44_pruned)

-- NOT PRINTED: function 8 (sleuthlaw44_SegmentationPrunes)
end Go.Proofs.Ytiimanpmidnffaa.Q
