-- Laid by myprint.py (a program of this session's, over the kit's printer and with functions proved by hand)
import Derived.Test.YtiimanpmidnffaaQx0
import Derived.Test.YtiimanpmidnffaaQx1
import Derived.Test.YtiimanpmidnffaaQx2
import Derived.Test.YtiimanpmidnffaaQx4
namespace Go.Proofs.Ytiimanpmidnffaa.Q
open Go.RowKit Go.Proofs.YtiimanpmidnffaaW.PrintWords Go.Proofs.YtiimanpmidnffaaW.PrintLast Go.Proofs.YtiimanpmidnffaaW.PrintMore
attribute [local go_sem] max2_int min2_int max_two min_two max_three min_three max_four min_four   -- for this text's walks alone
set_option linter.unusedVariables false
set_option linter.unusedSimpArgs false

abbrev T5 : Bool := true
abbrev F5 : Bool := false
theorem qx5_0 {p : Prop} (h : p := by repeat (first | (with_reducible first | exact HB.out | apply below_alloc | apply pw_below_drewN | apply below_drew1) | exact HB.out)) : p := h
theorem qx5_1 {p : Prop} (h : p := by first | (with_reducible assumption) | assumption) : p := h
theorem qx5_2 {p : Prop} (h : p := by repeat (first | (with_reducible first | exact HB.out | apply below_alloc | apply pw_below_drewN | apply below_drew1 | refine below_set ?_ GE206.out) | exact HB.out)) : p := h
theorem qx5_3 {p : Prop} (h : p := by (try simp only [List.map_toArray, List.map_cons, List.map_nil]); first | done | rfl | (simp only [List.length_drop, List.length_take]; rfl)) : p := h
theorem qx5_4 {p : Prop} (h : p := by repeat (first | exact Drawn0.refl _ | apply Drawn0.step)) : p := h
theorem qx5_5 {p : Prop} (h : p := by repeat (first | (with_reducible first | exact HB.out | apply below_alloc | apply pw_below_drewN | apply below_drew1 | refine below_set ?_ GE200.out | refine below_set ?_ GE202.out) | exact HB.out)) : p := h
theorem qx5_6 {p : Prop} (h : p := by first | rfl | (simp; done) | (simp [*]; done)) : p := h
theorem qx5_7 {p : Prop} (h : p := by (with_reducible repeat (first | refine blk_drewN ?_ _ | refine blk_drew ?_ | refine blk_alloc ?_ _)); exact BK206.out) : p := h
theorem qx5_8 {p : Prop} (h : p := by (with_reducible repeat (first | refine blk_drewN ?_ _ | refine blk_drew ?_ | refine blk_alloc ?_ _)); exact BK200.out) : p := h
theorem qx5_9 {p : Prop} (h : p := by repeat (first | (with_reducible first | exact HB.out | apply below_alloc | apply pw_below_drewN | apply below_drew1 | refine below_set ?_ GE200.out) | exact HB.out)) : p := h
theorem qx5_10 {p : Prop} (h : p := by repeat (first | exact (Kd.C_below HR0.out HB.out) | (with_reducible refine Kd.C_alloc ?_ _) | (with_reducible refine Kd.C_drewN ?_ _) | (with_reducible refine Kd.C_drew ?_))) : p := h
theorem qx5_11 {p : Prop} (h : p := by first | rfl | (simp [errW_none, errW_some] <;> rfl) | (simp [*, errW_none, errW_some] <;> rfl)) : p := h
theorem qx5_12 {p : Prop} (h : p := by repeat (first | exact HR0.out | (with_reducible refine Kd.C_alloc ?_ _) | (with_reducible refine Kd.C_drewN ?_ _) | (with_reducible refine Kd.C_drew ?_))) : p := h
theorem qx5_13 {p : Prop} (h : p := by (with_reducible repeat (first | apply Kd.R_alloc | apply Kd.R_drewN | apply Kd.R_drew)); exact HO_9.out) : p := h
theorem qx5_14 {p : Prop} (h : p := by repeat (first | (with_reducible first | exact HB.out | apply below_alloc | apply pw_below_drewN | apply below_drew1 | refine below_set ?_ GE227.out) | exact HB.out)) : p := h
theorem qx5_15 {p : Prop} (h : p := by first | (go_simp; done) | (go_simp; rfl)) : p := h
theorem qx5_16 {p : Prop} (h : p := by first | exact Kd.R_nil _ _ _ _ _ | exact Kd.N_nil _ _ _ _ _ | exact Kd.V_nil _ _ _ _ _ | exact Kd.Q_nil _ _ _ _ _ | exact Kd.S_nil _ _ _ _ _) : p := h
/-! ### segmentation_segmentation: function 38 -/
def segmentation_segmentation.f (l0 : List (S74)) : Option (List Int × Int) := if 0 ≤ (wrap64 ((l0.length : Int) - 1)) then (if (wrap64 ((l0.length : Int) - 1)) < (l0.length : Int) then ((slices_Clone_int_int.f ((rd_T74 l0 (wrap64 ((l0.length : Int) - 1))).f1)).bind fun t203 => (some (t203, (rd_T74 l0 (wrap64 ((l0.length : Int) - 1))).f0))) else (none)) else (none)
set_option maxHeartbeats 8000000 in
set_option maxRecDepth 100000 in
theorem segmentation_segmentation.calls (A0 : Option Addr) (c0 : Nat) (l0 : List (S74)) (r1 : List Int) (r2 : Int) (w : World) (hr0 : Kd.C k74 w A0 l0.length l0) (hc0 : l0.length ≤ c0) (h : segmentation_segmentation.f l0 = some (r1, r2)) :
  Calls Try.prog 38 #[.slice A0 l0.length c0] w fun e w' => ∃ v0_ : Value, e = .returned (.agg #[v0_, .int .i64 r2]) ∧ Kd.R (Kd.int .i64) 3 w' w.heap.size (fun _ => True) v0_ r1 ∧ Below w.heap.size w w' := by
 have hu27 := Try.underlying27
 have hu74 := Try.underlying74
 have HR0 := Aside0.mk hr0
 have HC0 := Aside0.mk hc0
 clear hr0 hc0
 have HB := Aside0.mk (Below.refl w.heap.size w)
 have H : (if 0 ≤ (wrap64 ((l0.length : Int) - 1)) then (if (wrap64 ((l0.length : Int) - 1)) < (l0.length : Int) then ((slices_Clone_int_int.f ((rd_T74 l0 (wrap64 ((l0.length : Int) - 1))).f1)).bind fun t203 => (some (t203, (rd_T74 l0 (wrap64 ((l0.length : Int) - 1))).f0))) else (none)) else (none)) = some (r1, r2) := h
 clear h
 obtain ⟨ji2, hji2⟩ : ∃ j_ : Int, (wrap64 ((l0.length : Int) - 1)) = j_ := ⟨_, rfl⟩
 replace H : (if 0 ≤ (ji2) then (if (ji2) < (l0.length : Int) then ((slices_Clone_int_int.f ((rd_T74 l0 (ji2)).f1)).bind fun t203 => (some (t203, (rd_T74 l0 (ji2)).f0))) else (none)) else (none)) = some (r1, r2) := by first | (rw [hji2] at H; exact H) | (simp only [hji2] at H ⊢; exact H)
 have hji2w : (IntKind.i64.wrap ((l0.length : Int) - 1)) = ji2 := (i64_w _).trans hji2
 by_cases c3 : 0 ≤ (ji2)
 rotate_left
 ·rw [if_neg c3] at H
  exact absurd H (by simp)
 rw [if_pos c3] at H
 have c3b0 : decide (0 ≤ (ji2)) = true := decide_eq_true c3
 clear c3
 by_cases c4 : (ji2) < (l0.length : Int)
 rotate_left
 ·rw [if_neg c4] at H
  exact absurd H (by simp)
 rw [if_pos c4] at H
 have c4b0 : decide ((ji2) < (l0.length : Int)) = true := decide_eq_true c4
 clear c4
 replace H := Option.bind_eq_some_iff.mp H
 obtain ⟨t203, A50, H⟩ := H
 replace H : (some (t203, (rd_T74 l0 (ji2)).f0)) = some (r1, r2) := H
 have A5 := Aside0.mk A50
 clear A50
 simp only [Option.some.injEq, Prod.mk.injEq] at H
 obtain ⟨rfl, rfl⟩ := H
 go_enter Try.func38, Try.ntmps38
 try go_wp2_with (first | ((with_reducible refine gate_dst (N := 2) rfl ?_); refine box_event ?hg (N := 2) ?hd (cs := #[.slice none 0 0, .int .i64 0]) (t := 27) ?hr ?_; (case hd => rfl); (case hg => rfl); (case hr => exact qx5_15); intro gb200 hg w6 hbox hb; have n0_ := Aside0.mk (below_step qx5_0 hb); have n1_ := Aside0.mk (hbox); have n2_ := Aside0.mk ((by rw [hg]; exact (below_size qx5_0) : w.heap.size ≤ gb200)); have n3_ := Aside0.mk ((by rw [hg]; exact (below_size qx5_0) : w.heap.size ≤ gb200)); clear HB; have HB := n0_; have BK200 := n1_; have GW200 := n2_; have GE200 := n3_; clear n0_ n1_ n2_ n3_; clear hb hbox hg; have p201 : 0 ≤ ((ji2) : Int) := of_decide_eq_true qx5_1; have q201 : (ji2) < (l0.length : Int) := of_decide_eq_true qx5_1; obtain ⟨ad201, A201_1, c201_1, e201, hx201_0, hx201_1, hl201_1, hi201_1⟩ := at_T74 HR0.out (ji2) p201 q201; cases e201; replace hx201_0 := (HB.out.cell (World.block_lt_of_cell? w _ hx201_0)).trans hx201_0; replace hx201_1 := (HB.out.cell (World.block_lt_of_cell? w _ hx201_1)).trans hx201_1; have HR201_1 := Aside0.mk hi201_1; have HC201_1 := Aside0.mk hl201_1; clear hi201_1 hl201_1; replace p201 := eq_true p201; replace q201 := eq_true q201) | ((with_reducible refine gate_dst (N := 3) rfl ?_); refine box_event ?hg (N := 3) ?hd (cs := #[.int .i64 0, .slice none 0 0]) (t := 74) ?hr ?_; (case hd => rfl); (case hg => rfl); (case hr => exact qx5_15); intro gb202 hg w7 hbox hb; have n0_ := Aside0.mk (blk_below (g := gb200) (o := .cells #[.slice none 0 0, .int .i64 0] 27 (0, 0)) qx5_8 hb); have n1_ := Aside0.mk (below_step qx5_9 hb); have n2_ := Aside0.mk (hbox); have n3_ := Aside0.mk ((by rw [hg]; exact (below_size qx5_9) : w.heap.size ≤ gb202)); have n4_ := Aside0.mk ((by rw [hg]; exact (below_size qx5_9) : w.heap.size ≤ gb202)); have n5_ := Aside0.mk ((by rw [hg]; exact Nat.ne_of_lt (blk_lt (g := gb200) (o := .cells #[.slice none 0 0, .int .i64 0] 27 (0, 0)) qx5_8) : gb200 ≠ gb202)); have n6_ := Aside0.mk ((by rw [hg]; exact Nat.ne_of_gt (blk_lt (g := gb200) (o := .cells #[.slice none 0 0, .int .i64 0] 27 (0, 0)) qx5_8) : gb202 ≠ gb200)); clear BK200; clear HB; have BK200 := n0_; have HB := n1_; have BK202 := n2_; have GW202 := n3_; have GE202 := n4_; have NB200_202 := n5_; have NB202_200 := n6_; clear n0_ n1_ n2_ n3_ n4_ n5_ n6_; clear hb hbox hg; have hnb8 := NB202_200.out; have hnc8 := NB200_202.out; have hcz9_0 : w7.cell? ⟨gb202, 0, none⟩ = some (.int .i64 0) := (blk_cell BK202.out 0).trans rfl; have hcz9_1 : w7.cell? ⟨gb202, 1, none⟩ = some (.slice none 0 0) := (blk_cell BK202.out 1).trans rfl; have hfz9_0 := blk_frozen BK202.out 0; have hfz9_1 := blk_frozen BK202.out 1))
 have n0_ : Aside0 (((w7.setCell ⟨gb202, 0, none⟩ (.int .i64 ((rd_T74 l0 (ji2)).f0))).setCell ⟨gb202, 1, none⟩ (.slice A201_1 ((rd_T74 l0 (ji2)).f1).length c201_1)).heap[gb200]? = some (.cells #[.slice none 0 0, .int .i64 0] 27 (0, 0))) := ⟨by (with_reducible repeat (first | refine blk_drewN ?_ _ | refine blk_drew ?_ | refine blk_alloc ?_ _)); refine blk_far ?_ NB200_202.out _; (with_reducible repeat (first | refine blk_drewN ?_ _ | refine blk_drew ?_ | refine blk_alloc ?_ _)); refine blk_far ?_ NB200_202.out _; (with_reducible repeat (first | refine blk_drewN ?_ _ | refine blk_drew ?_ | refine blk_alloc ?_ _)); exact BK200.out⟩
 have n1_ : Aside0 (((w7.setCell ⟨gb202, 0, none⟩ (.int .i64 ((rd_T74 l0 (ji2)).f0))).setCell ⟨gb202, 1, none⟩ (.slice A201_1 ((rd_T74 l0 (ji2)).f1).length c201_1)).heap[gb202]? = some (.cells #[.int .i64 ((rd_T74 l0 (ji2)).f0), .slice A201_1 ((rd_T74 l0 (ji2)).f1).length c201_1] 74 (0, 0))) := ⟨by (with_reducible repeat (first | refine blk_drewN ?_ _ | refine blk_drew ?_ | refine blk_alloc ?_ _)); refine blk_put (cs := #[.int .i64 ((rd_T74 l0 (ji2)).f0), .slice none 0 0]) ?_ 1 _ rfl; (with_reducible repeat (first | refine blk_drewN ?_ _ | refine blk_drew ?_ | refine blk_alloc ?_ _)); refine blk_put (cs := #[.int .i64 0, .slice none 0 0]) ?_ 0 _ rfl; (with_reducible repeat (first | refine blk_drewN ?_ _ | refine blk_drew ?_ | refine blk_alloc ?_ _)); exact BK202.out⟩
 have n2_ : Aside0 (Below w.heap.size w ((w7.setCell ⟨gb202, 0, none⟩ (.int .i64 ((rd_T74 l0 (ji2)).f0))).setCell ⟨gb202, 1, none⟩ (.slice A201_1 ((rd_T74 l0 (ji2)).f1).length c201_1))) := ⟨qx5_5⟩
 (try clear BK200)
 (try clear BK202)
 (try clear HB)
 generalize ((w7.setCell ⟨gb202, 0, none⟩ (.int .i64 ((rd_T74 l0 (ji2)).f0))).setCell ⟨gb202, 1, none⟩ (.slice A201_1 ((rd_T74 l0 (ji2)).f1).length c201_1)) = w10 at n0_ n1_ n2_ ⊢
 have BK200 := n0_
 have BK202 := n1_
 have HB := n2_
 clear n0_ n1_ n2_
 have n0_ := Aside0.mk (blk_drew BK200.out)
 have n1_ := Aside0.mk (blk_drew BK202.out)
 have n2_ := Aside0.mk (below_drew1 HB.out)
 clear BK200
 clear BK202
 clear HB
 have BK200 := n0_
 have BK202 := n1_
 have HB := n2_
 clear n0_ n1_ n2_
 refine start_ (n := 7) (S := fun w' => w'.cell? ⟨gb202, 0, none⟩ = some (.int .i64 ((rd_T74 l0 (ji2)).f0)) ∧ w'.cell? ⟨gb202, 1, none⟩ = some (.slice A201_1 ((rd_T74 l0 (ji2)).f1).length c201_1)) (ds := []) #[F5, F5, F5, F5, F5, F5, F5] (by kernel_rfl) rfl rfl ⟨(blk_cell BK202.out 0).trans rfl, (blk_cell BK202.out 1).trans rfl⟩ (fun hHeld => ?_)
 generalize w10.drew = w11 at BK200 BK202 HB hHeld ⊢
 refine pure_ (i := 0) (N := some 10) (v := ?_) (a' := ?_) #[T5, F5, F5, F5, F5, F5, F5] rfl rfl (by kernel_rfl) (fun _ _ _ h => h) (Or.inl ⟨by rfl, ?_⟩) ?_ ?_
 rotate_left
 ·intro w'
  go_simp
  with_reducible rfl
 rotate_left
 ·simp only [Act.put, List.setIfInBounds_toArray, List.set_cons_zero, List.set_cons_succ, i64_w, i32_w]
  rfl
 refine pure_ (i := 3) (N := some 13) (v := ?_) (a' := ?_) #[T5, F5, F5, T5, F5, F5, F5] rfl rfl (by kernel_rfl) (fun _ _ _ h => h) (Or.inl ⟨by rfl, ?_⟩) ?_ ?_
 rotate_left
 ·intro w'
  go_simp
  with_reducible rfl
 rotate_left
 ·simp only [Act.put, List.setIfInBounds_toArray, List.set_cons_zero, List.set_cons_succ, i64_w, i32_w]
  rfl
 refine take_ (i := 1) (N := some 11) (v := ?_) (a' := ?_) #[T5, T5, F5, T5, F5, F5, F5] rfl rfl (by kernel_rfl) (fun _ _ _ h => h) (Or.inl ⟨by rfl, ?_⟩) hHeld ?_ ?_
 rotate_left
 ·rintro w' ⟨s0, s1⟩
  go_simp
  with_reducible rfl
 rotate_left
 ·simp only [Act.put, List.setIfInBounds_toArray, List.set_cons_zero, List.set_cons_succ, i64_w, i32_w]
  rfl
 refine take_ (i := 4) (N := some 14) (v := ?_) (a' := ?_) #[T5, T5, F5, T5, T5, F5, F5] rfl rfl (by kernel_rfl) (fun _ _ _ h => h) (Or.inl ⟨by rfl, ?_⟩) hHeld ?_ ?_
 rotate_left
 ·rintro w' ⟨s0, s1⟩
  go_simp
  with_reducible rfl
 rotate_left
 ·simp only [Act.put, List.setIfInBounds_toArray, List.set_cons_zero, List.set_cons_succ, i64_w, i32_w]
  rfl
 refine one_ (i := 2) (N := some 12) #[T5, T5, T5, T5, T5, F5, F5] rfl rfl (by kernel_rfl) (by decide) (fun K hK => ?_)
 refine goes_ Try.func48 (by kernel_rfl) rfl #[.slice A201_1 ((rd_T74 l0 (ji2)).f1).length c201_1] (by rfl) rfl rfl (by (try simp only [List.map_toArray, List.map_cons, List.map_nil]); first | done | (simp only [hji2]; rfl) | rfl | (simp only [List.length_drop, List.length_take]; rfl)) ?_
 with_reducible refine (slices_Clone_int_int.calls _ _ ((rd_T74 l0 (ji2)).f1) t203 _ ?side1 ?side2 A5.out).mono ?_
 (case side1 => repeat (first | exact (Kd.C_below HR201_1.out HB.out) | (with_reducible refine Kd.C_alloc ?_ _) | (with_reducible refine Kd.C_drewN ?_ _) | (with_reducible refine Kd.C_drew ?_)))
 (case side2 => exact HC201_1.out)
 rintro e w12 ⟨v204, rfl, ho0, hb⟩
 refine ⟨_, rfl, ?_⟩
 have n0_ := Aside0.mk (Kd.R_lower ho0 (below_size qx5_5))
 have n1_ := Aside0.mk (blk_below (g := gb200) (o := .cells #[.slice none 0 0, .int .i64 0] 27 (0, 0)) qx5_8 hb)
 have n2_ := Aside0.mk (blk_below (g := gb202) (o := .cells #[.int .i64 ((rd_T74 l0 (ji2)).f0), .slice A201_1 ((rd_T74 l0 (ji2)).f1).length c201_1] 74 (0, 0)) (by (with_reducible repeat (first | refine blk_drewN ?_ _ | refine blk_drew ?_ | refine blk_alloc ?_ _)); exact BK202.out) hb)
 have n3_ := Aside0.mk (below_step qx5_5 hb)
 clear BK200
 clear BK202
 clear HB
 have HO205 := n0_
 have BK200 := n1_
 have BK202 := n2_
 have HB := n3_
 clear n0_ n1_ n2_ n3_
 (try clear hb)
 (try clear hb2)
 (try clear hk)
 (try clear hi)
 (try clear ho0)
 obtain ⟨Ao13, co13, eo13⟩ := Kd.R_slice HO205.out
 (first | subst eo13 | (injection eo13 with f1_ f2_ f3_; have f4_ := f1_.symm; have f5_ := f3_.symm; clear f1_ f2_ f3_; subst f4_; subst f5_))
 refine hK.out _ _ ⟨(blk_cell BK202.out 0).trans rfl, (blk_cell BK202.out 1).trans rfl⟩ (fun hHeld => ?_)
 clear hK K
 refine norm_ (a' := ?_) ?_ ?_
 rotate_left
 ·show Act.put _ (some 12) _ = _
  simp only [Act.put, List.setIfInBounds_toArray, List.set_cons_zero, List.set_cons_succ, i64_w, i32_w]
  rfl
 refine pure_ (i := 5) (N := some 15) (v := ?_) (a' := ?_) #[T5, T5, T5, T5, T5, T5, F5] rfl rfl (by kernel_rfl) (fun _ _ _ h => h) (Or.inl ⟨by rfl, ?_⟩) ?_ ?_
 rotate_left
 ·intro w'
  go_simp
  with_reducible rfl
 rotate_left
 ·simp only [Act.put, List.setIfInBounds_toArray, List.set_cons_zero, List.set_cons_succ, i64_w, i32_w]
  rfl
 refine one_ (i := 6) (N := none) #[T5, T5, T5, T5, T5, T5, T5] rfl rfl (by kernel_rfl) (by decide) (fun K hK => ?_)
 have hs14 : w12.cell? ⟨gb200, 0, none⟩ = some (.slice none 0 0) := (blk_cell BK200.out 0).trans rfl
 have hfs14 := blk_frozen BK200.out 0
 have hns14_1 := NB202_200.out
 have hms14_1 := NB200_202.out
 have hs15 : w12.cell? ⟨gb200, 1, none⟩ = some (.int .i64 0) := (blk_cell BK200.out 1).trans rfl
 have hfs15 := blk_frozen BK200.out 1
 have hns15_1 := NB202_200.out
 have hms15_1 := NB200_202.out
 refine skip_ (w1 := ?_) (by rfl) rfl ?_ ?_
 rotate_left
 ·go_simp
  rfl
 refine hK.out _ _ ⟨((cell_far (p := ⟨gb200, _, none⟩) NB202_200.out _).trans (((cell_far (p := ⟨gb200, _, none⟩) NB202_200.out _).trans (hHeld.1)))), ((cell_far (p := ⟨gb200, _, none⟩) NB202_200.out _).trans (((cell_far (p := ⟨gb200, _, none⟩) NB202_200.out _).trans (hHeld.2))))⟩ (fun hHeld => ?_)
 clear hK K
 refine done_ (by kernel_rfl) ?_
 try go_wp2
 refine bodyPost_ret (results_cell_row rfl _ _ gb200 27 #[.slice Ao13 t203.length co13, .int .i64 ((rd_T74 l0 (ji2)).f0)] (0, 0) _ rfl (by (with_reducible repeat (first | refine blk_drewN ?_ _ | refine blk_drew ?_ | refine blk_alloc ?_ _)); refine blk_put (cs := #[.slice Ao13 t203.length co13, .int .i64 0]) ?_ 1 _ rfl; (with_reducible repeat (first | refine blk_drewN ?_ _ | refine blk_drew ?_ | refine blk_alloc ?_ _)); refine blk_put (cs := #[.slice none 0 0, .int .i64 0]) ?_ 0 _ rfl; (with_reducible repeat (first | refine blk_drewN ?_ _ | refine blk_drew ?_ | refine blk_alloc ?_ _)); exact BK200.out) Try.underlying27 rfl (by kernel_rfl)) rfl ?_
 exact ⟨_, by first | rfl | (simp [errW_none, errW_some] <;> rfl) | (simp only [← hji2]; first | rfl | (simp [errW_none, errW_some] <;> rfl)) | (simp [*, errW_none, errW_some] <;> rfl), by (with_reducible repeat (first | apply Kd.R_alloc | apply Kd.R_drewN | apply Kd.R_drew)); exact Kd.R_mono (Kd.R_far (p := ⟨gb200, 1, none⟩) (Kd.R_far (p := ⟨gb200, 0, none⟩) (Kd.R_types HO205.out BK200.out (by decide)) (fun _ hk => hk.2) (.slice Ao13 t203.length co13)) (fun _ hk => hk.2) (.int .i64 ((rd_T74 l0 (ji2)).f0))) (fun _ hk => trivial), qx5_5⟩

/-! ### segmentation_Best: function 15 -/
def segmentation_Best.f (k : Nat) (l0 : List Int) (a1 : Int) : Option (List Int × Int × Int) := (segmentation_Check.f k l0 a1).bind fun t207 => (if t207 = 0 then ((segmentation_solve.f k l0 a1 false).bind fun bt208 => ((segmentation_segmentation.f bt208.1).bind fun bt212 => (some (bt212.1, bt212.2, 0)))) else (some (([] : List Int), 0, t207)))
theorem segmentation_Best.mono : ∀ a0 a1 k, LeO (segmentation_Best.f k a0 a1) (segmentation_Best.f (k + 1) a0 a1) := by
 intro a0 a1 k
 unfold segmentation_Best.f
 repeat' first
   | (with_reducible exact segmentation_Check.mono _ _ _)
   | (with_reducible exact segmentation_solve.mono _ _ _ _)
   | (with_reducible exact LeO.refl _)
   | (with_reducible exact LeO.none _)
   | (with_reducible refine LeO.ite ?_ ?_)
   | (with_reducible refine LeO.bind ?_ (fun _ => ?_))
   | exact segmentation_Check.mono _ _ _
   | exact segmentation_solve.mono _ _ _ _
   | exact LeO.none _
   | refine LeO.ite ?_ ?_
   | refine LeO.bind ?_ (fun _ => ?_)
set_option maxHeartbeats 8000000 in
set_option maxRecDepth 100000 in
theorem segmentation_Best.calls (k : Nat) (A0 : Option Addr) (c0 : Nat) (l0 : List Int) (a1 : Int) (r1 : List Int) (r2 : Int) (r3 : Int) (w : World) (hr0 : Kd.C (Kd.int .i64) w A0 l0.length l0) (hc0 : l0.length ≤ c0) (h : segmentation_Best.f k l0 a1 = some (r1, r2, r3)) :
  Calls Try.prog 15 #[.slice A0 l0.length c0, .int .i64 a1] w fun e w' => ∃ v0_ : Value, e = .returned (.tuple #[.agg #[v0_, .int .i64 r2], .int .i64 r3]) ∧ Kd.R (Kd.int .i64) 3 w' w.heap.size (fun _ => True) v0_ r1 ∧ Below w.heap.size w w' := by
 have hu27 := Try.underlying27
 have HR0 := Aside0.mk hr0
 have HC0 := Aside0.mk hc0
 clear hr0 hc0
 have HB := Aside0.mk (Below.refl w.heap.size w)
 have H : ((segmentation_Check.f k l0 a1).bind fun t207 => (if t207 = 0 then ((segmentation_solve.f k l0 a1 false).bind fun bt208 => ((segmentation_segmentation.f bt208.1).bind fun bt212 => (some (bt212.1, bt212.2, 0)))) else (some (([] : List Int), 0, t207)))) = some (r1, r2, r3) := h
 clear h
 replace H := Option.bind_eq_some_iff.mp H
 obtain ⟨t207, A30, H⟩ := H
 replace H : (if t207 = 0 then ((segmentation_solve.f k l0 a1 false).bind fun bt208 => ((segmentation_segmentation.f bt208.1).bind fun bt212 => (some (bt212.1, bt212.2, 0)))) else (some (([] : List Int), 0, t207))) = some (r1, r2, r3) := H
 have A3 := Aside0.mk A30
 clear A30
 by_cases c4 : t207 = 0
 rotate_left
 ·rw [if_neg c4] at H
  have c4b0 : (t207 == 0) = false := beq_eq_false_iff_ne.mpr c4
  have c4b1 : (t207 != 0) = true := bne_iff_ne.mpr c4
  simp only [Option.some.injEq, Prod.mk.injEq] at H
  obtain ⟨rfl, rfl, rfl⟩ := H
  go_enter Try.func15, Try.ntmps15
  go_wp2_with (first | ((with_reducible refine gate_dst (N := 4) rfl ?_); refine box_event ?hg (N := 4) ?hd (cs := #[.slice none 0 0, .int .i64 0]) (t := 27) ?hr ?_; (case hd => rfl); (case hg => rfl); (case hr => exact qx5_15); intro gb206 hg w13 hbox hb; have n0_ := Aside0.mk (below_step qx5_0 hb); have n1_ := Aside0.mk (hbox); have n2_ := Aside0.mk ((by rw [hg]; exact (below_size qx5_0) : w.heap.size ≤ gb206)); have n3_ := Aside0.mk ((by rw [hg]; exact (below_size qx5_0) : w.heap.size ≤ gb206)); clear HB; have HB := n0_; have BK206 := n1_; have GW206 := n2_; have GE206 := n3_; clear n0_ n1_ n2_ n3_; clear hb hbox hg) | ((with_reducible refine gate_callee (f := 36) rfl ?_); refine goesL_ (some 11) rfl rfl Try.func36 (by kernel_rfl) rfl #[.slice A0 l0.length c0, .int .i64 a1] rfl qx5_3 ?_; (with_reducible refine (segmentation_Check.calls k _ _ l0 a1 t207 _ ?side1 ?side2 A3.out).mono ?_); (case side1 => exact qx5_10); (case side2 => exact HC0.out); rintro e w' ⟨rfl, ⟨nd, rfl⟩⟩; refine ⟨_, rfl, ?_⟩; (try (rw [drewN_self w13]; generalize hq_ : World.drewN w13 _ = w13; have n0_ : Aside0 (w13.heap[gb206]? = some (.cells #[.slice none 0 0, .int .i64 0] 27 (0, 0))) := ⟨by rw [← hq_]; exact qx5_7⟩; have n1_ : Aside0 (Below w.heap.size w w13) := ⟨by rw [← hq_]; exact qx5_2⟩; clear BK206 HB hq_; have BK206 := n0_; have HB := n1_; clear n0_ n1_)); have hcz14_0 : w13.cell? ⟨gb206, 0, none⟩ = some (.slice none 0 0) := (blk_cell BK206.out 0).trans rfl; have hcz14_1 : w13.cell? ⟨gb206, 1, none⟩ = some (.int .i64 0) := (blk_cell BK206.out 1).trans rfl; have hfz14_0 := blk_frozen BK206.out 0; have hfz14_1 := blk_frozen BK206.out 1))
  refine bodyPost_ret (results_ct rfl _ _ gb206 27 #[.slice none 0 0, .int .i64 0] (0, 0) _ rfl (by (with_reducible repeat (first | refine blk_drewN ?_ _ | refine blk_drew ?_ | refine blk_alloc ?_ _)); refine blk_put (cs := #[.slice none 0 0, .int .i64 0]) ?_ 1 _ rfl; (with_reducible repeat (first | refine blk_drewN ?_ _ | refine blk_drew ?_ | refine blk_alloc ?_ _)); refine blk_put (cs := #[.slice none 0 0, .int .i64 0]) ?_ 0 _ rfl; (with_reducible repeat (first | refine blk_drewN ?_ _ | refine blk_drew ?_ | refine blk_alloc ?_ _)); exact BK206.out) Try.underlying27 rfl (by kernel_rfl)) rfl ?_
  exact ⟨_, qx5_11, qx5_16, qx5_2⟩
 rw [if_pos c4] at H
 have c4b0 : (t207 == 0) = true := beq_iff_eq.mpr c4
 have c4b1 : (t207 != 0) = false := bne_eq_false_iff_eq.mpr c4
 clear c4
 replace H := Option.bind_eq_some_iff.mp H
 obtain ⟨⟨t208, t211⟩, A50, H⟩ := H
 replace H : ((segmentation_segmentation.f t208).bind fun bt212 => (some (bt212.1, bt212.2, 0))) = some (r1, r2, r3) := H
 have A5 := Aside0.mk A50
 clear A50
 replace H := Option.bind_eq_some_iff.mp H
 obtain ⟨⟨t212, t215⟩, A60, H⟩ := H
 replace H : (some (t212, t215, 0)) = some (r1, r2, r3) := H
 have A6 := Aside0.mk A60
 clear A60
 simp only [Option.some.injEq, Prod.mk.injEq] at H
 obtain ⟨rfl, rfl, rfl⟩ := H
 go_enter Try.func15, Try.ntmps15
 go_wp2_with (first | ((with_reducible refine gate_dst (N := 4) rfl ?_); refine box_event ?hg (N := 4) ?hd (cs := #[.slice none 0 0, .int .i64 0]) (t := 27) ?hr ?_; (case hd => rfl); (case hg => rfl); (case hr => exact qx5_15); intro gb206 hg w7 hbox hb; have n0_ := Aside0.mk (below_step qx5_0 hb); have n1_ := Aside0.mk (hbox); have n2_ := Aside0.mk ((by rw [hg]; exact (below_size qx5_0) : w.heap.size ≤ gb206)); have n3_ := Aside0.mk ((by rw [hg]; exact (below_size qx5_0) : w.heap.size ≤ gb206)); clear HB; have HB := n0_; have BK206 := n1_; have GW206 := n2_; have GE206 := n3_; clear n0_ n1_ n2_ n3_; clear hb hbox hg) | ((with_reducible refine gate_callee (f := 36) rfl ?_); refine goesL_ (some 11) rfl rfl Try.func36 (by kernel_rfl) rfl #[.slice A0 l0.length c0, .int .i64 a1] rfl qx5_3 ?_; (with_reducible refine (segmentation_Check.calls k _ _ l0 a1 t207 _ ?side1 ?side2 A3.out).mono ?_); (case side1 => exact qx5_10); (case side2 => exact HC0.out); rintro e w' ⟨rfl, ⟨nd, rfl⟩⟩; refine ⟨_, rfl, ?_⟩; (try (rw [drewN_self w7]; generalize hq_ : World.drewN w7 _ = w7; have n0_ : Aside0 (w7.heap[gb206]? = some (.cells #[.slice none 0 0, .int .i64 0] 27 (0, 0))) := ⟨by rw [← hq_]; exact qx5_7⟩; have n1_ : Aside0 (Below w.heap.size w w7) := ⟨by rw [← hq_]; exact qx5_2⟩; clear BK206 HB hq_; have BK206 := n0_; have HB := n1_; clear n0_ n1_))) | ((with_reducible refine gate_callee (f := 37) rfl ?_); refine goesL_ (some 19) rfl rfl Try.func37 (by kernel_rfl) rfl #[.slice A0 l0.length c0, .int .i64 a1, .bool false] rfl qx5_3 ?_; (with_reducible refine (segmentation_solve.calls k _ _ l0 a1 false t208 t211 _ ?side1 ?side2 A5.out).mono ?_); (case side1 => exact qx5_10); (case side2 => exact HC0.out); rintro e w8 ⟨v209, rfl, ho0, hb⟩; refine ⟨_, rfl, ?_⟩; have n0_ := Aside0.mk (Kd.N_lower (Kd.N_mono (ok' := fun k_ => k_ ≠ gb206) ho0 (fun k_ hk_ => (Kd.freshB (g := gb206) (o := .cells #[.slice none 0 0, .int .i64 0] 27 (0, 0)) qx5_7 k_ hk_))) (below_size qx5_2)); have n1_ := Aside0.mk (blk_below (g := gb206) (o := .cells #[.slice none 0 0, .int .i64 0] 27 (0, 0)) qx5_7 hb); have n2_ := Aside0.mk (below_step qx5_2 hb); clear BK206; clear HB; have HO210 := n0_; have BK206 := n1_; have HB := n2_; clear n0_ n1_ n2_; (try clear hb); (try clear hb2); (try clear hk); (try clear hi); (try clear ho0); obtain ⟨Ao9, co9, eo9⟩ := Kd.N_slice HO210.out; subst eo9) | ((with_reducible refine gate_callee (f := 38) rfl ?_); refine goesL_ (some 23) rfl rfl Try.func38 (by kernel_rfl) rfl #[.slice Ao9 t208.length co9] rfl qx5_3 ?_; (with_reducible refine (segmentation_segmentation.calls _ _ t208 t212 t215 _ ?side1 ?side2 A6.out).mono ?_); (case side1 => repeat (first | exact (Kd.N_reads' HO210.out).2.2 | (with_reducible refine Kd.C_alloc ?_ _) | (with_reducible refine Kd.C_drewN ?_ _) | (with_reducible refine Kd.C_drew ?_))); (case side2 => exact (Kd.N_reads' HO210.out).2.1); rintro e w10 ⟨v213, rfl, ho0, hb⟩; refine ⟨_, rfl, ?_⟩; have n0_ := Aside0.mk (Kd.N_elder' (by (with_reducible repeat (first | apply Kd.N_alloc | apply Kd.N_drewN | apply Kd.N_drew)); exact HO210.out) (Kd.R_base ho0) hb); have n1_ := Aside0.mk (Kd.R_lower ho0 (below_size qx5_2)); have n2_ := Aside0.mk (blk_below (g := gb206) (o := .cells #[.slice none 0 0, .int .i64 0] 27 (0, 0)) qx5_7 hb); have n3_ := Aside0.mk (below_step qx5_2 hb); clear HO210; clear BK206; clear HB; have HO210 := n0_; have HO214 := n1_; have BK206 := n2_; have HB := n3_; clear n0_ n1_ n2_ n3_; (try clear hb); (try clear hb2); (try clear hk); (try clear hi); (try clear ho0); obtain ⟨Ao11, co11, eo11⟩ := Kd.R_slice HO214.out; subst eo11; have hcz12_0 : w10.cell? ⟨gb206, 0, none⟩ = some (.slice none 0 0) := (blk_cell BK206.out 0).trans rfl; have hcz12_1 : w10.cell? ⟨gb206, 1, none⟩ = some (.int .i64 0) := (blk_cell BK206.out 1).trans rfl; have hfz12_0 := blk_frozen BK206.out 0; have hfz12_1 := blk_frozen BK206.out 1))
 refine bodyPost_ret (results_ct rfl _ _ gb206 27 #[.slice Ao11 t212.length co11, .int .i64 t215] (0, 0) _ rfl (by (with_reducible repeat (first | refine blk_drewN ?_ _ | refine blk_drew ?_ | refine blk_alloc ?_ _)); refine blk_put (cs := #[.slice Ao11 t212.length co11, .int .i64 0]) ?_ 1 _ rfl; (with_reducible repeat (first | refine blk_drewN ?_ _ | refine blk_drew ?_ | refine blk_alloc ?_ _)); refine blk_put (cs := #[.slice none 0 0, .int .i64 0]) ?_ 0 _ rfl; (with_reducible repeat (first | refine blk_drewN ?_ _ | refine blk_drew ?_ | refine blk_alloc ?_ _)); exact BK206.out) Try.underlying27 rfl (by kernel_rfl)) rfl ?_
 exact ⟨_, qx5_11, by (with_reducible repeat (first | apply Kd.R_alloc | apply Kd.R_drewN | apply Kd.R_drew)); exact Kd.R_mono (Kd.R_far (p := ⟨gb206, 1, none⟩) (Kd.R_far (p := ⟨gb206, 0, none⟩) (Kd.R_types HO214.out BK206.out (by decide)) (fun _ hk => hk.2) (.slice Ao11 t212.length co11)) (fun _ hk => hk.2) (.int .i64 t215)) (fun _ hk => trivial), qx5_2⟩

/-! ### sleuthlaw44_same: function 17 -/
def sleuthlaw44_same.l0 : Nat → List Int → List Int → Int → Option (Bool)
 | 0, _, _, _ => none
 | k + 1, x0, x1, x5 => if x5 < (x0.length : Int) then (if 0 ≤ x5 then (if x5 < (x1.length : Int) then (if (rd x0 x5) = (rd x1 x5) then (sleuthlaw44_same.l0 k x0 x1 (wrap64 (x5 + 1))) else (some false)) else (none)) else (none)) else (some true)
def sleuthlaw44_same.f (k : Nat) (l0 : List Int) (l1 : List Int) : Option (Bool) := if (l0.length : Int) = (l1.length : Int) then (sleuthlaw44_same.l0 k l0 l1 0) else (some false)
theorem sleuthlaw44_same.mono_l : ∀ k, (∀ y0 y1 y2, LeO (sleuthlaw44_same.l0 k y0 y1 y2) (sleuthlaw44_same.l0 (k + 1) y0 y1 y2))
 | 0 => fun _ _ _ r h => by simp [sleuthlaw44_same.l0] at h
 | k + 1 => by
  have ih0 := sleuthlaw44_same.mono_l k
  ·intro y0 y1 y2
   unfold sleuthlaw44_same.l0
   repeat' first
   | (with_reducible exact ih0 _ _ _)
   | (with_reducible exact LeO.refl _)
   | (with_reducible exact LeO.none _)
   | (with_reducible refine LeO.ite ?_ ?_)
   | (with_reducible refine LeO.bind ?_ (fun _ => ?_))
   | exact ih0 _ _ _
   | exact LeO.none _
   | refine LeO.ite ?_ ?_
   | refine LeO.bind ?_ (fun _ => ?_)
theorem sleuthlaw44_same.mono : ∀ a0 a1 k, LeO (sleuthlaw44_same.f k a0 a1) (sleuthlaw44_same.f (k + 1) a0 a1) := by
 intro a0 a1 k
 have ih0 := sleuthlaw44_same.mono_l k
 unfold sleuthlaw44_same.f
 repeat' first
   | (with_reducible exact ih0 _ _ _)
   | (with_reducible exact LeO.refl _)
   | (with_reducible exact LeO.none _)
   | (with_reducible refine LeO.ite ?_ ?_)
   | (with_reducible refine LeO.bind ?_ (fun _ => ?_))
   | exact ih0 _ _ _
   | exact LeO.none _
   | refine LeO.ite ?_ ?_
   | refine LeO.bind ?_ (fun _ => ?_)
set_option maxHeartbeats 8000000 in
set_option maxRecDepth 100000 in
theorem sleuthlaw44_same.calls (k : Nat) (A0 : Option Addr) (c0 : Nat) (l0 : List Int) (A1 : Option Addr) (c1 : Nat) (l1 : List Int) (r : Bool) (w : World) (hr0 : Kd.C (Kd.int .i64) w A0 l0.length l0) (hc0 : l0.length ≤ c0) (hr1 : Kd.C (Kd.int .i64) w A1 l1.length l1) (hc1 : l1.length ≤ c1) (h : sleuthlaw44_same.f k l0 l1 = some r) :
  Calls Try.prog 17 #[.slice A0 l0.length c0, .slice A1 l1.length c1] w fun e w' => e = .returned (.bool r) ∧ Drawn0 w w' := by
 have HR0 := Aside0.mk hr0
 have HC0 := Aside0.mk hc0
 clear hr0 hc0
 have HR1 := Aside0.mk hr1
 have HC1 := Aside0.mk hc1
 clear hr1 hc1
 have H : (if (l0.length : Int) = (l1.length : Int) then (sleuthlaw44_same.l0 k l0 l1 0) else (some false)) = some r := h
 clear h
 by_cases c3 : (l0.length : Int) = (l1.length : Int)
 rotate_left
 ·rw [if_neg c3] at H
  have c3b0 : ((l0.length : Int) == (l1.length : Int)) = false := beq_eq_false_iff_ne.mpr c3
  have c3b1 : ((l0.length : Int) != (l1.length : Int)) = true := bne_iff_ne.mpr c3
  have c3b2 : (l0.length == l1.length) = false := by first | simpa using c3 | (simp at c3 ⊢; omega)
  obtain rfl := Option.some.inj H
  go_enter Try.func17, Try.ntmps17
  go_wp2
  repeat (go_quiet (fail); try go_wp2)
  go_ret
  exact ⟨qx5_6, qx5_4⟩
 rw [if_pos c3] at H
 have c3b0 : ((l0.length : Int) == (l1.length : Int)) = true := beq_iff_eq.mpr c3
 have c3b1 : ((l0.length : Int) != (l1.length : Int)) = false := bne_eq_false_iff_eq.mpr c3
 have c3b2 : (l0.length == l1.length) = true := by first | simpa using c3 | (simp at c3 ⊢; omega)
 clear c3
 have H' := Aside0.mk H
 clear H
 go_enter Try.func17, Try.ntmps17
 go_wp2
 repeat (go_quiet (fail); try go_wp2)
 go_loopg [5] k (fun kq v5 w' => ∃ (x5_1 : Int), v5 = .int .i64 x5_1 ∧ Aside0 (sleuthlaw44_same.l0 kq l0 l1 x5_1 = some r) ∧ Aside0 (kq ≤ k) ∧ Drawn0 w w')
 case atStart => exact ⟨(0), qx5_6, H', ⟨Nat.le_refl _⟩, qx5_4⟩
 clear H'
 try clear c1
 try clear p2
 try clear c3
 try clear c3b0
 try clear c3b1
 try clear c3b2
 obtain ⟨x5_1, rfl, HA, HK1, ⟨m1, rfl⟩⟩ := hrel
 cases gk with
 | zero => exact absurd HA.out (by simp [sleuthlaw44_same.l0])
 | succ k1 =>
  have H := HA.out
  clear HA
  simp only [sleuthlaw44_same.l0] at H
  by_cases c4 : x5_1 < (l0.length : Int)
  rotate_left
  ·rw [if_neg c4] at H
   have c4b0 : decide (x5_1 < (l0.length : Int)) = false := decide_eq_false c4
   clear c4
   obtain rfl := Option.some.inj H
   go_wp2
   repeat (go_quiet (fail); try go_wp2)
   go_ret
   exact ⟨qx5_6, qx5_4⟩
  rw [if_pos c4] at H
  have c4b0 : decide (x5_1 < (l0.length : Int)) = true := decide_eq_true c4
  clear c4
  by_cases c5 : 0 ≤ x5_1
  rotate_left
  ·rw [if_neg c5] at H
   exact absurd H (by simp)
  rw [if_pos c5] at H
  have c5b0 : decide (0 ≤ x5_1) = true := decide_eq_true c5
  clear c5
  by_cases c6 : x5_1 < (l1.length : Int)
  rotate_left
  ·rw [if_neg c6] at H
   exact absurd H (by simp)
  rw [if_pos c6] at H
  have c6b0 : decide (x5_1 < (l1.length : Int)) = true := decide_eq_true c6
  clear c6
  by_cases c7 : (rd l0 x5_1) = (rd l1 x5_1)
  rotate_left
  ·rw [if_neg c7] at H
   have c7b0 : ((rd l0 x5_1) == (rd l1 x5_1)) = false := beq_eq_false_iff_ne.mpr c7
   have c7b1 : ((rd l0 x5_1) != (rd l1 x5_1)) = true := bne_iff_ne.mpr c7
   obtain rfl := Option.some.inj H
   have p216 : 0 ≤ (x5_1 : Int) := of_decide_eq_true qx5_1
   have q216 : x5_1 < (l0.length : Int) := of_decide_eq_true qx5_1
   obtain ⟨ad216, e216, hx216_0⟩ := Kd.at_int HR0.out x5_1 p216 q216
   cases e216
   replace p216 := eq_true p216
   replace q216 := eq_true q216
   have p217 : 0 ≤ (x5_1 : Int) := of_decide_eq_true qx5_1
   have q217 : x5_1 < (l1.length : Int) := of_decide_eq_true qx5_1
   obtain ⟨ad217, e217, hx217_0⟩ := Kd.at_int HR1.out x5_1 p217 q217
   cases e217
   replace p217 := eq_true p217
   replace q217 := eq_true q217
   go_wp2
   repeat (go_quiet (fail); try go_wp2)
   go_ret
   exact ⟨qx5_6, qx5_4⟩
  rw [if_pos c7] at H
  have c7b0 : ((rd l0 x5_1) == (rd l1 x5_1)) = true := beq_iff_eq.mpr c7
  have c7b1 : ((rd l0 x5_1) != (rd l1 x5_1)) = false := bne_eq_false_iff_eq.mpr c7
  clear c7
  have H' := Aside0.mk H
  clear H
  have p216 : 0 ≤ (x5_1 : Int) := of_decide_eq_true qx5_1
  have q216 : x5_1 < (l0.length : Int) := of_decide_eq_true qx5_1
  obtain ⟨ad216, e216, hx216_0⟩ := Kd.at_int HR0.out x5_1 p216 q216
  cases e216
  replace p216 := eq_true p216
  replace q216 := eq_true q216
  have p217 : 0 ≤ (x5_1 : Int) := of_decide_eq_true qx5_1
  have q217 : x5_1 < (l1.length : Int) := of_decide_eq_true qx5_1
  obtain ⟨ad217, e217, hx217_0⟩ := Kd.at_int HR1.out x5_1 p217 q217
  cases e217
  replace p217 := eq_true p217
  replace q217 := eq_true q217
  go_wp2
  repeat (go_quiet (fail); try go_wp2)
  go_roundg k1
  case measure => have := HK1.out; omega
  case rel => exact ⟨(wrap64 (x5_1 + 1)), qx5_6, H', ⟨by have := HK1.out; omega⟩, qx5_4⟩

/-! ### segmentation_Potentials: function 18 -/
def segmentation_Potentials.l0 : Nat → List Int → List (S74) → Int → Int → Option (List Int × Int)
 | 0, _, _, _, _ => none
 | k + 1, x9, x27, x28, x29 => if x29 < x28 then (if 0 ≤ x29 then (if x29 < (x27.length : Int) then (if x29 < (x9.length : Int) then (segmentation_Potentials.l0 k (x9.set (x29 : Int).toNat ((rd_T74 x27 x29).f0)) x27 x28 (wrap64 (x29 + 1))) else (none)) else (none)) else (none)) else (some (x9, 0))
def segmentation_Potentials.f (k : Nat) (l0 : List Int) (a1 : Int) : Option (List Int × Int) := (segmentation_Check.f k l0 a1).bind fun t218 => (if t218 = 0 then ((segmentation_solve.f k l0 a1 false).bind fun bt219 => (if 0 ≤ (bt219.1.length : Int) then (if ((bt219.1.length : Int) : Int).toNat ≤ 35184372088832 then (segmentation_Potentials.l0 k (List.replicate ((bt219.1.length : Int) : Int).toNat 0) bt219.1 (bt219.1.length : Int) 0) else (none)) else (none))) else (some (([] : List Int), t218)))
theorem segmentation_Potentials.mono_l : ∀ k, (∀ y0 y1 y2 y3, LeO (segmentation_Potentials.l0 k y0 y1 y2 y3) (segmentation_Potentials.l0 (k + 1) y0 y1 y2 y3))
 | 0 => fun _ _ _ _ r h => by simp [segmentation_Potentials.l0] at h
 | k + 1 => by
  have ih0 := segmentation_Potentials.mono_l k
  ·intro y0 y1 y2 y3
   unfold segmentation_Potentials.l0
   repeat' first
   | (with_reducible exact ih0 _ _ _ _)
   | (with_reducible exact segmentation_Check.mono _ _ _)
   | (with_reducible exact segmentation_solve.mono _ _ _ _)
   | (with_reducible exact LeO.refl _)
   | (with_reducible exact LeO.none _)
   | (with_reducible refine LeO.ite ?_ ?_)
   | (with_reducible refine LeO.bind ?_ (fun _ => ?_))
   | exact ih0 _ _ _ _
   | exact segmentation_Check.mono _ _ _
   | exact segmentation_solve.mono _ _ _ _
   | exact LeO.none _
   | refine LeO.ite ?_ ?_
   | refine LeO.bind ?_ (fun _ => ?_)
theorem segmentation_Potentials.mono : ∀ a0 a1 k, LeO (segmentation_Potentials.f k a0 a1) (segmentation_Potentials.f (k + 1) a0 a1) := by
 intro a0 a1 k
 have ih0 := segmentation_Potentials.mono_l k
 unfold segmentation_Potentials.f
 repeat' first
   | (with_reducible exact ih0 _ _ _ _)
   | (with_reducible exact segmentation_Check.mono _ _ _)
   | (with_reducible exact segmentation_solve.mono _ _ _ _)
   | (with_reducible exact LeO.refl _)
   | (with_reducible exact LeO.none _)
   | (with_reducible refine LeO.ite ?_ ?_)
   | (with_reducible refine LeO.bind ?_ (fun _ => ?_))
   | exact ih0 _ _ _ _
   | exact segmentation_Check.mono _ _ _
   | exact segmentation_solve.mono _ _ _ _
   | exact LeO.none _
   | refine LeO.ite ?_ ?_
   | refine LeO.bind ?_ (fun _ => ?_)
set_option maxHeartbeats 8000000 in
set_option maxRecDepth 100000 in
theorem segmentation_Potentials.calls (k : Nat) (A0 : Option Addr) (c0 : Nat) (l0 : List Int) (a1 : Int) (r1 : List Int) (r2 : Int) (w : World) (hr0 : Kd.C (Kd.int .i64) w A0 l0.length l0) (hc0 : l0.length ≤ c0) (h : segmentation_Potentials.f k l0 a1 = some (r1, r2)) :
  Calls Try.prog 18 #[.slice A0 l0.length c0, .int .i64 a1] w fun e w' => ∃ v0_ : Value, e = .returned (.tuple #[v0_, .int .i64 r2]) ∧ Kd.R (Kd.int .i64) 3 w' w.heap.size (fun _ => True) v0_ r1 ∧ Below w.heap.size w w' := by
 have hu74 := Try.underlying74
 have HR0 := Aside0.mk hr0
 have HC0 := Aside0.mk hc0
 clear hr0 hc0
 have HB := Aside0.mk (Below.refl w.heap.size w)
 have H : ((segmentation_Check.f k l0 a1).bind fun t218 => (if t218 = 0 then ((segmentation_solve.f k l0 a1 false).bind fun bt219 => (if 0 ≤ (bt219.1.length : Int) then (if ((bt219.1.length : Int) : Int).toNat ≤ 35184372088832 then (segmentation_Potentials.l0 k (List.replicate ((bt219.1.length : Int) : Int).toNat 0) bt219.1 (bt219.1.length : Int) 0) else (none)) else (none))) else (some (([] : List Int), t218)))) = some (r1, r2) := h
 clear h
 replace H := Option.bind_eq_some_iff.mp H
 obtain ⟨t218, A30, H⟩ := H
 replace H : (if t218 = 0 then ((segmentation_solve.f k l0 a1 false).bind fun bt219 => (if 0 ≤ (bt219.1.length : Int) then (if ((bt219.1.length : Int) : Int).toNat ≤ 35184372088832 then (segmentation_Potentials.l0 k (List.replicate ((bt219.1.length : Int) : Int).toNat 0) bt219.1 (bt219.1.length : Int) 0) else (none)) else (none))) else (some (([] : List Int), t218))) = some (r1, r2) := H
 have A3 := Aside0.mk A30
 clear A30
 by_cases c4 : t218 = 0
 rotate_left
 ·rw [if_neg c4] at H
  have c4b0 : (t218 == 0) = false := beq_eq_false_iff_ne.mpr c4
  have c4b1 : (t218 != 0) = true := bne_iff_ne.mpr c4
  simp only [Option.some.injEq, Prod.mk.injEq] at H
  obtain ⟨rfl, rfl⟩ := H
  go_enter Try.func18, Try.ntmps18
  go_wp2_with (first | ((with_reducible refine gate_callee (f := 36) rfl ?_); refine goesL_ (some 14) rfl rfl Try.func36 (by kernel_rfl) rfl #[.slice A0 l0.length c0, .int .i64 a1] rfl qx5_3 ?_; (with_reducible refine (segmentation_Check.calls k _ _ l0 a1 t218 _ ?side1 ?side2 A3.out).mono ?_); (case side1 => exact qx5_12); (case side2 => exact HC0.out); rintro e w' ⟨rfl, ⟨nd, rfl⟩⟩; refine ⟨_, rfl, ?_⟩))
  go_ret2
  exact ⟨_, qx5_11, qx5_16, qx5_0⟩
 rw [if_pos c4] at H
 have c4b0 : (t218 == 0) = true := beq_iff_eq.mpr c4
 have c4b1 : (t218 != 0) = false := bne_eq_false_iff_eq.mpr c4
 clear c4
 replace H := Option.bind_eq_some_iff.mp H
 obtain ⟨⟨t219, t222⟩, A50, H⟩ := H
 replace H : (if 0 ≤ (t219.length : Int) then (if ((t219.length : Int) : Int).toNat ≤ 35184372088832 then (segmentation_Potentials.l0 k (List.replicate ((t219.length : Int) : Int).toNat 0) t219 (t219.length : Int) 0) else (none)) else (none)) = some (r1, r2) := H
 have A5 := Aside0.mk A50
 clear A50
 by_cases c6 : 0 ≤ (t219.length : Int)
 rotate_left
 ·rw [if_neg c6] at H
  exact absurd H (by simp)
 rw [if_pos c6] at H
 have c6b0 := eq_true c6
 have c6b1 : decide (0 ≤ (t219.length : Int)) = true := decide_eq_true c6
 clear c6
 by_cases c7 : ((t219.length : Int) : Int).toNat ≤ 35184372088832
 rotate_left
 ·rw [if_neg c7] at H
  exact absurd H (by simp)
 rw [if_pos c7] at H
 have c7b0 := eq_true c7
 have c7b1 : decide (((t219.length : Int) : Int).toNat ≤ 35184372088832) = true := decide_eq_true c7
 clear c7
 obtain ⟨y223, hy223⟩ : ∃ y_ : List Int, y_ = (List.replicate ((t219.length : Int) : Int).toNat 0) := ⟨_, rfl⟩
 replace H : (segmentation_Potentials.l0 k y223 t219 (t219.length : Int) 0) = some (r1, r2) := by first | (rw [hy223]; with_reducible exact H) | (have H2_ := (Option.bind_some _ _).symm.trans H; rw [hy223]; with_reducible exact H2_) | (have H2_ := (Option.bind_some _ _).symm.trans H; with_reducible exact H2_) | with_reducible exact H | (rw [hy223]; exact H) | exact H
 have Ny223 := Aside0.mk hy223
 clear hy223
 have H' := Aside0.mk H
 clear H
 go_enter Try.func18, Try.ntmps18
 go_wp2_with (first | ((with_reducible refine gate_callee (f := 36) rfl ?_); refine goesL_ (some 14) rfl rfl Try.func36 (by kernel_rfl) rfl #[.slice A0 l0.length c0, .int .i64 a1] rfl qx5_3 ?_; (with_reducible refine (segmentation_Check.calls k _ _ l0 a1 t218 _ ?side1 ?side2 A3.out).mono ?_); (case side1 => exact qx5_12); (case side2 => exact HC0.out); rintro e w' ⟨rfl, ⟨nd, rfl⟩⟩; refine ⟨_, rfl, ?_⟩) | ((with_reducible refine gate_callee (f := 37) rfl ?_); refine goesL_ (some 21) rfl rfl Try.func37 (by kernel_rfl) rfl #[.slice A0 l0.length c0, .int .i64 a1, .bool false] rfl qx5_3 ?_; (with_reducible refine (segmentation_solve.calls k _ _ l0 a1 false t219 t222 _ ?side1 ?side2 A5.out).mono ?_); (case side1 => exact qx5_12); (case side2 => exact HC0.out); rintro e w8 ⟨v220, rfl, ho0, hb⟩; refine ⟨_, rfl, ?_⟩; have n0_ := Aside0.mk (Kd.N_lower (Kd.N_mono (ok' := fun k_ => True) ho0 (fun k_ hk_ => trivial)) (below_size qx5_0)); have n1_ := Aside0.mk (below_step qx5_0 hb); clear HB; have HO221 := n0_; have HB := n1_; clear n0_ n1_; (try clear hb); (try clear hb2); (try clear hk); (try clear hi); (try clear ho0); obtain ⟨Ao9, co9, eo9⟩ := Kd.N_slice HO221.out; subst eo9) | ((with_reducible refine gate_dst (N := 26) rfl ?_); refine Kd.R_make (Kd.int .i64) _ 3 rfl (N := 26) rfl 24 _ _ rfl (t219.length : Int) rfl rfl Try.underlying24 (.int .i64 0) 8 info3 rfl (by decide) (by omega) 0 (ok := fun _ => True) (okp := fun _ => True) rfl (fun _ hk => hk) trivial (of_decide_eq_true qx5_1) (Nat.le_trans (Nat.mul_le_mul_right _ (of_decide_eq_true qx5_1 : (t219.length : Int).toNat ≤ 35184372088832)) (by omega)) (Below.refl _ _) (Nat.le_refl _) ?_; intro v224 w10 ho11 hb hg_ hnew_; clear hg_ hnew_; (first | rw [← Ny223.out] at ho11 | (simp only [Int.reduceToNat] at ho11; rw [← Ny223.out] at ho11)); have n0_ := Aside0.mk (Kd.N_elder' (by (with_reducible repeat (first | apply Kd.N_alloc | apply Kd.N_drewN | apply Kd.N_drew)); exact HO221.out) (Kd.R_base ho11) hb); have n1_ := Aside0.mk (Kd.R_lower ho11 (below_size qx5_0)); have n2_ := Aside0.mk (below_step qx5_0 hb); clear HO221; clear HB; have HO221 := n0_; have HO225 := n1_; have HB := n2_; clear n0_ n1_ n2_; clear hb ho11))
 go_loopg [29] k (fun kq v29 w' => ∃ (x9_1 : List Int) (x29_1 : Int), v29 = .int .i64 x29_1 ∧ Aside0 (segmentation_Potentials.l0 kq x9_1 t219 (t219.length : Int) x29_1 = some (r1, r2)) ∧ Aside0 (kq ≤ k) ∧ Aside0 (Kd.R (Kd.int .i64) 3 w' w.heap.size (fun _ => True) v224 x9_1) ∧ Aside0 (Kd.N k74 74 w' w.heap.size (fun k_ => some k_ ≠ (v224 : Value).ownBlock) (.slice Ao9 t219.length co9) t219) ∧ Aside0 (Below w.heap.size w w'))
 case atStart => exact ⟨(y223), (0), qx5_6, H', ⟨Nat.le_refl _⟩, ⟨by (with_reducible repeat (first | apply Kd.R_alloc | apply Kd.R_drewN | apply Kd.R_drew)); exact HO225.out⟩, ⟨by (with_reducible repeat (first | apply Kd.N_alloc | apply Kd.N_drewN | apply Kd.N_drew)); exact Kd.N_mono HO221.out (fun _ hk => hk.2)⟩, ⟨qx5_0⟩⟩
 clear H'
 try clear c1
 try clear p2
 try clear c3
 try clear c4
 try clear c4b0
 try clear c4b1
 try clear c6
 try clear c6b0
 try clear c6b1
 try clear c7
 try clear c7b0
 try clear c7b1
 obtain ⟨x9_1, x29_1, rfl, HA, HK1, HO_9, HO_27, HB⟩ := hrel
 cases gk with
 | zero => exact absurd HA.out (by simp [segmentation_Potentials.l0])
 | succ k1 =>
  have H := HA.out
  clear HA
  simp only [segmentation_Potentials.l0] at H
  by_cases c12 : x29_1 < (t219.length : Int)
  rotate_left
  ·rw [if_neg c12] at H
   have c12b0 : decide (x29_1 < (t219.length : Int)) = false := decide_eq_false c12
   clear c12
   simp only [Option.some.injEq, Prod.mk.injEq] at H
   obtain ⟨rfl, rfl⟩ := H
   go_wp2
   go_ret2
   exact ⟨_, qx5_11, qx5_13, qx5_0⟩
  rw [if_pos c12] at H
  have c12b0 : decide (x29_1 < (t219.length : Int)) = true := decide_eq_true c12
  clear c12
  by_cases c13 : 0 ≤ x29_1
  rotate_left
  ·rw [if_neg c13] at H
   exact absurd H (by simp)
  rw [if_pos c13] at H
  have c13b0 : decide (0 ≤ x29_1) = true := decide_eq_true c13
  clear c13
  by_cases c14 : x29_1 < (t219.length : Int)
  rotate_left
  ·rw [if_neg c14] at H
   exact absurd H (by simp)
  rw [if_pos c14] at H
  have c14b0 : decide (x29_1 < (t219.length : Int)) = true := decide_eq_true c14
  clear c14
  by_cases c15 : x29_1 < (x9_1.length : Int)
  rotate_left
  ·rw [if_neg c15] at H
   exact absurd H (by simp)
  rw [if_pos c15] at H
  have c15b0 : decide (x29_1 < (x9_1.length : Int)) = true := decide_eq_true c15
  clear c15
  obtain ⟨y228, hy228⟩ : ∃ y_ : List Int, y_ = (x9_1.set (x29_1 : Int).toNat ((rd_T74 t219 x29_1).f0)) := ⟨_, rfl⟩
  replace H : (segmentation_Potentials.l0 k1 y228 t219 (t219.length : Int) (wrap64 (x29_1 + 1))) = some (r1, r2) := by first | (rw [hy228]; with_reducible exact H) | (have H2_ := (Option.bind_some _ _).symm.trans H; rw [hy228]; with_reducible exact H2_) | (have H2_ := (Option.bind_some _ _).symm.trans H; with_reducible exact H2_) | with_reducible exact H | (rw [hy228]; exact H) | exact H
  have Ny228 := Aside0.mk hy228
  clear hy228
  have H' := Aside0.mk H
  clear H
  have p226 : 0 ≤ (x29_1 : Int) := of_decide_eq_true qx5_1
  have q226 : x29_1 < (t219.length : Int) := of_decide_eq_true qx5_1
  obtain ⟨ad226, A226_1, c226_1, e226, hx226_0, hx226_1, hl226_1, hi226_1⟩ := at_T74 (Kd.N_reads' HO_27.out).2.2 x29_1 p226 q226
  cases e226
  obtain ⟨ce226, hce226, hMe226, hcc226⟩ := Kd.N_get HO_27.out z74 x29_1 p226 (by first | exact q226 | exact of_decide_eq_true qx5_1 | (have e_ := (Kd.N_reads' HO_27.out).1; omega))
  obtain ⟨ua226_1, uc226_1, rfl, ul226_1, ge226_1⟩ := k74_openF hMe226
  have hv226_1 := hcc226 1 _ rfl
  rw [add_field _ _ 1 (by omega)] at hv226_1
  replace hv226_1 := Option.some.inj (hv226_1.symm.trans hx226_1)
  injection hv226_1 with hva_ hvn_ hvc_
  rw [hva_] at ge226_1
  rw [hvc_] at ul226_1
  have HL226_1 := Aside0.mk (show Kd.V (Kd.int .i64) 3 _ w.heap.size _ _ ((rd_T74 t219 x29_1).f1) from Kd.V_mk ul226_1 ge226_1)
  clear hva_ hvn_ hvc_ ge226_1 ul226_1
  clear hcc226 hce226
  have HR226_1 := Aside0.mk hi226_1
  have HC226_1 := Aside0.mk hl226_1
  clear hi226_1 hl226_1
  replace p226 := eq_true p226
  replace q226 := eq_true q226
  go_wp2_with (first | ((with_reducible refine gate_dst (N := 11) rfl ?_); refine box_event ?hg (N := 11) ?hd (cs := #[.int .i64 0, .slice none 0 0]) (t := 74) ?hr ?_; (case hd => rfl); (case hg => rfl); (case hr => exact qx5_15); intro gb227 hg w17 hbox hb; have n0_ := Aside0.mk (Kd.R_below qx5_13 hb); have n1_ := Aside0.mk (Kd.N_below (Kd.N_elderB (by (with_reducible repeat (first | apply Kd.N_alloc | apply Kd.N_drewN | apply Kd.N_drew)); exact HO_27.out) gb227 (Nat.le_of_eq hg.symm)) hb); have n2_ := Aside0.mk (Kd.V_below (Kd.V_elderB (by (with_reducible repeat (first | apply Kd.V_alloc | apply Kd.V_drewN | apply Kd.V_drew)); exact HL226_1.out) gb227 (Nat.le_of_eq hg.symm)) hb); have n3_ := Aside0.mk (Kd.C_below (by repeat (first | (with_reducible exact HR226_1.out) | (with_reducible refine Kd.C_alloc ?_ _) | (with_reducible refine Kd.C_drewN ?_ _) | (with_reducible refine Kd.C_drew ?_) | exact HR226_1.out)) hb); have n4_ := Aside0.mk (below_step qx5_0 hb); have n5_ := Aside0.mk (hbox); have n6_ := Aside0.mk ((by rw [hg]; exact (below_size qx5_0) : w.heap.size ≤ gb227)); have n7_ := Aside0.mk ((by rw [hg]; exact (below_size qx5_0) : w.heap.size ≤ gb227)); clear HO_9; clear HO_27; clear HL226_1; clear HR226_1; clear HB; have HO_9 := n0_; have HO_27 := n1_; have HL226_1 := n2_; have HR226_1 := n3_; have HB := n4_; have BK227 := n5_; have GW227 := n6_; have GE227 := n7_; clear n0_ n1_ n2_ n3_ n4_ n5_ n6_ n7_; clear hb hbox hg; have hcz18_0 : w17.cell? ⟨gb227, 0, none⟩ = some (.int .i64 0) := (blk_cell BK227.out 0).trans rfl; have hcz18_1 : w17.cell? ⟨gb227, 1, none⟩ = some (.slice none 0 0) := (blk_cell BK227.out 1).trans rfl; have hfz18_0 := blk_frozen BK227.out 0; have hfz18_1 := blk_frozen BK227.out 1) | ((with_reducible refine gate_store (t := 74) (p := 11) rfl ?_); refine store_event (t := 74) (p := 11) (v := ?vo_w19) (w1 := ((w17.setCell ⟨gb227, 0, none⟩ (.int .i64 ((rd_T74 t219 x29_1).f0))).setCell ⟨gb227, 1, none⟩ (.slice A226_1 ((rd_T74 t219 x29_1).f1).length c226_1))) ?hg ?ho ?hn ?hr ?_; (case ho => rfl); (case hg => rfl); (case hn => rfl); (case hr => exact qx5_15); intro w19 hw; have n0_ : Aside0 (Kd.R (Kd.int .i64) 3 w19 w.heap.size (fun _ => True) v224 x9_1) := ⟨(by rw [hw]; exact (by (with_reducible repeat (first | apply Kd.R_alloc | apply Kd.R_drewN | apply Kd.R_drew)); exact Kd.R_mono (Kd.R_far (p := ⟨gb227, 1, none⟩) (Kd.R_far (p := ⟨gb227, 0, none⟩) (Kd.R_types HO_9.out BK227.out (by decide)) (fun _ hk => hk.2) (.int .i64 ((rd_T74 t219 x29_1).f0))) (fun _ hk => hk.2) (.slice A226_1 ((rd_T74 t219 x29_1).f1).length c226_1)) (fun _ hk => trivial)))⟩; have n1_ : Aside0 (Kd.N k74 74 w19 w.heap.size (fun k_ => some k_ ≠ (v224 : Value).ownBlock ∧ k_ ≠ gb227) (.slice (some ad226) t219.length co9) t219) := ⟨(by rw [hw]; exact (by (with_reducible repeat (first | apply Kd.N_alloc | apply Kd.N_drewN | apply Kd.N_drew)); exact Kd.N_mono (Kd.N_far (p := ⟨gb227, 1, none⟩) (Kd.N_far (p := ⟨gb227, 0, none⟩) (Kd.N_mono HO_27.out (fun k_ hk => (⟨hk, hk.2⟩ : _ ∧ k_ ≠ gb227))) (fun _ hk => hk.2) (.int .i64 ((rd_T74 t219 x29_1).f0))) (fun _ hk => hk.2) (.slice A226_1 ((rd_T74 t219 x29_1).f1).length c226_1)) (fun _ hk => ⟨hk.1.1, hk.1.2⟩)))⟩; have n2_ : Aside0 (Kd.V (Kd.int .i64) 3 w19 w.heap.size (fun k_ => some k_ ≠ (v224 : Value).ownBlock ∧ some k_ ≠ (.slice (some ad226) t219.length co9 : Value).ownBlock ∧ k_ ≠ gb227) (.slice A226_1 ((rd_T74 t219 x29_1).f1).length c226_1) ((rd_T74 t219 x29_1).f1)) := ⟨(by rw [hw]; exact (by (with_reducible repeat (first | apply Kd.V_alloc | apply Kd.V_drewN | apply Kd.V_drew)); exact Kd.V_mono (Kd.V_far (p := ⟨gb227, 1, none⟩) (Kd.V_far (p := ⟨gb227, 0, none⟩) (Kd.V_mono HL226_1.out (fun k_ hk => (⟨hk, hk.2⟩ : _ ∧ k_ ≠ gb227))) (fun _ hk => hk.2) (.int .i64 ((rd_T74 t219 x29_1).f0))) (fun _ hk => hk.2) (.slice A226_1 ((rd_T74 t219 x29_1).f1).length c226_1)) (fun _ hk => ⟨hk.1.1.1, ⟨hk.1.1.2, hk.1.2⟩⟩)))⟩; have n3_ : Aside0 (w19.heap[gb227]? = some (.cells #[.int .i64 ((rd_T74 t219 x29_1).f0), .slice A226_1 ((rd_T74 t219 x29_1).f1).length c226_1] 74 (0, 0))) := ⟨(by rw [hw]; exact (by (with_reducible repeat (first | refine blk_drewN ?_ _ | refine blk_drew ?_ | refine blk_alloc ?_ _)); refine blk_put (cs := #[.int .i64 ((rd_T74 t219 x29_1).f0), .slice none 0 0]) ?_ 1 _ rfl; (with_reducible repeat (first | refine blk_drewN ?_ _ | refine blk_drew ?_ | refine blk_alloc ?_ _)); refine blk_put (cs := #[.int .i64 0, .slice none 0 0]) ?_ 0 _ rfl; (with_reducible repeat (first | refine blk_drewN ?_ _ | refine blk_drew ?_ | refine blk_alloc ?_ _)); exact BK227.out))⟩; have n4_ : Aside0 (Below w.heap.size w w19) := ⟨(by rw [hw]; exact qx5_14)⟩; clear hw; clear HO_9; clear HO_27; clear HL226_1; clear BK227; clear HB; have HO_9 := n0_; have HO_27 := n1_; have HL226_1 := n2_; have BK227 := n3_; have HB := n4_; clear n0_ n1_ n2_ n3_ n4_; have hcz20_0 : w19.cell? ⟨gb227, 0, none⟩ = some (.int .i64 ((rd_T74 t219 x29_1).f0)) := (blk_cell BK227.out 0).trans rfl; have hcz20_1 : w19.cell? ⟨gb227, 1, none⟩ = some (.slice A226_1 ((rd_T74 t219 x29_1).f1).length c226_1) := (blk_cell BK227.out 1).trans rfl; have hfz20_0 := blk_frozen BK227.out 0; have hfz20_1 := blk_frozen BK227.out 1; have p16 : 0 ≤ (x29_1 : Int) := of_decide_eq_true qx5_1; have q16 : (x29_1 : Int) < ((x9_1.length : Int) : Int) := of_decide_eq_true qx5_1; obtain ⟨go16, co16, eo16, gb16, gl16, cl16, HG16⟩ := Kd.R_form HO_9.out (by omega); (first | cases eo16 | (injection eo16 with ea_ en_ ec_; (first | subst ea_ | (injection ea_ with ea_; subst ea_)); subst ec_; clear en_)); have GB16 := Aside0.mk gb16; have GG16 := Aside0.mk HG16; clear gb16 gl16 HG16; obtain ⟨hx16_0, hf16_0⟩ := Kd.R_celln 0 HO_9.out (x29_1 : Int) p16 q16; replace p16 := eq_true p16; replace q16 := eq_true q16; obtain ⟨hy21_, hz21_⟩ := Kd.R_celln 0 HO_9.out (x29_1 : Int) (of_decide_eq_true qx5_1) (of_decide_eq_true qx5_1); have HP21 := Kd.R_putg HO_9.out (x29_1 : Int) ((rd_T74 t219 x29_1).f0)) | ((with_reducible refine gate_store (t := 3) (p := 38) rfl ?_); refine store_event (t := 3) (p := 38) (v := ?vo_w22) (w1 := (w19.setCell ⟨go16, (x29_1 : Int).toNat, none⟩ (.int .i64 ((rd_T74 t219 x29_1).f0)))) ?hg ?ho ?hn ?hr ?_; (case ho => rfl); (case hg => rfl); (case hn => rfl); (case hr => exact qx5_15); intro w22 hw; have hg : w19.grownBy w22 (some go16) := (by rw [hw]; exact HP21.2); have hp_ : Kd.R (Kd.int .i64) 3 w22 w.heap.size (fun _ => True) (.slice (some ⟨go16, 0, none⟩) x9_1.length co16) y228 := (by rw [hw, Ny228.out]; exact HP21.1); clear HP21; have n0_ := Aside0.mk (hp_); have n1_ := Aside0.mk (Kd.N_afterv (v := (.slice (some ⟨go16, 0, none⟩) x9_1.length co16)) (v1 := (.slice (some ⟨go16, 0, none⟩) x9_1.length co16)) (ok := (fun k_ => k_ ≠ gb227)) (by (with_reducible repeat (first | apply Kd.N_alloc | apply Kd.N_drewN | apply Kd.N_drew)); exact Kd.N_mono HO_27.out (fun _ hk => ⟨hk.2, hk.1⟩)) hg (.inl rfl)); have n2_ := Aside0.mk (Kd.V_afterv (v := (.slice (some ⟨go16, 0, none⟩) x9_1.length co16)) (v1 := (.slice (some ⟨go16, 0, none⟩) x9_1.length co16)) (ok := (fun k_ => some k_ ≠ (.slice (some ad226) t219.length co9 : Value).ownBlock ∧ k_ ≠ gb227)) (by (with_reducible repeat (first | apply Kd.V_alloc | apply Kd.V_drewN | apply Kd.V_drew)); exact Kd.V_mono HL226_1.out (fun _ hk => ⟨⟨hk.2.1, hk.2.2⟩, hk.1⟩)) hg (.inl rfl)); have n3_ := Aside0.mk (blk_grown (g := gb227) (o := .cells #[.int .i64 ((rd_T74 t219 x29_1).f0), .slice A226_1 ((rd_T74 t219 x29_1).f1).length c226_1] 74 (0, 0)) (by (with_reducible repeat (first | refine blk_drewN ?_ _ | refine blk_drew ?_ | refine blk_alloc ?_ _)); exact BK227.out) hg (Kd.R_ne HO_9.out BK227.out (by decide))); have n4_ := Aside0.mk ((by rw [hw]; exact below_set (HB.out) GB16.out : Below w.heap.size w w22)); clear HO_9; clear HO_27; clear HL226_1; clear BK227; clear HB; have HO_9 := n0_; have HO_27 := n1_; have HL226_1 := n2_; have BK227 := n3_; have HB := n4_; clear n0_ n1_ n2_ n3_ n4_; clear hg hw hp_))
  go_roundg k1
  case measure => have := HK1.out; omega
  case rel => exact ⟨(y228), (wrap64 (x29_1 + 1)), qx5_6, H', ⟨by have := HK1.out; omega⟩, ⟨qx5_13⟩, ⟨by (with_reducible repeat (first | apply Kd.N_alloc | apply Kd.N_drewN | apply Kd.N_drew)); exact Kd.N_mono HO_27.out (fun _ hk => hk.2)⟩, ⟨qx5_14⟩⟩

/-! ### segmentation_checkCuts: function 41 -/
mutual
def segmentation_checkCuts.l0 : Nat → List Int → List Int → List Int → Int → Int → Option (Int)
 | 0, _, _, _, _, _ => none
 | k + 1, x0, x1, x7, x8, x9 => if x9 < x8 then (if 0 ≤ x9 then (if x9 < (x7.length : Int) then (if (rd x7 x9) < 1 then (segmentation_checkCuts.j1 k x0 x1 x9 (rd x7 x9) x7 x8 x9 true) else (segmentation_checkCuts.j1 k x0 x1 x9 (rd x7 x9) x7 x8 x9 (decide ((rd x7 x9) ≥ (x0.length : Int))))) else (none)) else (none)) else (some 0)
def segmentation_checkCuts.j1 : Nat → List Int → List Int → Int → Int → List Int → Int → Int → Bool → Option (Int)
 | 0, _, _, _, _, _, _, _, _ => none
 | k + 1, x0, x1, x5, x6, x7, x8, x9, x21 => if x21 = true then (some 2) else (if x5 > 0 then (if 0 ≤ (wrap64 (x5 - 1)) then (if (wrap64 (x5 - 1)) < (x1.length : Int) then (if x6 ≤ (rd x1 (wrap64 (x5 - 1))) then (some 8) else (segmentation_checkCuts.l0 k x0 x1 x7 x8 (wrap64 (x9 + 1)))) else (none)) else (none)) else (segmentation_checkCuts.l0 k x0 x1 x7 x8 (wrap64 (x9 + 1))))
end
def segmentation_checkCuts.f (k : Nat) (l0 : List Int) (l1 : List Int) : Option (Int) := segmentation_checkCuts.l0 k l0 l1 l1 (l1.length : Int) 0
theorem segmentation_checkCuts.mono_l : ∀ k, (∀ y0 y1 y2 y3 y4, LeO (segmentation_checkCuts.l0 k y0 y1 y2 y3 y4) (segmentation_checkCuts.l0 (k + 1) y0 y1 y2 y3 y4)) ∧ (∀ y0 y1 y2 y3 y4 y5 y6 y7, LeO (segmentation_checkCuts.j1 k y0 y1 y2 y3 y4 y5 y6 y7) (segmentation_checkCuts.j1 (k + 1) y0 y1 y2 y3 y4 y5 y6 y7))
 | 0 => ⟨fun _ _ _ _ _ r h => by simp [segmentation_checkCuts.l0] at h, fun _ _ _ _ _ _ _ _ r h => by simp [segmentation_checkCuts.j1] at h⟩
 | k + 1 => by
  obtain ⟨ih0, ih1⟩ := segmentation_checkCuts.mono_l k
  refine ⟨?_, ?_⟩
  ·intro y0 y1 y2 y3 y4
   unfold segmentation_checkCuts.l0
   repeat' first
   | (with_reducible exact ih0 _ _ _ _ _)
   | (with_reducible exact ih1 _ _ _ _ _ _ _ _)
   | (with_reducible exact LeO.refl _)
   | (with_reducible exact LeO.none _)
   | (with_reducible refine LeO.ite ?_ ?_)
   | (with_reducible refine LeO.bind ?_ (fun _ => ?_))
   | exact ih0 _ _ _ _ _
   | exact ih1 _ _ _ _ _ _ _ _
   | exact LeO.none _
   | refine LeO.ite ?_ ?_
   | refine LeO.bind ?_ (fun _ => ?_)
  ·intro y0 y1 y2 y3 y4 y5 y6 y7
   unfold segmentation_checkCuts.j1
   repeat' first
   | (with_reducible exact ih0 _ _ _ _ _)
   | (with_reducible exact ih1 _ _ _ _ _ _ _ _)
   | (with_reducible exact LeO.refl _)
   | (with_reducible exact LeO.none _)
   | (with_reducible refine LeO.ite ?_ ?_)
   | (with_reducible refine LeO.bind ?_ (fun _ => ?_))
   | exact ih0 _ _ _ _ _
   | exact ih1 _ _ _ _ _ _ _ _
   | exact LeO.none _
   | refine LeO.ite ?_ ?_
   | refine LeO.bind ?_ (fun _ => ?_)
theorem segmentation_checkCuts.mono : ∀ a0 a1 k, LeO (segmentation_checkCuts.f k a0 a1) (segmentation_checkCuts.f (k + 1) a0 a1) := by
 intro a0 a1 k
 obtain ⟨ih0, ih1⟩ := segmentation_checkCuts.mono_l k
 unfold segmentation_checkCuts.f
 repeat' first
   | (with_reducible exact ih0 _ _ _ _ _)
   | (with_reducible exact ih1 _ _ _ _ _ _ _ _)
   | (with_reducible exact LeO.refl _)
   | (with_reducible exact LeO.none _)
   | (with_reducible refine LeO.ite ?_ ?_)
   | (with_reducible refine LeO.bind ?_ (fun _ => ?_))
   | exact ih0 _ _ _ _ _
   | exact ih1 _ _ _ _ _ _ _ _
   | exact LeO.none _
   | refine LeO.ite ?_ ?_
   | refine LeO.bind ?_ (fun _ => ?_)
set_option maxHeartbeats 8000000 in
set_option maxRecDepth 100000 in
theorem segmentation_checkCuts.calls (k : Nat) (A0 : Option Addr) (c0 : Nat) (l0 : List Int) (A1 : Option Addr) (c1 : Nat) (l1 : List Int) (r : Int) (w : World) (hr0 : Kd.C (Kd.int .i64) w A0 l0.length l0) (hc0 : l0.length ≤ c0) (hr1 : Kd.C (Kd.int .i64) w A1 l1.length l1) (hc1 : l1.length ≤ c1) (h : segmentation_checkCuts.f k l0 l1 = some r) :
  Calls Try.prog 41 #[.slice A0 l0.length c0, .slice A1 l1.length c1] w fun e w' => e = .returned (.int .i64 r) ∧ Drawn0 w w' := by
 have HR0 := Aside0.mk hr0
 have HC0 := Aside0.mk hc0
 clear hr0 hc0
 have HR1 := Aside0.mk hr1
 have HC1 := Aside0.mk hc1
 clear hr1 hc1
 have H : (segmentation_checkCuts.l0 k l0 l1 l1 (l1.length : Int) 0) = some r := h
 clear h
 have H' := Aside0.mk H
 clear H
 go_enter Try.func41, Try.ntmps41
 go_wp2
 go_loopg [9] k (fun kq v9 w' => ∃ (x9_1 : Int), v9 = .int .i64 x9_1 ∧ Aside0 (segmentation_checkCuts.l0 kq l0 l1 l1 (l1.length : Int) x9_1 = some r) ∧ Aside0 (kq ≤ k) ∧ Drawn0 w w')
 case atStart => exact ⟨(0), qx5_6, H', ⟨Nat.le_refl _⟩, qx5_4⟩
 clear H'
 try clear c1
 try clear p2
 obtain ⟨x9_1, rfl, HA, HK1, ⟨m1, rfl⟩⟩ := hrel
 cases gk with
 | zero => exact absurd HA.out (by simp [segmentation_checkCuts.l0])
 | succ k1 =>
  have H := HA.out
  clear HA
  simp only [segmentation_checkCuts.l0] at H
  by_cases c3 : x9_1 < (l1.length : Int)
  rotate_left
  ·rw [if_neg c3] at H
   have c3b0 : decide (x9_1 < (l1.length : Int)) = false := decide_eq_false c3
   clear c3
   obtain rfl := Option.some.inj H
   go_wp2
   go_ret
   exact ⟨qx5_6, qx5_4⟩
  rw [if_pos c3] at H
  have c3b0 : decide (x9_1 < (l1.length : Int)) = true := decide_eq_true c3
  clear c3
  by_cases c4 : 0 ≤ x9_1
  rotate_left
  ·rw [if_neg c4] at H
   exact absurd H (by simp)
  rw [if_pos c4] at H
  have c4b0 : decide (0 ≤ x9_1) = true := decide_eq_true c4
  clear c4
  by_cases c5 : x9_1 < (l1.length : Int)
  rotate_left
  ·rw [if_neg c5] at H
   exact absurd H (by simp)
  rw [if_pos c5] at H
  have c5b0 : decide (x9_1 < (l1.length : Int)) = true := decide_eq_true c5
  clear c5
  have HC6 := Aside0.mk H
  clear H
  have p229 : 0 ≤ (x9_1 : Int) := of_decide_eq_true qx5_1
  have q229 : x9_1 < (l1.length : Int) := of_decide_eq_true qx5_1
  obtain ⟨ad229, e229, hx229_0⟩ := Kd.at_int HR1.out x9_1 p229 q229
  cases e229
  replace p229 := eq_true p229
  replace q229 := eq_true q229
  go_upto_region 4 with (fail)
  go_cut [21] (fun v21 wc => ∃ (kq : Nat) (x21_5 : Bool), v21 = .bool x21_5 ∧ Aside0 (segmentation_checkCuts.j1 kq l0 l1 x9_1 (rd l1 x9_1) l1 (l1.length : Int) x9_1 x21_5 = some r) ∧ Aside0 (kq ≤ k1) ∧ Drawn0 w wc)
  case first =>
   have H := HC6.out
   clear HC6
   by_cases c7 : (rd l1 x9_1) < 1
   ·rw [if_pos c7] at H
    have c7b0 : decide ((rd l1 x9_1) < 1) = true := decide_eq_true c7
    clear c7
    (first | rw [c7b0] | (simp only [i64_w, i32_w]; rw [c7b0]) | skip)
    have H' := Aside0.mk H
    clear H
    go_wp2
    go_meet
    case rel => exact ⟨_, (true), qx5_6, H', ⟨by have := HK1.out; first | omega | exact Nat.le_refl _⟩, qx5_4⟩
   rw [if_neg c7] at H
   have c7b0 : decide ((rd l1 x9_1) < 1) = false := decide_eq_false c7
   clear c7
   (first | rw [c7b0] | (simp only [i64_w, i32_w]; rw [c7b0]) | skip)
   have H' := Aside0.mk H
   clear H
   go_wp2
   go_meet
   case rel => exact ⟨_, (decide ((rd l1 x9_1) ≥ (l0.length : Int))), qx5_6, H', ⟨by have := HK1.out; first | omega | exact Nat.le_refl _⟩, qx5_4⟩
  clear HC6
  try clear c1
  try clear p2
  try clear q2
  try clear hx2
  try clear c3
  try clear c3b0
  try clear c4
  try clear c4b0
  try clear c5
  try clear c5b0
  try clear c7
  try clear c7b0
  try clear hx229_0
  try clear p2
  try clear p229
  try clear q229
  obtain ⟨kq, x21_5, rfl, HA, HJ5, ⟨mc5, rfl⟩⟩ := hcut
  cases kq with
  | zero => exact absurd HA.out (by simp [segmentation_checkCuts.j1])
  | succ kj5 =>
   have H := HA.out
   clear HA
   simp only [segmentation_checkCuts.j1] at H
   by_cases c8 : x21_5 = true
   ·subst c8
    have H1 : (some 2) = some r := by rw [if_pos rfl] at H; exact H
    clear H
    have H := H1
    clear H1
    obtain rfl := Option.some.inj H
    go_wp2
    go_ret
    exact ⟨qx5_6, qx5_4⟩
   replace c8 := Bool.eq_false_iff.mpr c8
   subst c8
   have H1 : (if x9_1 > 0 then (if 0 ≤ (wrap64 (x9_1 - 1)) then (if (wrap64 (x9_1 - 1)) < (l1.length : Int) then (if (rd l1 x9_1) ≤ (rd l1 (wrap64 (x9_1 - 1))) then (some 8) else (segmentation_checkCuts.l0 kj5 l0 l1 l1 (l1.length : Int) (wrap64 (x9_1 + 1)))) else (none)) else (none)) else (segmentation_checkCuts.l0 kj5 l0 l1 l1 (l1.length : Int) (wrap64 (x9_1 + 1)))) = some r := by rw [if_neg (show ¬ (false = true) by decide)] at H; exact H
   clear H
   have H := H1
   clear H1
   by_cases c9 : x9_1 > 0
   rotate_left
   ·rw [if_neg c9] at H
    have c9b0 : decide (0 < x9_1) = false := decide_eq_false c9
    clear c9
    have H' := Aside0.mk H
    clear H
    go_wp2
    go_roundg kj5
    case measure => have := HK1.out; have := HJ5.out; omega
    case rel => exact ⟨(wrap64 (x9_1 + 1)), qx5_6, H', ⟨by have := HK1.out; have := HJ5.out; omega⟩, qx5_4⟩
   rw [if_pos c9] at H
   have c9b0 : decide (0 < x9_1) = true := decide_eq_true c9
   clear c9
   obtain ⟨ji10, hji10⟩ : ∃ j_ : Int, (wrap64 (x9_1 - 1)) = j_ := ⟨_, rfl⟩
   replace H : (if 0 ≤ (ji10) then (if (ji10) < (l1.length : Int) then (if (rd l1 x9_1) ≤ (rd l1 (ji10)) then (some 8) else (segmentation_checkCuts.l0 kj5 l0 l1 l1 (l1.length : Int) (wrap64 (x9_1 + 1)))) else (none)) else (none)) = some r := by first | (rw [hji10] at H; exact H) | (simp only [hji10] at H ⊢; exact H)
   have hji10w : (IntKind.i64.wrap (x9_1 - 1)) = ji10 := (i64_w _).trans hji10
   by_cases c11 : 0 ≤ (ji10)
   rotate_left
   ·rw [if_neg c11] at H
    exact absurd H (by simp)
   rw [if_pos c11] at H
   have c11b0 : decide (0 ≤ (ji10)) = true := decide_eq_true c11
   clear c11
   by_cases c12 : (ji10) < (l1.length : Int)
   rotate_left
   ·rw [if_neg c12] at H
    exact absurd H (by simp)
   rw [if_pos c12] at H
   have c12b0 : decide ((ji10) < (l1.length : Int)) = true := decide_eq_true c12
   clear c12
   by_cases c13 : (rd l1 x9_1) ≤ (rd l1 (ji10))
   ·rw [if_pos c13] at H
    have c13b0 : decide ((rd l1 x9_1) ≤ (rd l1 (ji10))) = true := decide_eq_true c13
    clear c13
    obtain rfl := Option.some.inj H
    have p230 : 0 ≤ ((ji10) : Int) := of_decide_eq_true qx5_1
    have q230 : (ji10) < (l1.length : Int) := of_decide_eq_true qx5_1
    obtain ⟨ad230, e230, hx230_0⟩ := Kd.at_int HR1.out (ji10) p230 q230
    obtain rfl : ad229 = ad230 := (by injection e230)
    replace p230 := eq_true p230
    replace q230 := eq_true q230
    go_wp2
    go_ret
    exact ⟨by first | rfl | (simp; done) | (simp only [← hji10] <;> (first | rfl | simp)) | (simp [*]; done), qx5_4⟩
   rw [if_neg c13] at H
   have c13b0 : decide ((rd l1 x9_1) ≤ (rd l1 (ji10))) = false := decide_eq_false c13
   clear c13
   have H' := Aside0.mk H
   clear H
   have p230 : 0 ≤ ((ji10) : Int) := of_decide_eq_true qx5_1
   have q230 : (ji10) < (l1.length : Int) := of_decide_eq_true qx5_1
   obtain ⟨ad230, e230, hx230_0⟩ := Kd.at_int HR1.out (ji10) p230 q230
   obtain rfl : ad229 = ad230 := (by injection e230)
   replace p230 := eq_true p230
   replace q230 := eq_true q230
   go_wp2
   go_roundg kj5
   case measure => have := HK1.out; have := HJ5.out; omega
   case rel => exact ⟨(wrap64 (x9_1 + 1)), qx5_6, H', ⟨by have := HK1.out; have := HJ5.out; omega⟩, qx5_4⟩

end Go.Proofs.Ytiimanpmidnffaa.Q
