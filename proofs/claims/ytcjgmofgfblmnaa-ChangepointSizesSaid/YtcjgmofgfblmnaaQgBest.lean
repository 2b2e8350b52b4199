-- Laid by myprint.py (a program of this session's, over the kit's printer and with functions proved by hand)
import Derived.Test.YtcjgmofgfblmnaaTy
import Derived.Test.YtcjgmofgfblmnaaQgBase
import Derived.Test.YtcjgmofgfblmnaaQgSolve
namespace Go.Proofs.Ytcjgmofgfblmnaa.Q
open Go.RowKit Go.Proofs.YtcjgmofgfblmnaaW.PrintWords Go.Proofs.YtcjgmofgfblmnaaW.PrintLast Go.Proofs.YtcjgmofgfblmnaaW.PrintMore
attribute [local go_sem] max2_int min2_int max_two min_two max_three min_three max_four min_four   -- for this text's walks alone
set_option linter.unusedVariables false
set_option linter.unusedSimpArgs false

attribute [local go_sem high] eqA25
abbrev T4080 : Bool := true
abbrev F4080 : Bool := false
theorem qgbest_0 {p : Prop} (h : p := by repeat (first | (with_reducible first | exact HB.out | apply below_alloc | apply pw_below_drewN | apply below_drew1) | exact HB.out)) : p := h
theorem qgbest_1 {p : Prop} (h : p := by (try simp only [List.map_toArray, List.map_cons, List.map_nil]); first | done | rfl | (simp only [List.length_drop, List.length_take]; rfl)) : p := h
theorem qgbest_2 {p : Prop} (h : p := by repeat (first | (with_reducible first | exact HB.out | apply below_alloc | apply pw_below_drewN | apply below_drew1 | refine below_set ?_ GE212.out) | exact HB.out)) : p := h
theorem qgbest_3 {p : Prop} (h : p := by first | (with_reducible assumption) | assumption) : p := h
theorem qgbest_4 {p : Prop} (h : p := by repeat (first | exact HR0.out | (with_reducible refine Kd.C_alloc ?_ _) | (with_reducible refine Kd.C_drewN ?_ _) | (with_reducible refine Kd.C_drew ?_))) : p := h
theorem qgbest_5 {p : Prop} (h : p := by repeat (first | (with_reducible first | exact HB.out | apply below_alloc | apply pw_below_drewN | apply below_drew1 | refine below_set ?_ GE206.out | refine below_set ?_ GE208.out) | exact HB.out)) : p := h
theorem qgbest_6 {p : Prop} (h : p := by first | rfl | (simp; done) | (simp [*]; done)) : p := h
theorem qgbest_7 {p : Prop} (h : p := by (with_reducible repeat (first | refine blk_drewN ?_ _ | refine blk_drew ?_ | refine blk_alloc ?_ _)); exact BK212.out) : p := h
theorem qgbest_8 {p : Prop} (h : p := by first | rfl | (simp [errW_none, errW_some] <;> rfl) | (simp [*, errW_none, errW_some] <;> rfl)) : p := h
theorem qgbest_9 {p : Prop} (h : p := by first | exact Kd.R_nil _ _ _ _ _ | exact Kd.N_nil _ _ _ _ _ | exact Kd.V_nil _ _ _ _ _ | exact Kd.Q_nil _ _ _ _ _ | exact Kd.S_nil _ _ _ _ _) : p := h
theorem qgbest_10 {p : Prop} (h : p := by repeat (first | exact Drawn0.refl _ | apply Drawn0.step)) : p := h
theorem qgbest_11 {p : Prop} (h : p := by (with_reducible repeat (first | refine blk_drewN ?_ _ | refine blk_drew ?_ | refine blk_alloc ?_ _)); exact BK206.out) : p := h
theorem qgbest_12 {p : Prop} (h : p := by repeat (first | (with_reducible first | exact HB.out | apply below_alloc | apply pw_below_drewN | apply below_drew1 | refine below_set ?_ GE206.out) | exact HB.out)) : p := h
theorem qgbest_13 {p : Prop} (h : p := by repeat (first | exact (Kd.C_below HR0.out HB.out) | (with_reducible refine Kd.C_alloc ?_ _) | (with_reducible refine Kd.C_drewN ?_ _) | (with_reducible refine Kd.C_drew ?_))) : p := h
theorem qgbest_14 {p : Prop} (h : p := by repeat (first | exact HR1.out | (with_reducible refine Kd.C_alloc ?_ _) | (with_reducible refine Kd.C_drewN ?_ _) | (with_reducible refine Kd.C_drew ?_))) : p := h
theorem qgbest_15 {p : Prop} (h : p := by (with_reducible repeat (first | apply Kd.V_alloc | apply Kd.V_drewN | apply Kd.V_drew)); exact HO_0.out) : p := h
theorem qgbest_16 {p : Prop} (h : p := by (with_reducible repeat (first | apply Kd.R_alloc | apply Kd.R_drewN | apply Kd.R_drew)); exact HO_8.out) : p := h
theorem qgbest_17 {p : Prop} (h : p := by repeat (first | (with_reducible exact HR251_0.out) | (with_reducible refine Kd.C_alloc ?_ _) | (with_reducible refine Kd.C_drewN ?_ _) | (with_reducible refine Kd.C_drew ?_) | exact HR251_0.out)) : p := h
/-! ### segmentation_segmentation: function 36 -/
def segmentation_segmentation.f (l0 : List (S108)) : Option (List Int × Int) := if 0 ≤ (wrap64 ((l0.length : Int) - 1)) then (if (wrap64 ((l0.length : Int) - 1)) < (l0.length : Int) then ((slices_Clone_int_int.f ((rd_T108 l0 (wrap64 ((l0.length : Int) - 1))).f1)).bind fun t209 => (some (t209, (rd_T108 l0 (wrap64 ((l0.length : Int) - 1))).f0))) else (none)) else (none)
set_option maxHeartbeats 8000000 in
set_option maxRecDepth 100000 in
theorem segmentation_segmentation.calls (A0 : Option Addr) (c0 : Nat) (l0 : List (S108)) (r1 : List Int) (r2 : Int) (w : World) (hr0 : Kd.C k108 w A0 l0.length l0) (hc0 : l0.length ≤ c0) (h : segmentation_segmentation.f l0 = some (r1, r2)) :
  Calls Try.prog 36 #[.slice A0 l0.length c0] w fun e w' => ∃ v0_ : Value, e = .returned (.agg #[v0_, .int .i64 r2]) ∧ Kd.R (Kd.int .i64) 3 w' w.heap.size (fun _ => True) v0_ r1 ∧ Below w.heap.size w w' := by
 have hu35 := Try.underlying35
 have hu108 := Try.underlying108
 have HR0 := Aside0.mk hr0
 have HC0 := Aside0.mk hc0
 clear hr0 hc0
 have HB := Aside0.mk (Below.refl w.heap.size w)
 have H : (if 0 ≤ (wrap64 ((l0.length : Int) - 1)) then (if (wrap64 ((l0.length : Int) - 1)) < (l0.length : Int) then ((slices_Clone_int_int.f ((rd_T108 l0 (wrap64 ((l0.length : Int) - 1))).f1)).bind fun t209 => (some (t209, (rd_T108 l0 (wrap64 ((l0.length : Int) - 1))).f0))) else (none)) else (none)) = some (r1, r2) := h
 clear h
 obtain ⟨ji2, hji2⟩ : ∃ j_ : Int, (wrap64 ((l0.length : Int) - 1)) = j_ := ⟨_, rfl⟩
 replace H : (if 0 ≤ (ji2) then (if (ji2) < (l0.length : Int) then ((slices_Clone_int_int.f ((rd_T108 l0 (ji2)).f1)).bind fun t209 => (some (t209, (rd_T108 l0 (ji2)).f0))) else (none)) else (none)) = some (r1, r2) := by first | (rw [hji2] at H; exact H) | (simp only [hji2] at H ⊢; exact H)
 have hji2w : (IntKind.i64.wrap ((l0.length : Int) - 1)) = ji2 := (i64_w _).trans hji2
 by_cases c3 : 0 ≤ (ji2)
 rotate_left
 ·rw [if_neg c3] at H
  exact absurd H (by simp)
 rw [if_pos c3] at H
 have c3b0 : decide (0 ≤ (ji2)) = true := decide_eq_true c3
 clear c3
 by_cases c4 : (ji2) < (l0.length : Int)
 rotate_left
 ·rw [if_neg c4] at H
  exact absurd H (by simp)
 rw [if_pos c4] at H
 have c4b0 : decide ((ji2) < (l0.length : Int)) = true := decide_eq_true c4
 clear c4
 replace H := Option.bind_eq_some_iff.mp H
 obtain ⟨t209, A50, H⟩ := H
 replace H : (some (t209, (rd_T108 l0 (ji2)).f0)) = some (r1, r2) := H
 have A5 := Aside0.mk A50
 clear A50
 simp only [Option.some.injEq, Prod.mk.injEq] at H
 obtain ⟨rfl, rfl⟩ := H
 go_enter Try.func36, Try.ntmps36
 try go_wp2_with (first | ((with_reducible refine gate_dst (N := 2) rfl ?_); refine box_event ?hg (N := 2) ?hd (cs := #[.slice none 0 0, .int .i64 0]) (t := 35) ?hr ?_; (case hd => rfl); (case hg => rfl); (case hr => first | (go_simp; done) | (go_simp; rfl)); intro gb206 hg w6 hbox hb; have n0_ := Aside0.mk (below_step qgbest_0 hb); have n1_ := Aside0.mk (hbox); have n2_ := Aside0.mk ((by rw [hg]; exact (below_size qgbest_0) : w.heap.size ≤ gb206)); have n3_ := Aside0.mk ((by rw [hg]; exact (below_size qgbest_0) : w.heap.size ≤ gb206)); clear HB; have HB := n0_; have BK206 := n1_; have GW206 := n2_; have GE206 := n3_; clear n0_ n1_ n2_ n3_; clear hb hbox hg; have p207 : 0 ≤ ((ji2) : Int) := of_decide_eq_true qgbest_3; have q207 : (ji2) < (l0.length : Int) := of_decide_eq_true qgbest_3; obtain ⟨ad207, A207_1, c207_1, e207, hx207_0, hx207_1, hl207_1, hi207_1⟩ := at_T108 HR0.out (ji2) p207 q207; cases e207; replace hx207_0 := (HB.out.cell (World.block_lt_of_cell? w _ hx207_0)).trans hx207_0; replace hx207_1 := (HB.out.cell (World.block_lt_of_cell? w _ hx207_1)).trans hx207_1; have HR207_1 := Aside0.mk hi207_1; have HC207_1 := Aside0.mk hl207_1; clear hi207_1 hl207_1; replace p207 := eq_true p207; replace q207 := eq_true q207) | ((with_reducible refine gate_dst (N := 3) rfl ?_); refine box_event ?hg (N := 3) ?hd (cs := #[.int .i64 0, .slice none 0 0]) (t := 108) ?hr ?_; (case hd => rfl); (case hg => rfl); (case hr => first | (go_simp; done) | (go_simp; rfl)); intro gb208 hg w7 hbox hb; have n0_ := Aside0.mk (blk_below (g := gb206) (o := .cells #[.slice none 0 0, .int .i64 0] 35 (0, 0)) qgbest_11 hb); have n1_ := Aside0.mk (below_step qgbest_12 hb); have n2_ := Aside0.mk (hbox); have n3_ := Aside0.mk ((by rw [hg]; exact (below_size qgbest_12) : w.heap.size ≤ gb208)); have n4_ := Aside0.mk ((by rw [hg]; exact (below_size qgbest_12) : w.heap.size ≤ gb208)); have n5_ := Aside0.mk ((by rw [hg]; exact Nat.ne_of_lt (blk_lt (g := gb206) (o := .cells #[.slice none 0 0, .int .i64 0] 35 (0, 0)) qgbest_11) : gb206 ≠ gb208)); have n6_ := Aside0.mk ((by rw [hg]; exact Nat.ne_of_gt (blk_lt (g := gb206) (o := .cells #[.slice none 0 0, .int .i64 0] 35 (0, 0)) qgbest_11) : gb208 ≠ gb206)); clear BK206; clear HB; have BK206 := n0_; have HB := n1_; have BK208 := n2_; have GW208 := n3_; have GE208 := n4_; have NB206_208 := n5_; have NB208_206 := n6_; clear n0_ n1_ n2_ n3_ n4_ n5_ n6_; clear hb hbox hg; have hnb8 := NB208_206.out; have hnc8 := NB206_208.out; have hcz9_0 : w7.cell? ⟨gb208, 0, none⟩ = some (.int .i64 0) := (blk_cell BK208.out 0).trans rfl; have hcz9_1 : w7.cell? ⟨gb208, 1, none⟩ = some (.slice none 0 0) := (blk_cell BK208.out 1).trans rfl; have hfz9_0 := blk_frozen BK208.out 0; have hfz9_1 := blk_frozen BK208.out 1))
 have n0_ : Aside0 (((w7.setCell ⟨gb208, 0, none⟩ (.int .i64 ((rd_T108 l0 (ji2)).f0))).setCell ⟨gb208, 1, none⟩ (.slice A207_1 ((rd_T108 l0 (ji2)).f1).length c207_1)).heap[gb206]? = some (.cells #[.slice none 0 0, .int .i64 0] 35 (0, 0))) := ⟨by (with_reducible repeat (first | refine blk_drewN ?_ _ | refine blk_drew ?_ | refine blk_alloc ?_ _)); refine blk_far ?_ NB206_208.out _; (with_reducible repeat (first | refine blk_drewN ?_ _ | refine blk_drew ?_ | refine blk_alloc ?_ _)); refine blk_far ?_ NB206_208.out _; (with_reducible repeat (first | refine blk_drewN ?_ _ | refine blk_drew ?_ | refine blk_alloc ?_ _)); exact BK206.out⟩
 have n1_ : Aside0 (((w7.setCell ⟨gb208, 0, none⟩ (.int .i64 ((rd_T108 l0 (ji2)).f0))).setCell ⟨gb208, 1, none⟩ (.slice A207_1 ((rd_T108 l0 (ji2)).f1).length c207_1)).heap[gb208]? = some (.cells #[.int .i64 ((rd_T108 l0 (ji2)).f0), .slice A207_1 ((rd_T108 l0 (ji2)).f1).length c207_1] 108 (0, 0))) := ⟨by (with_reducible repeat (first | refine blk_drewN ?_ _ | refine blk_drew ?_ | refine blk_alloc ?_ _)); refine blk_put (cs := #[.int .i64 ((rd_T108 l0 (ji2)).f0), .slice none 0 0]) ?_ 1 _ rfl; (with_reducible repeat (first | refine blk_drewN ?_ _ | refine blk_drew ?_ | refine blk_alloc ?_ _)); refine blk_put (cs := #[.int .i64 0, .slice none 0 0]) ?_ 0 _ rfl; (with_reducible repeat (first | refine blk_drewN ?_ _ | refine blk_drew ?_ | refine blk_alloc ?_ _)); exact BK208.out⟩
 have n2_ : Aside0 (Below w.heap.size w ((w7.setCell ⟨gb208, 0, none⟩ (.int .i64 ((rd_T108 l0 (ji2)).f0))).setCell ⟨gb208, 1, none⟩ (.slice A207_1 ((rd_T108 l0 (ji2)).f1).length c207_1))) := ⟨qgbest_5⟩
 (try clear BK206)
 (try clear BK208)
 (try clear HB)
 generalize ((w7.setCell ⟨gb208, 0, none⟩ (.int .i64 ((rd_T108 l0 (ji2)).f0))).setCell ⟨gb208, 1, none⟩ (.slice A207_1 ((rd_T108 l0 (ji2)).f1).length c207_1)) = w10 at n0_ n1_ n2_ ⊢
 have BK206 := n0_
 have BK208 := n1_
 have HB := n2_
 clear n0_ n1_ n2_
 have n0_ := Aside0.mk (blk_drew BK206.out)
 have n1_ := Aside0.mk (blk_drew BK208.out)
 have n2_ := Aside0.mk (below_drew1 HB.out)
 clear BK206
 clear BK208
 clear HB
 have BK206 := n0_
 have BK208 := n1_
 have HB := n2_
 clear n0_ n1_ n2_
 refine start_ (n := 7) (S := fun w' => w'.cell? ⟨gb208, 0, none⟩ = some (.int .i64 ((rd_T108 l0 (ji2)).f0)) ∧ w'.cell? ⟨gb208, 1, none⟩ = some (.slice A207_1 ((rd_T108 l0 (ji2)).f1).length c207_1)) (ds := []) #[F4080, F4080, F4080, F4080, F4080, F4080, F4080] (by kernel_rfl) rfl rfl ⟨(blk_cell BK208.out 0).trans rfl, (blk_cell BK208.out 1).trans rfl⟩ (fun hHeld => ?_)
 generalize w10.drew = w11 at BK206 BK208 HB hHeld ⊢
 refine pure_ (i := 0) (N := some 10) (v := ?_) (a' := ?_) #[T4080, F4080, F4080, F4080, F4080, F4080, F4080] rfl rfl (by kernel_rfl) (fun _ _ _ h => h) (Or.inl ⟨by rfl, ?_⟩) ?_ ?_
 rotate_left
 ·intro w'
  go_simp
  with_reducible rfl
 rotate_left
 ·simp only [Act.put, List.setIfInBounds_toArray, List.set_cons_zero, List.set_cons_succ, i64_w, i32_w]
  rfl
 refine pure_ (i := 3) (N := some 13) (v := ?_) (a' := ?_) #[T4080, F4080, F4080, T4080, F4080, F4080, F4080] rfl rfl (by kernel_rfl) (fun _ _ _ h => h) (Or.inl ⟨by rfl, ?_⟩) ?_ ?_
 rotate_left
 ·intro w'
  go_simp
  with_reducible rfl
 rotate_left
 ·simp only [Act.put, List.setIfInBounds_toArray, List.set_cons_zero, List.set_cons_succ, i64_w, i32_w]
  rfl
 refine take_ (i := 1) (N := some 11) (v := ?_) (a' := ?_) #[T4080, T4080, F4080, T4080, F4080, F4080, F4080] rfl rfl (by kernel_rfl) (fun _ _ _ h => h) (Or.inl ⟨by rfl, ?_⟩) hHeld ?_ ?_
 rotate_left
 ·rintro w' ⟨s0, s1⟩
  go_simp
  with_reducible rfl
 rotate_left
 ·simp only [Act.put, List.setIfInBounds_toArray, List.set_cons_zero, List.set_cons_succ, i64_w, i32_w]
  rfl
 refine take_ (i := 4) (N := some 14) (v := ?_) (a' := ?_) #[T4080, T4080, F4080, T4080, T4080, F4080, F4080] rfl rfl (by kernel_rfl) (fun _ _ _ h => h) (Or.inl ⟨by rfl, ?_⟩) hHeld ?_ ?_
 rotate_left
 ·rintro w' ⟨s0, s1⟩
  go_simp
  with_reducible rfl
 rotate_left
 ·simp only [Act.put, List.setIfInBounds_toArray, List.set_cons_zero, List.set_cons_succ, i64_w, i32_w]
  rfl
 refine one_ (i := 2) (N := some 12) #[T4080, T4080, T4080, T4080, T4080, F4080, F4080] rfl rfl (by kernel_rfl) (by decide) (fun K hK => ?_)
 refine goes_ Try.func50 (by kernel_rfl) rfl #[.slice A207_1 ((rd_T108 l0 (ji2)).f1).length c207_1] (by rfl) rfl rfl (by (try simp only [List.map_toArray, List.map_cons, List.map_nil]); first | done | (simp only [hji2]; rfl) | rfl | (simp only [List.length_drop, List.length_take]; rfl)) ?_
 with_reducible refine (slices_Clone_int_int.calls _ _ ((rd_T108 l0 (ji2)).f1) t209 _ ?side1 ?side2 A5.out).mono ?_
 (case side1 => repeat (first | exact (Kd.C_below HR207_1.out HB.out) | (with_reducible refine Kd.C_alloc ?_ _) | (with_reducible refine Kd.C_drewN ?_ _) | (with_reducible refine Kd.C_drew ?_)))
 (case side2 => exact HC207_1.out)
 rintro e w12 ⟨v210, rfl, ho0, hb⟩
 refine ⟨_, rfl, ?_⟩
 have n0_ := Aside0.mk (Kd.R_lower ho0 (below_size qgbest_5))
 have n1_ := Aside0.mk (blk_below (g := gb206) (o := .cells #[.slice none 0 0, .int .i64 0] 35 (0, 0)) qgbest_11 hb)
 have n2_ := Aside0.mk (blk_below (g := gb208) (o := .cells #[.int .i64 ((rd_T108 l0 (ji2)).f0), .slice A207_1 ((rd_T108 l0 (ji2)).f1).length c207_1] 108 (0, 0)) (by (with_reducible repeat (first | refine blk_drewN ?_ _ | refine blk_drew ?_ | refine blk_alloc ?_ _)); exact BK208.out) hb)
 have n3_ := Aside0.mk (below_step qgbest_5 hb)
 clear BK206
 clear BK208
 clear HB
 have HO211 := n0_
 have BK206 := n1_
 have BK208 := n2_
 have HB := n3_
 clear n0_ n1_ n2_ n3_
 (try clear hb)
 (try clear hb2)
 (try clear hk)
 (try clear hi)
 (try clear ho0)
 obtain ⟨Ao13, co13, eo13⟩ := Kd.R_slice HO211.out
 (first | subst eo13 | (injection eo13 with f1_ f2_ f3_; have f4_ := f1_.symm; have f5_ := f3_.symm; clear f1_ f2_ f3_; subst f4_; subst f5_))
 refine hK.out _ _ ⟨(blk_cell BK208.out 0).trans rfl, (blk_cell BK208.out 1).trans rfl⟩ (fun hHeld => ?_)
 clear hK K
 refine norm_ (a' := ?_) ?_ ?_
 rotate_left
 ·show Act.put _ (some 12) _ = _
  simp only [Act.put, List.setIfInBounds_toArray, List.set_cons_zero, List.set_cons_succ, i64_w, i32_w]
  rfl
 refine pure_ (i := 5) (N := some 15) (v := ?_) (a' := ?_) #[T4080, T4080, T4080, T4080, T4080, T4080, F4080] rfl rfl (by kernel_rfl) (fun _ _ _ h => h) (Or.inl ⟨by rfl, ?_⟩) ?_ ?_
 rotate_left
 ·intro w'
  go_simp
  with_reducible rfl
 rotate_left
 ·simp only [Act.put, List.setIfInBounds_toArray, List.set_cons_zero, List.set_cons_succ, i64_w, i32_w]
  rfl
 refine one_ (i := 6) (N := none) #[T4080, T4080, T4080, T4080, T4080, T4080, T4080] rfl rfl (by kernel_rfl) (by decide) (fun K hK => ?_)
 have hs14 : w12.cell? ⟨gb206, 0, none⟩ = some (.slice none 0 0) := (blk_cell BK206.out 0).trans rfl
 have hfs14 := blk_frozen BK206.out 0
 have hns14_1 := NB208_206.out
 have hms14_1 := NB206_208.out
 have hs15 : w12.cell? ⟨gb206, 1, none⟩ = some (.int .i64 0) := (blk_cell BK206.out 1).trans rfl
 have hfs15 := blk_frozen BK206.out 1
 have hns15_1 := NB208_206.out
 have hms15_1 := NB206_208.out
 refine skip_ (w1 := ?_) (by rfl) rfl ?_ ?_
 rotate_left
 ·go_simp
  rfl
 refine hK.out _ _ ⟨((cell_far (p := ⟨gb206, _, none⟩) NB208_206.out _).trans (((cell_far (p := ⟨gb206, _, none⟩) NB208_206.out _).trans (hHeld.1)))), ((cell_far (p := ⟨gb206, _, none⟩) NB208_206.out _).trans (((cell_far (p := ⟨gb206, _, none⟩) NB208_206.out _).trans (hHeld.2))))⟩ (fun hHeld => ?_)
 clear hK K
 refine done_ (by kernel_rfl) ?_
 try go_wp2
 refine bodyPost_ret (results_cell_row rfl _ _ gb206 35 #[.slice Ao13 t209.length co13, .int .i64 ((rd_T108 l0 (ji2)).f0)] (0, 0) _ rfl (by (with_reducible repeat (first | refine blk_drewN ?_ _ | refine blk_drew ?_ | refine blk_alloc ?_ _)); refine blk_put (cs := #[.slice Ao13 t209.length co13, .int .i64 0]) ?_ 1 _ rfl; (with_reducible repeat (first | refine blk_drewN ?_ _ | refine blk_drew ?_ | refine blk_alloc ?_ _)); refine blk_put (cs := #[.slice none 0 0, .int .i64 0]) ?_ 0 _ rfl; (with_reducible repeat (first | refine blk_drewN ?_ _ | refine blk_drew ?_ | refine blk_alloc ?_ _)); exact BK206.out) Try.underlying35 rfl (by kernel_rfl)) rfl ?_
 exact ⟨_, by first | rfl | (simp [errW_none, errW_some] <;> rfl) | (simp only [← hji2]; first | rfl | (simp [errW_none, errW_some] <;> rfl)) | (simp [*, errW_none, errW_some] <;> rfl), by (with_reducible repeat (first | apply Kd.R_alloc | apply Kd.R_drewN | apply Kd.R_drew)); exact Kd.R_mono (Kd.R_far (p := ⟨gb206, 1, none⟩) (Kd.R_far (p := ⟨gb206, 0, none⟩) (Kd.R_types HO211.out BK206.out (by decide)) (fun _ hk => hk.2) (.slice Ao13 t209.length co13)) (fun _ hk => hk.2) (.int .i64 ((rd_T108 l0 (ji2)).f0))) (fun _ hk => trivial), qgbest_5⟩

/-! ### segmentation_Best: function 16 -/
def segmentation_Best.f (k : Nat) (l0 : List Int) (a1 : Int) : Option (List Int × Int × Int) := (segmentation_Check.f k l0 a1).bind fun t213 => (if t213 = 0 then ((segmentation_solve.f k l0 a1 false).bind fun bt214 => ((segmentation_segmentation.f bt214.1).bind fun bt218 => (some (bt218.1, bt218.2, 0)))) else (some (([] : List Int), 0, t213)))
theorem segmentation_Best.mono : ∀ a0 a1 k, LeO (segmentation_Best.f k a0 a1) (segmentation_Best.f (k + 1) a0 a1) := by
 intro a0 a1 k
 unfold segmentation_Best.f
 repeat' first
   | (with_reducible exact segmentation_Check.mono _ _ _)
   | (with_reducible exact segmentation_solve.mono _ _ _ _)
   | (with_reducible exact LeO.refl _)
   | (with_reducible exact LeO.none _)
   | (with_reducible refine LeO.ite ?_ ?_)
   | (with_reducible refine LeO.bind ?_ (fun _ => ?_))
   | exact segmentation_Check.mono _ _ _
   | exact segmentation_solve.mono _ _ _ _
   | exact LeO.none _
   | refine LeO.ite ?_ ?_
   | refine LeO.bind ?_ (fun _ => ?_)
set_option maxHeartbeats 8000000 in
set_option maxRecDepth 100000 in
theorem segmentation_Best.calls (k : Nat) (A0 : Option Addr) (c0 : Nat) (l0 : List Int) (a1 : Int) (r1 : List Int) (r2 : Int) (r3 : Int) (w : World) (hr0 : Kd.C (Kd.int .i64) w A0 l0.length l0) (hc0 : l0.length ≤ c0) (h : segmentation_Best.f k l0 a1 = some (r1, r2, r3)) :
  Calls Try.prog 16 #[.slice A0 l0.length c0, .int .i64 a1] w fun e w' => ∃ v0_ : Value, e = .returned (.tuple #[.agg #[v0_, .int .i64 r2], .int .i64 r3]) ∧ Kd.R (Kd.int .i64) 3 w' w.heap.size (fun _ => True) v0_ r1 ∧ Below w.heap.size w w' := by
 have hu35 := Try.underlying35
 have HR0 := Aside0.mk hr0
 have HC0 := Aside0.mk hc0
 clear hr0 hc0
 have HB := Aside0.mk (Below.refl w.heap.size w)
 have H : ((segmentation_Check.f k l0 a1).bind fun t213 => (if t213 = 0 then ((segmentation_solve.f k l0 a1 false).bind fun bt214 => ((segmentation_segmentation.f bt214.1).bind fun bt218 => (some (bt218.1, bt218.2, 0)))) else (some (([] : List Int), 0, t213)))) = some (r1, r2, r3) := h
 clear h
 replace H := Option.bind_eq_some_iff.mp H
 obtain ⟨t213, A30, H⟩ := H
 replace H : (if t213 = 0 then ((segmentation_solve.f k l0 a1 false).bind fun bt214 => ((segmentation_segmentation.f bt214.1).bind fun bt218 => (some (bt218.1, bt218.2, 0)))) else (some (([] : List Int), 0, t213))) = some (r1, r2, r3) := H
 have A3 := Aside0.mk A30
 clear A30
 by_cases c4 : t213 = 0
 rotate_left
 ·rw [if_neg c4] at H
  have c4b0 : (t213 == 0) = false := beq_eq_false_iff_ne.mpr c4
  have c4b1 : (t213 != 0) = true := bne_iff_ne.mpr c4
  simp only [Option.some.injEq, Prod.mk.injEq] at H
  obtain ⟨rfl, rfl, rfl⟩ := H
  go_enter Try.func16, Try.ntmps16
  go_wp2_with (first | ((with_reducible refine gate_dst (N := 4) rfl ?_); refine box_event ?hg (N := 4) ?hd (cs := #[.slice none 0 0, .int .i64 0]) (t := 35) ?hr ?_; (case hd => rfl); (case hg => rfl); (case hr => first | (go_simp; done) | (go_simp; rfl)); intro gb212 hg w13 hbox hb; have n0_ := Aside0.mk (below_step qgbest_0 hb); have n1_ := Aside0.mk (hbox); have n2_ := Aside0.mk ((by rw [hg]; exact (below_size qgbest_0) : w.heap.size ≤ gb212)); have n3_ := Aside0.mk ((by rw [hg]; exact (below_size qgbest_0) : w.heap.size ≤ gb212)); clear HB; have HB := n0_; have BK212 := n1_; have GW212 := n2_; have GE212 := n3_; clear n0_ n1_ n2_ n3_; clear hb hbox hg) | ((with_reducible refine gate_callee (f := 19) rfl ?_); refine goesL_ (some 11) rfl rfl Try.func19 (by kernel_rfl) rfl #[.slice A0 l0.length c0, .int .i64 a1] rfl qgbest_1 ?_; (with_reducible refine (segmentation_Check.calls k _ _ l0 a1 t213 _ ?side1 ?side2 A3.out).mono ?_); (case side1 => exact qgbest_13); (case side2 => exact HC0.out); rintro e w' ⟨rfl, ⟨nd, rfl⟩⟩; refine ⟨_, rfl, ?_⟩; (try (rw [drewN_self w13]; generalize hq_ : World.drewN w13 _ = w13; have n0_ : Aside0 (w13.heap[gb212]? = some (.cells #[.slice none 0 0, .int .i64 0] 35 (0, 0))) := ⟨by rw [← hq_]; exact qgbest_7⟩; have n1_ : Aside0 (Below w.heap.size w w13) := ⟨by rw [← hq_]; exact qgbest_2⟩; clear BK212 HB hq_; have BK212 := n0_; have HB := n1_; clear n0_ n1_)); have hcz14_0 : w13.cell? ⟨gb212, 0, none⟩ = some (.slice none 0 0) := (blk_cell BK212.out 0).trans rfl; have hcz14_1 : w13.cell? ⟨gb212, 1, none⟩ = some (.int .i64 0) := (blk_cell BK212.out 1).trans rfl; have hfz14_0 := blk_frozen BK212.out 0; have hfz14_1 := blk_frozen BK212.out 1))
  refine bodyPost_ret (results_ct rfl _ _ gb212 35 #[.slice none 0 0, .int .i64 0] (0, 0) _ rfl (by (with_reducible repeat (first | refine blk_drewN ?_ _ | refine blk_drew ?_ | refine blk_alloc ?_ _)); refine blk_put (cs := #[.slice none 0 0, .int .i64 0]) ?_ 1 _ rfl; (with_reducible repeat (first | refine blk_drewN ?_ _ | refine blk_drew ?_ | refine blk_alloc ?_ _)); refine blk_put (cs := #[.slice none 0 0, .int .i64 0]) ?_ 0 _ rfl; (with_reducible repeat (first | refine blk_drewN ?_ _ | refine blk_drew ?_ | refine blk_alloc ?_ _)); exact BK212.out) Try.underlying35 rfl (by kernel_rfl)) rfl ?_
  exact ⟨_, qgbest_8, qgbest_9, qgbest_2⟩
 rw [if_pos c4] at H
 have c4b0 : (t213 == 0) = true := beq_iff_eq.mpr c4
 have c4b1 : (t213 != 0) = false := bne_eq_false_iff_eq.mpr c4
 clear c4
 replace H := Option.bind_eq_some_iff.mp H
 obtain ⟨⟨t214, t217⟩, A50, H⟩ := H
 replace H : ((segmentation_segmentation.f t214).bind fun bt218 => (some (bt218.1, bt218.2, 0))) = some (r1, r2, r3) := H
 have A5 := Aside0.mk A50
 clear A50
 replace H := Option.bind_eq_some_iff.mp H
 obtain ⟨⟨t218, t221⟩, A60, H⟩ := H
 replace H : (some (t218, t221, 0)) = some (r1, r2, r3) := H
 have A6 := Aside0.mk A60
 clear A60
 simp only [Option.some.injEq, Prod.mk.injEq] at H
 obtain ⟨rfl, rfl, rfl⟩ := H
 go_enter Try.func16, Try.ntmps16
 go_wp2_with (first | ((with_reducible refine gate_dst (N := 4) rfl ?_); refine box_event ?hg (N := 4) ?hd (cs := #[.slice none 0 0, .int .i64 0]) (t := 35) ?hr ?_; (case hd => rfl); (case hg => rfl); (case hr => first | (go_simp; done) | (go_simp; rfl)); intro gb212 hg w7 hbox hb; have n0_ := Aside0.mk (below_step qgbest_0 hb); have n1_ := Aside0.mk (hbox); have n2_ := Aside0.mk ((by rw [hg]; exact (below_size qgbest_0) : w.heap.size ≤ gb212)); have n3_ := Aside0.mk ((by rw [hg]; exact (below_size qgbest_0) : w.heap.size ≤ gb212)); clear HB; have HB := n0_; have BK212 := n1_; have GW212 := n2_; have GE212 := n3_; clear n0_ n1_ n2_ n3_; clear hb hbox hg) | ((with_reducible refine gate_callee (f := 19) rfl ?_); refine goesL_ (some 11) rfl rfl Try.func19 (by kernel_rfl) rfl #[.slice A0 l0.length c0, .int .i64 a1] rfl qgbest_1 ?_; (with_reducible refine (segmentation_Check.calls k _ _ l0 a1 t213 _ ?side1 ?side2 A3.out).mono ?_); (case side1 => exact qgbest_13); (case side2 => exact HC0.out); rintro e w' ⟨rfl, ⟨nd, rfl⟩⟩; refine ⟨_, rfl, ?_⟩; (try (rw [drewN_self w7]; generalize hq_ : World.drewN w7 _ = w7; have n0_ : Aside0 (w7.heap[gb212]? = some (.cells #[.slice none 0 0, .int .i64 0] 35 (0, 0))) := ⟨by rw [← hq_]; exact qgbest_7⟩; have n1_ : Aside0 (Below w.heap.size w w7) := ⟨by rw [← hq_]; exact qgbest_2⟩; clear BK212 HB hq_; have BK212 := n0_; have HB := n1_; clear n0_ n1_))) | ((with_reducible refine gate_callee (f := 35) rfl ?_); refine goesL_ (some 19) rfl rfl Try.func35 (by kernel_rfl) rfl #[.slice A0 l0.length c0, .int .i64 a1, .bool false] rfl qgbest_1 ?_; (with_reducible refine (segmentation_solve.calls k _ _ l0 a1 false t214 t217 _ ?side1 ?side2 A5.out).mono ?_); (case side1 => exact qgbest_13); (case side2 => exact HC0.out); rintro e w8 ⟨v215, rfl, ho0, hb⟩; refine ⟨_, rfl, ?_⟩; have n0_ := Aside0.mk (Kd.N_lower (Kd.N_mono (ok' := fun k_ => k_ ≠ gb212) ho0 (fun k_ hk_ => (Kd.freshB (g := gb212) (o := .cells #[.slice none 0 0, .int .i64 0] 35 (0, 0)) qgbest_7 k_ hk_))) (below_size qgbest_2)); have n1_ := Aside0.mk (blk_below (g := gb212) (o := .cells #[.slice none 0 0, .int .i64 0] 35 (0, 0)) qgbest_7 hb); have n2_ := Aside0.mk (below_step qgbest_2 hb); clear BK212; clear HB; have HO216 := n0_; have BK212 := n1_; have HB := n2_; clear n0_ n1_ n2_; (try clear hb); (try clear hb2); (try clear hk); (try clear hi); (try clear ho0); obtain ⟨Ao9, co9, eo9⟩ := Kd.N_slice HO216.out; subst eo9) | ((with_reducible refine gate_callee (f := 36) rfl ?_); refine goesL_ (some 23) rfl rfl Try.func36 (by kernel_rfl) rfl #[.slice Ao9 t214.length co9] rfl qgbest_1 ?_; (with_reducible refine (segmentation_segmentation.calls _ _ t214 t218 t221 _ ?side1 ?side2 A6.out).mono ?_); (case side1 => repeat (first | exact (Kd.N_reads' HO216.out).2.2 | (with_reducible refine Kd.C_alloc ?_ _) | (with_reducible refine Kd.C_drewN ?_ _) | (with_reducible refine Kd.C_drew ?_))); (case side2 => exact (Kd.N_reads' HO216.out).2.1); rintro e w10 ⟨v219, rfl, ho0, hb⟩; refine ⟨_, rfl, ?_⟩; have n0_ := Aside0.mk (Kd.N_elder' (by (with_reducible repeat (first | apply Kd.N_alloc | apply Kd.N_drewN | apply Kd.N_drew)); exact HO216.out) (Kd.R_base ho0) hb); have n1_ := Aside0.mk (Kd.R_lower ho0 (below_size qgbest_2)); have n2_ := Aside0.mk (blk_below (g := gb212) (o := .cells #[.slice none 0 0, .int .i64 0] 35 (0, 0)) qgbest_7 hb); have n3_ := Aside0.mk (below_step qgbest_2 hb); clear HO216; clear BK212; clear HB; have HO216 := n0_; have HO220 := n1_; have BK212 := n2_; have HB := n3_; clear n0_ n1_ n2_ n3_; (try clear hb); (try clear hb2); (try clear hk); (try clear hi); (try clear ho0); obtain ⟨Ao11, co11, eo11⟩ := Kd.R_slice HO220.out; subst eo11; have hcz12_0 : w10.cell? ⟨gb212, 0, none⟩ = some (.slice none 0 0) := (blk_cell BK212.out 0).trans rfl; have hcz12_1 : w10.cell? ⟨gb212, 1, none⟩ = some (.int .i64 0) := (blk_cell BK212.out 1).trans rfl; have hfz12_0 := blk_frozen BK212.out 0; have hfz12_1 := blk_frozen BK212.out 1))
 refine bodyPost_ret (results_ct rfl _ _ gb212 35 #[.slice Ao11 t218.length co11, .int .i64 t221] (0, 0) _ rfl (by (with_reducible repeat (first | refine blk_drewN ?_ _ | refine blk_drew ?_ | refine blk_alloc ?_ _)); refine blk_put (cs := #[.slice Ao11 t218.length co11, .int .i64 0]) ?_ 1 _ rfl; (with_reducible repeat (first | refine blk_drewN ?_ _ | refine blk_drew ?_ | refine blk_alloc ?_ _)); refine blk_put (cs := #[.slice none 0 0, .int .i64 0]) ?_ 0 _ rfl; (with_reducible repeat (first | refine blk_drewN ?_ _ | refine blk_drew ?_ | refine blk_alloc ?_ _)); exact BK212.out) Try.underlying35 rfl (by kernel_rfl)) rfl ?_
 exact ⟨_, qgbest_8, by (with_reducible repeat (first | apply Kd.R_alloc | apply Kd.R_drewN | apply Kd.R_drew)); exact Kd.R_mono (Kd.R_far (p := ⟨gb212, 1, none⟩) (Kd.R_far (p := ⟨gb212, 0, none⟩) (Kd.R_types HO220.out BK212.out (by decide)) (fun _ hk => hk.2) (.slice Ao11 t218.length co11)) (fun _ hk => hk.2) (.int .i64 t221)) (fun _ hk => trivial), qgbest_2⟩

/-! ### segmentation_checkCuts: function 37 -/
mutual
def segmentation_checkCuts.l0 : Nat → List Int → List Int → List Int → Int → Int → Option (Int)
 | 0, _, _, _, _, _ => none
 | k + 1, x0, x1, x7, x8, x9 => if x9 < x8 then (if 0 ≤ x9 then (if x9 < (x7.length : Int) then (if (rd x7 x9) < 1 then (segmentation_checkCuts.j1 k x0 x1 x9 (rd x7 x9) x7 x8 x9 true) else (segmentation_checkCuts.j1 k x0 x1 x9 (rd x7 x9) x7 x8 x9 (decide ((rd x7 x9) ≥ (x0.length : Int))))) else (none)) else (none)) else (some 0)
def segmentation_checkCuts.j1 : Nat → List Int → List Int → Int → Int → List Int → Int → Int → Bool → Option (Int)
 | 0, _, _, _, _, _, _, _, _ => none
 | k + 1, x0, x1, x5, x6, x7, x8, x9, x21 => if x21 = true then (some 2) else (if x5 > 0 then (if 0 ≤ (wrap64 (x5 - 1)) then (if (wrap64 (x5 - 1)) < (x1.length : Int) then (if x6 ≤ (rd x1 (wrap64 (x5 - 1))) then (some 8) else (segmentation_checkCuts.l0 k x0 x1 x7 x8 (wrap64 (x9 + 1)))) else (none)) else (none)) else (segmentation_checkCuts.l0 k x0 x1 x7 x8 (wrap64 (x9 + 1))))
end
def segmentation_checkCuts.f (k : Nat) (l0 : List Int) (l1 : List Int) : Option (Int) := segmentation_checkCuts.l0 k l0 l1 l1 (l1.length : Int) 0
theorem segmentation_checkCuts.mono_l : ∀ k, (∀ y0 y1 y2 y3 y4, LeO (segmentation_checkCuts.l0 k y0 y1 y2 y3 y4) (segmentation_checkCuts.l0 (k + 1) y0 y1 y2 y3 y4)) ∧ (∀ y0 y1 y2 y3 y4 y5 y6 y7, LeO (segmentation_checkCuts.j1 k y0 y1 y2 y3 y4 y5 y6 y7) (segmentation_checkCuts.j1 (k + 1) y0 y1 y2 y3 y4 y5 y6 y7))
 | 0 => ⟨fun _ _ _ _ _ r h => by simp [segmentation_checkCuts.l0] at h, fun _ _ _ _ _ _ _ _ r h => by simp [segmentation_checkCuts.j1] at h⟩
 | k + 1 => by
  obtain ⟨ih0, ih1⟩ := segmentation_checkCuts.mono_l k
  refine ⟨?_, ?_⟩
  ·intro y0 y1 y2 y3 y4
   unfold segmentation_checkCuts.l0
   repeat' first
   | (with_reducible exact ih0 _ _ _ _ _)
   | (with_reducible exact ih1 _ _ _ _ _ _ _ _)
   | (with_reducible exact LeO.refl _)
   | (with_reducible exact LeO.none _)
   | (with_reducible refine LeO.ite ?_ ?_)
   | (with_reducible refine LeO.bind ?_ (fun _ => ?_))
   | exact ih0 _ _ _ _ _
   | exact ih1 _ _ _ _ _ _ _ _
   | exact LeO.none _
   | refine LeO.ite ?_ ?_
   | refine LeO.bind ?_ (fun _ => ?_)
  ·intro y0 y1 y2 y3 y4 y5 y6 y7
   unfold segmentation_checkCuts.j1
   repeat' first
   | (with_reducible exact ih0 _ _ _ _ _)
   | (with_reducible exact ih1 _ _ _ _ _ _ _ _)
   | (with_reducible exact LeO.refl _)
   | (with_reducible exact LeO.none _)
   | (with_reducible refine LeO.ite ?_ ?_)
   | (with_reducible refine LeO.bind ?_ (fun _ => ?_))
   | exact ih0 _ _ _ _ _
   | exact ih1 _ _ _ _ _ _ _ _
   | exact LeO.none _
   | refine LeO.ite ?_ ?_
   | refine LeO.bind ?_ (fun _ => ?_)
theorem segmentation_checkCuts.mono : ∀ a0 a1 k, LeO (segmentation_checkCuts.f k a0 a1) (segmentation_checkCuts.f (k + 1) a0 a1) := by
 intro a0 a1 k
 obtain ⟨ih0, ih1⟩ := segmentation_checkCuts.mono_l k
 unfold segmentation_checkCuts.f
 repeat' first
   | (with_reducible exact ih0 _ _ _ _ _)
   | (with_reducible exact ih1 _ _ _ _ _ _ _ _)
   | (with_reducible exact LeO.refl _)
   | (with_reducible exact LeO.none _)
   | (with_reducible refine LeO.ite ?_ ?_)
   | (with_reducible refine LeO.bind ?_ (fun _ => ?_))
   | exact ih0 _ _ _ _ _
   | exact ih1 _ _ _ _ _ _ _ _
   | exact LeO.none _
   | refine LeO.ite ?_ ?_
   | refine LeO.bind ?_ (fun _ => ?_)
set_option maxHeartbeats 8000000 in
set_option maxRecDepth 100000 in
theorem segmentation_checkCuts.calls (k : Nat) (A0 : Option Addr) (c0 : Nat) (l0 : List Int) (A1 : Option Addr) (c1 : Nat) (l1 : List Int) (r : Int) (w : World) (hr0 : Kd.C (Kd.int .i64) w A0 l0.length l0) (hc0 : l0.length ≤ c0) (hr1 : Kd.C (Kd.int .i64) w A1 l1.length l1) (hc1 : l1.length ≤ c1) (h : segmentation_checkCuts.f k l0 l1 = some r) :
  Calls Try.prog 37 #[.slice A0 l0.length c0, .slice A1 l1.length c1] w fun e w' => e = .returned (.int .i64 r) ∧ Drawn0 w w' := by
 have HR0 := Aside0.mk hr0
 have HC0 := Aside0.mk hc0
 clear hr0 hc0
 have HR1 := Aside0.mk hr1
 have HC1 := Aside0.mk hc1
 clear hr1 hc1
 have H : (segmentation_checkCuts.l0 k l0 l1 l1 (l1.length : Int) 0) = some r := h
 clear h
 have H' := Aside0.mk H
 clear H
 go_enter Try.func37, Try.ntmps37
 go_wp2
 go_loopg [9] k (fun kq v9 w' => ∃ (x9_1 : Int), v9 = .int .i64 x9_1 ∧ Aside0 (segmentation_checkCuts.l0 kq l0 l1 l1 (l1.length : Int) x9_1 = some r) ∧ Aside0 (kq ≤ k) ∧ Drawn0 w w')
 case atStart => exact ⟨(0), qgbest_6, H', ⟨Nat.le_refl _⟩, qgbest_10⟩
 clear H'
 try clear c1
 try clear p2
 obtain ⟨x9_1, rfl, HA, HK1, ⟨m1, rfl⟩⟩ := hrel
 cases gk with
 | zero => exact absurd HA.out (by simp [segmentation_checkCuts.l0])
 | succ k1 =>
  have H := HA.out
  clear HA
  simp only [segmentation_checkCuts.l0] at H
  by_cases c3 : x9_1 < (l1.length : Int)
  rotate_left
  ·rw [if_neg c3] at H
   have c3b0 : decide (x9_1 < (l1.length : Int)) = false := decide_eq_false c3
   clear c3
   obtain rfl := Option.some.inj H
   go_wp2
   go_ret
   exact ⟨qgbest_6, qgbest_10⟩
  rw [if_pos c3] at H
  have c3b0 : decide (x9_1 < (l1.length : Int)) = true := decide_eq_true c3
  clear c3
  by_cases c4 : 0 ≤ x9_1
  rotate_left
  ·rw [if_neg c4] at H
   exact absurd H (by simp)
  rw [if_pos c4] at H
  have c4b0 : decide (0 ≤ x9_1) = true := decide_eq_true c4
  clear c4
  by_cases c5 : x9_1 < (l1.length : Int)
  rotate_left
  ·rw [if_neg c5] at H
   exact absurd H (by simp)
  rw [if_pos c5] at H
  have c5b0 : decide (x9_1 < (l1.length : Int)) = true := decide_eq_true c5
  clear c5
  have HC6 := Aside0.mk H
  clear H
  have p222 : 0 ≤ (x9_1 : Int) := of_decide_eq_true qgbest_3
  have q222 : x9_1 < (l1.length : Int) := of_decide_eq_true qgbest_3
  obtain ⟨ad222, e222, hx222_0⟩ := Kd.at_int HR1.out x9_1 p222 q222
  cases e222
  replace p222 := eq_true p222
  replace q222 := eq_true q222
  go_upto_region 4 with (fail)
  go_cut [21] (fun v21 wc => ∃ (kq : Nat) (x21_5 : Bool), v21 = .bool x21_5 ∧ Aside0 (segmentation_checkCuts.j1 kq l0 l1 x9_1 (rd l1 x9_1) l1 (l1.length : Int) x9_1 x21_5 = some r) ∧ Aside0 (kq ≤ k1) ∧ Drawn0 w wc)
  case first =>
   have H := HC6.out
   clear HC6
   by_cases c7 : (rd l1 x9_1) < 1
   ·rw [if_pos c7] at H
    have c7b0 : decide ((rd l1 x9_1) < 1) = true := decide_eq_true c7
    clear c7
    (first | rw [c7b0] | (simp only [i64_w, i32_w]; rw [c7b0]) | skip)
    have H' := Aside0.mk H
    clear H
    go_wp2
    go_meet
    case rel => exact ⟨_, (true), qgbest_6, H', ⟨by have := HK1.out; first | omega | exact Nat.le_refl _⟩, qgbest_10⟩
   rw [if_neg c7] at H
   have c7b0 : decide ((rd l1 x9_1) < 1) = false := decide_eq_false c7
   clear c7
   (first | rw [c7b0] | (simp only [i64_w, i32_w]; rw [c7b0]) | skip)
   have H' := Aside0.mk H
   clear H
   go_wp2
   go_meet
   case rel => exact ⟨_, (decide ((rd l1 x9_1) ≥ (l0.length : Int))), qgbest_6, H', ⟨by have := HK1.out; first | omega | exact Nat.le_refl _⟩, qgbest_10⟩
  clear HC6
  try clear c1
  try clear p2
  try clear q2
  try clear hx2
  try clear c3
  try clear c3b0
  try clear c4
  try clear c4b0
  try clear c5
  try clear c5b0
  try clear c7
  try clear c7b0
  try clear hx222_0
  try clear p2
  try clear p222
  try clear q222
  obtain ⟨kq, x21_5, rfl, HA, HJ5, ⟨mc5, rfl⟩⟩ := hcut
  cases kq with
  | zero => exact absurd HA.out (by simp [segmentation_checkCuts.j1])
  | succ kj5 =>
   have H := HA.out
   clear HA
   simp only [segmentation_checkCuts.j1] at H
   by_cases c8 : x21_5 = true
   ·subst c8
    have H1 : (some 2) = some r := by rw [if_pos rfl] at H; exact H
    clear H
    have H := H1
    clear H1
    obtain rfl := Option.some.inj H
    go_wp2
    go_ret
    exact ⟨qgbest_6, qgbest_10⟩
   replace c8 := Bool.eq_false_iff.mpr c8
   subst c8
   have H1 : (if x9_1 > 0 then (if 0 ≤ (wrap64 (x9_1 - 1)) then (if (wrap64 (x9_1 - 1)) < (l1.length : Int) then (if (rd l1 x9_1) ≤ (rd l1 (wrap64 (x9_1 - 1))) then (some 8) else (segmentation_checkCuts.l0 kj5 l0 l1 l1 (l1.length : Int) (wrap64 (x9_1 + 1)))) else (none)) else (none)) else (segmentation_checkCuts.l0 kj5 l0 l1 l1 (l1.length : Int) (wrap64 (x9_1 + 1)))) = some r := by rw [if_neg (show ¬ (false = true) by decide)] at H; exact H
   clear H
   have H := H1
   clear H1
   by_cases c9 : x9_1 > 0
   rotate_left
   ·rw [if_neg c9] at H
    have c9b0 : decide (0 < x9_1) = false := decide_eq_false c9
    clear c9
    have H' := Aside0.mk H
    clear H
    go_wp2
    go_roundg kj5
    case measure => have := HK1.out; have := HJ5.out; omega
    case rel => exact ⟨(wrap64 (x9_1 + 1)), qgbest_6, H', ⟨by have := HK1.out; have := HJ5.out; omega⟩, qgbest_10⟩
   rw [if_pos c9] at H
   have c9b0 : decide (0 < x9_1) = true := decide_eq_true c9
   clear c9
   obtain ⟨ji10, hji10⟩ : ∃ j_ : Int, (wrap64 (x9_1 - 1)) = j_ := ⟨_, rfl⟩
   replace H : (if 0 ≤ (ji10) then (if (ji10) < (l1.length : Int) then (if (rd l1 x9_1) ≤ (rd l1 (ji10)) then (some 8) else (segmentation_checkCuts.l0 kj5 l0 l1 l1 (l1.length : Int) (wrap64 (x9_1 + 1)))) else (none)) else (none)) = some r := by first | (rw [hji10] at H; exact H) | (simp only [hji10] at H ⊢; exact H)
   have hji10w : (IntKind.i64.wrap (x9_1 - 1)) = ji10 := (i64_w _).trans hji10
   by_cases c11 : 0 ≤ (ji10)
   rotate_left
   ·rw [if_neg c11] at H
    exact absurd H (by simp)
   rw [if_pos c11] at H
   have c11b0 : decide (0 ≤ (ji10)) = true := decide_eq_true c11
   clear c11
   by_cases c12 : (ji10) < (l1.length : Int)
   rotate_left
   ·rw [if_neg c12] at H
    exact absurd H (by simp)
   rw [if_pos c12] at H
   have c12b0 : decide ((ji10) < (l1.length : Int)) = true := decide_eq_true c12
   clear c12
   by_cases c13 : (rd l1 x9_1) ≤ (rd l1 (ji10))
   ·rw [if_pos c13] at H
    have c13b0 : decide ((rd l1 x9_1) ≤ (rd l1 (ji10))) = true := decide_eq_true c13
    clear c13
    obtain rfl := Option.some.inj H
    have p223 : 0 ≤ ((ji10) : Int) := of_decide_eq_true qgbest_3
    have q223 : (ji10) < (l1.length : Int) := of_decide_eq_true qgbest_3
    obtain ⟨ad223, e223, hx223_0⟩ := Kd.at_int HR1.out (ji10) p223 q223
    obtain rfl : ad222 = ad223 := (by injection e223)
    replace p223 := eq_true p223
    replace q223 := eq_true q223
    go_wp2
    go_ret
    exact ⟨by first | rfl | (simp; done) | (simp only [← hji10] <;> (first | rfl | simp)) | (simp [*]; done), qgbest_10⟩
   rw [if_neg c13] at H
   have c13b0 : decide ((rd l1 x9_1) ≤ (rd l1 (ji10))) = false := decide_eq_false c13
   clear c13
   have H' := Aside0.mk H
   clear H
   have p223 : 0 ≤ ((ji10) : Int) := of_decide_eq_true qgbest_3
   have q223 : (ji10) < (l1.length : Int) := of_decide_eq_true qgbest_3
   obtain ⟨ad223, e223, hx223_0⟩ := Kd.at_int HR1.out (ji10) p223 q223
   obtain rfl : ad222 = ad223 := (by injection e223)
   replace p223 := eq_true p223
   replace q223 := eq_true q223
   go_wp2
   go_roundg kj5
   case measure => have := HK1.out; have := HJ5.out; omega
   case rel => exact ⟨(wrap64 (x9_1 + 1)), qgbest_6, H', ⟨by have := HK1.out; have := HJ5.out; omega⟩, qgbest_10⟩

/-! ### segmentation_parts: function 38 -/
def segmentation_parts.l0 : Nat → List Int → List (List Int) → Int → List Int → Int → Int → Option ((List (List Int)))
 | 0, _, _, _, _, _, _ => none
 | k + 1, x0, x5, x6, x9, x10, x11 => if x11 < x10 then (if 0 ≤ x11 then (if x11 < (x9.length : Int) then (if 0 ≤ x6 then (if x6 ≤ (rd x9 x11) then (if (rd x9 x11) ≤ (x0.length : Int) then (if x5.length < 5864062014805 then (segmentation_parts.l0 k x0 (x5 ++ [((x0.take ((rd x9 x11) : Int).toNat).drop (x6 : Int).toNat)]) (rd x9 x11) x9 x10 (wrap64 (x11 + 1))) else (none)) else (none)) else (none)) else (none)) else (none)) else (none)) else (if 0 ≤ x6 then (if x6 ≤ (x0.length : Int) then (if x5.length < 5864062014805 then (some (x5 ++ [(x0.drop (x6 : Int).toNat)])) else (none)) else (none)) else (none))
def segmentation_parts.f (k : Nat) (l0 : List Int) (l1 : List Int) : Option ((List (List Int))) := segmentation_parts.l0 k l0 ([] : List (List Int)) 0 l1 (l1.length : Int) 0
theorem segmentation_parts.mono_l : ∀ k, (∀ y0 y1 y2 y3 y4 y5, LeO (segmentation_parts.l0 k y0 y1 y2 y3 y4 y5) (segmentation_parts.l0 (k + 1) y0 y1 y2 y3 y4 y5))
 | 0 => fun _ _ _ _ _ _ r h => by simp [segmentation_parts.l0] at h
 | k + 1 => by
  have ih0 := segmentation_parts.mono_l k
  ·intro y0 y1 y2 y3 y4 y5
   unfold segmentation_parts.l0
   repeat' first
   | (with_reducible exact ih0 _ _ _ _ _ _)
   | (with_reducible exact LeO.refl _)
   | (with_reducible exact LeO.none _)
   | (with_reducible refine LeO.ite ?_ ?_)
   | (with_reducible refine LeO.bind ?_ (fun _ => ?_))
   | exact ih0 _ _ _ _ _ _
   | exact LeO.none _
   | refine LeO.ite ?_ ?_
   | refine LeO.bind ?_ (fun _ => ?_)
theorem segmentation_parts.mono : ∀ a0 a1 k, LeO (segmentation_parts.f k a0 a1) (segmentation_parts.f (k + 1) a0 a1) := by
 intro a0 a1 k
 have ih0 := segmentation_parts.mono_l k
 unfold segmentation_parts.f
 repeat' first
   | (with_reducible exact ih0 _ _ _ _ _ _)
   | (with_reducible exact LeO.refl _)
   | (with_reducible exact LeO.none _)
   | (with_reducible refine LeO.ite ?_ ?_)
   | (with_reducible refine LeO.bind ?_ (fun _ => ?_))
   | exact ih0 _ _ _ _ _ _
   | exact LeO.none _
   | refine LeO.ite ?_ ?_
   | refine LeO.bind ?_ (fun _ => ?_)
set_option maxHeartbeats 8000000 in
set_option maxRecDepth 100000 in
theorem segmentation_parts.calls (k : Nat) (P0_ : Nat → Prop) (A0 : Option Addr) (c0 : Nat) (l0 : List Int) (A1 : Option Addr) (c1 : Nat) (l1 : List Int) (r : List (List Int)) (w : World) (hs0 : Kd.V (Kd.int .i64) 3 w w.heap.size (fun k_ => P0_ k_) (.slice A0 l0.length c0) l0) (hr1 : Kd.C (Kd.int .i64) w A1 l1.length l1) (hc1 : l1.length ≤ c1) (h : segmentation_parts.f k l0 l1 = some r) :
  Calls Try.prog 38 #[.slice A0 l0.length c0, .slice A1 l1.length c1] w fun e w' => ∃ v0_ : Value, e = .returned (v0_) ∧ Kd.N (Kd.slice 3 (Kd.int .i64)) 26 w' w.heap.size (fun k_ => (P0_ k_ ∨ w.heap.size ≤ k_)) v0_ r ∧ Below w.heap.size w w' := by
 have HO0 := Aside0.mk (show Kd.V (Kd.int .i64) 3 w w.heap.size (fun k_ => (P0_ k_ ∨ w.heap.size ≤ k_)) (.slice A0 l0.length c0) l0 from Kd.V_mono hs0 (fun k_ hk => .inl hk))
 have HR1 := Aside0.mk hr1
 have HC1 := Aside0.mk hc1
 clear hr1 hc1
 have HB := Aside0.mk (Below.refl w.heap.size w)
 have H : (segmentation_parts.l0 k l0 ([] : List (List Int)) 0 l1 (l1.length : Int) 0) = some r := h
 clear h
 have H' := Aside0.mk H
 clear H
 go_enter Try.func38, Try.ntmps38
 go_wp2
 go_loopg [5, 6, 11] k (fun kq v5 v6 v11 w' => ∃ (x5_1 : List (List Int)) (x6_1 : Int) (x11_1 : Int), v6 = .int .i64 x6_1 ∧ v11 = .int .i64 x11_1 ∧ Aside0 (segmentation_parts.l0 kq l0 x5_1 x6_1 l1 (l1.length : Int) x11_1 = some r) ∧ Aside0 (kq ≤ k) ∧ Aside0 (Kd.V (Kd.int .i64) 3 w' w.heap.size (fun k_ => (P0_ k_ ∨ w.heap.size ≤ k_) ∧ some k_ ≠ (v5 : Value).ownBlock) (.slice A0 l0.length c0) l0) ∧ Aside0 (Kd.N (Kd.slice 3 (Kd.int .i64)) 26 w' w.heap.size (fun k_ => (P0_ k_ ∨ w.heap.size ≤ k_)) v5 x5_1) ∧ Aside0 (Below w.heap.size w w'))
 case atStart => exact ⟨(([] : List (List Int))), (0), (0), qgbest_6, qgbest_6, H', ⟨Nat.le_refl _⟩, ⟨by (with_reducible repeat (first | apply Kd.V_alloc | apply Kd.V_drewN | apply Kd.V_drew)); exact Kd.V_mono HO0.out (fun _ hk => ⟨hk, (by simp [Value.ownBlock])⟩)⟩, ⟨by first | exact Kd.S_nil _ _ _ _ _ | exact Kd.N_nil _ _ _ _ _ | exact Kd.V_nil _ _ _ _ _ | exact Kd.Q_nil _ _ _ _ _ | exact Kd.R_nil _ _ _ _ _⟩, ⟨qgbest_0⟩⟩
 clear H'
 try clear c1
 try clear p2
 obtain ⟨x5_1, x6_1, x11_1, rfl, rfl, HA, HK1, HO_0, HO_5, HB⟩ := hrel
 cases gk with
 | zero => exact absurd HA.out (by simp [segmentation_parts.l0])
 | succ k1 =>
  have H := HA.out
  clear HA
  simp only [segmentation_parts.l0] at H
  by_cases c3 : x11_1 < (l1.length : Int)
  rotate_left
  ·rw [if_neg c3] at H
   have c3b0 : decide (x11_1 < (l1.length : Int)) = false := decide_eq_false c3
   clear c3
   by_cases c12 : 0 ≤ x6_1
   rotate_left
   ·rw [if_neg c12] at H
    exact absurd H (by simp)
   rw [if_pos c12] at H
   have c12b0 := eq_true c12
   have c12b1 : decide (0 ≤ x6_1) = true := decide_eq_true c12
   clear c12
   by_cases c13 : x6_1 ≤ (l0.length : Int)
   rotate_left
   ·rw [if_neg c13] at H
    exact absurd H (by simp)
   rw [if_pos c13] at H
   have c13b0 := eq_true c13
   have c13b1 : decide (x6_1 ≤ (l0.length : Int)) = true := decide_eq_true c13
   clear c13
   obtain ⟨y233, hy233⟩ : ∃ y_ : List Int, y_ = (l0.drop (x6_1 : Int).toNat) := ⟨_, rfl⟩
   replace H : (if x5_1.length < 5864062014805 then (some (x5_1 ++ [y233])) else (none)) = some r := by first | (rw [hy233]; with_reducible exact H) | (have H2_ := (Option.bind_some _ _).symm.trans H; rw [hy233]; with_reducible exact H2_) | (have H2_ := (Option.bind_some _ _).symm.trans H; with_reducible exact H2_) | with_reducible exact H | (rw [hy233]; exact H) | exact H
   have Ny233 := Aside0.mk hy233
   clear hy233
   by_cases c14 : x5_1.length < 5864062014805
   rotate_left
   ·rw [if_neg c14] at H
    exact absurd H (by simp)
   rw [if_pos c14] at H
   have LMc14 := Aside0.mk c14
   clear c14
   obtain ⟨y238, hy238⟩ : ∃ y_ : List (List Int), y_ = (x5_1 ++ [y233]) := ⟨_, rfl⟩
   replace H : (some y238) = some r := by first | (rw [hy238]; with_reducible exact H) | (have H2_ := (Option.bind_some _ _).symm.trans H; rw [hy238]; with_reducible exact H2_) | (have H2_ := (Option.bind_some _ _).symm.trans H; with_reducible exact H2_) | with_reducible exact H | (rw [hy238]; exact H) | exact H
   have Ny238 := Aside0.mk hy238
   clear hy238
   obtain rfl := Option.some.inj H
   have q15 : (x6_1 : Int) ≤ ((l0.length : Int) : Int) := of_decide_eq_true qgbest_3
   obtain ⟨i015, hi015, _, hsz15, _⟩ := info_parts info3
   have hroom15 : l0.length ≤ c0 := (Kd.V_reads' HO_0.out).2.1
   have hC15 : Kd.F (Kd.int .i64) _ _ A0 l0.length l0 := (Kd.V_at (base := w.heap.size) HO_0.out).2.2
   have q015 : (0 : Int) ≤ (x6_1 : Int) := of_decide_eq_true qgbest_3
   have hcut15 := cut_from (P := Try.prog) 26 3 .i64 Try.underlying26 hi015 1 hsz15 A0 l0.length c0 x6_1 q015 q15
   have hr15 := Kd.F_cut (m := (x6_1 : Int).toNat) (c := c0) hC15 (by omega) hroom15
   obtain ⟨A15, hA15⟩ : ∃ A1, A1 = (if c0 = (x6_1 : Int).toNat then A0 else (A0 : Option Addr).map (·.add ((x6_1 : Int).toNat * 1))) := ⟨_, rfl⟩
   obtain ⟨c15, hc15⟩ : ∃ c1, c1 = c0 - (x6_1 : Int).toNat := ⟨_, rfl⟩
   have hy15 : y233.length = l0.length - (x6_1 : Int).toNat := (by rw [Ny233.out, List.length_drop] <;> omega)
   rw [show (l0).drop (x6_1 : Int).toNat = y233 from Ny233.out.symm] at hr15
   replace hr15 : Kd.F (Kd.int .i64) _ _ A15 y233.length y233 := (by rw [hA15]; exact hr15)
   rw [← hy15, ← hA15, ← hc15] at hcut15
   have HO237 := Aside0.mk (show Kd.V (Kd.int .i64) 3 _ w.heap.size _ (.slice A15 y233.length c15) y233 from Kd.V_mk (by rw [hy15, hc15]; exact Nat.sub_le_sub_right hroom15 _) hr15)
   have HC237 := Aside0.mk (show y233.length ≤ c15 from by rw [hy15, hc15]; exact Nat.sub_le_sub_right hroom15 _)
   clear hr15 hC15 hroom15 hi015 hsz15 hc15
   have KY15 := Aside0.mk hy15
   have KA15 := Aside0.mk hA15
   clear hy15 hA15
   replace q15 := eq_true q15
   go_wp2_with (first | ((with_reducible refine gate_builtin (b := .append) (xs := #[.tmp 24, .tmp 28]) rfl ?_); at_builtin; refine Kd.N_append (Kd.slice 3 (Kd.int .i64)) (w0 := w) w.heap.size rfl (.tmp 24) (.tmp 28) 65 26 (.slice none 0 0) 24 rfl Try.underlying65 info26 rfl (by decide) (by omega) u5 x5_1 y233 [.slice A15 y233.length c15] (fun k_ => (P0_ k_ ∨ w.heap.size ≤ k_)) (fun k_ => ((fun k_ => (P0_ k_ ∨ w.heap.size ≤ k_))) k_ ∧ some k_ ≠ (u5 : Value).ownBlock) rfl rfl ?aP (fun _ hk => hk) ?aF ?aO ?aB ?aS ?aL ?_; (case aP => exact (Kd.FK_slice_mk (Kd.V_reads' (Kd.V_mono (ok' := (fun k_ => ((fun k_ => (P0_ k_ ∨ w.heap.size ≤ k_))) k_ ∧ some k_ ≠ (u5 : Value).ownBlock)) (HO237.out) (fun k_ hk => ⟨hk.1, hk.2⟩))).2.1 (Kd.V_F (Kd.V_mono (ok' := (fun k_ => ((fun k_ => (P0_ k_ ∨ w.heap.size ≤ k_))) k_ ∧ some k_ ≠ (u5 : Value).ownBlock)) (HO237.out) (fun k_ hk => ⟨hk.1, hk.2⟩))))); (case aB => exact qgbest_0); (case aF => exact (fun k_ hk => (.inr (Nat.le_trans (below_size qgbest_0) hk)))); (case aO => exact (by (with_reducible repeat (first | apply Kd.N_alloc | apply Kd.N_drewN | apply Kd.N_drew)); exact HO_5.out)); (case aS => exact (below_size qgbest_0)); (case aL => have := LMc14.out; omega); intro v239 w16 ho hb hg hat; rw [← Ny238.out] at ho; have n0_ := Aside0.mk (Kd.V_afterv (ok := (fun k_ => (P0_ k_ ∨ w.heap.size ≤ k_))) qgbest_15 hg hat); have n1_ := Aside0.mk (Kd.V_afterv (ok := (fun k_ => (P0_ k_ ∨ w.heap.size ≤ k_))) (by (with_reducible repeat (first | apply Kd.V_alloc | apply Kd.V_drewN | apply Kd.V_drew)); exact HO237.out) hg hat); have n2_ := Aside0.mk (hb); have n3_ := Aside0.mk (ho); clear HO_0; clear HO237; clear HB; clear HO_5; have HO_0 := n0_; have HO237 := n1_; have HB := n2_; have HO240 := n3_; clear n0_ n1_ n2_ n3_; clear ho hb hg hat))
   go_ret
   exact ⟨_, qgbest_8, by (with_reducible repeat (first | apply Kd.N_alloc | apply Kd.N_drewN | apply Kd.N_drew)); exact HO240.out, qgbest_0⟩
  rw [if_pos c3] at H
  have c3b0 : decide (x11_1 < (l1.length : Int)) = true := decide_eq_true c3
  clear c3
  by_cases c4 : 0 ≤ x11_1
  rotate_left
  ·rw [if_neg c4] at H
   exact absurd H (by simp)
  rw [if_pos c4] at H
  have c4b0 : decide (0 ≤ x11_1) = true := decide_eq_true c4
  clear c4
  by_cases c5 : x11_1 < (l1.length : Int)
  rotate_left
  ·rw [if_neg c5] at H
   exact absurd H (by simp)
  rw [if_pos c5] at H
  have c5b0 : decide (x11_1 < (l1.length : Int)) = true := decide_eq_true c5
  clear c5
  by_cases c6 : 0 ≤ x6_1
  rotate_left
  ·rw [if_neg c6] at H
   exact absurd H (by simp)
  rw [if_pos c6] at H
  have c6b0 := eq_true c6
  have c6b1 : decide (0 ≤ x6_1) = true := decide_eq_true c6
  clear c6
  by_cases c7 : x6_1 ≤ (rd l1 x11_1)
  rotate_left
  ·rw [if_neg c7] at H
   exact absurd H (by simp)
  rw [if_pos c7] at H
  have c7b0 := eq_true c7
  have c7b1 : decide (x6_1 ≤ (rd l1 x11_1)) = true := decide_eq_true c7
  clear c7
  by_cases c8 : (rd l1 x11_1) ≤ (l0.length : Int)
  rotate_left
  ·rw [if_neg c8] at H
   exact absurd H (by simp)
  rw [if_pos c8] at H
  have c8b0 := eq_true c8
  have c8b1 : decide ((rd l1 x11_1) ≤ (l0.length : Int)) = true := decide_eq_true c8
  clear c8
  obtain ⟨y225, hy225⟩ : ∃ y_ : List Int, y_ = ((l0.take ((rd l1 x11_1) : Int).toNat).drop (x6_1 : Int).toNat) := ⟨_, rfl⟩
  replace H : (if x5_1.length < 5864062014805 then (segmentation_parts.l0 k1 l0 (x5_1 ++ [y225]) (rd l1 x11_1) l1 (l1.length : Int) (wrap64 (x11_1 + 1))) else (none)) = some r := by first | (rw [hy225]; with_reducible exact H) | (have H2_ := (Option.bind_some _ _).symm.trans H; rw [hy225]; with_reducible exact H2_) | (have H2_ := (Option.bind_some _ _).symm.trans H; with_reducible exact H2_) | with_reducible exact H | (rw [hy225]; exact H) | exact H
  have Ny225 := Aside0.mk hy225
  clear hy225
  by_cases c9 : x5_1.length < 5864062014805
  rotate_left
  ·rw [if_neg c9] at H
   exact absurd H (by simp)
  rw [if_pos c9] at H
  have LMc9 := Aside0.mk c9
  clear c9
  obtain ⟨y230, hy230⟩ : ∃ y_ : List (List Int), y_ = (x5_1 ++ [y225]) := ⟨_, rfl⟩
  replace H : (segmentation_parts.l0 k1 l0 y230 (rd l1 x11_1) l1 (l1.length : Int) (wrap64 (x11_1 + 1))) = some r := by first | (rw [hy230]; with_reducible exact H) | (have H2_ := (Option.bind_some _ _).symm.trans H; rw [hy230]; with_reducible exact H2_) | (have H2_ := (Option.bind_some _ _).symm.trans H; with_reducible exact H2_) | with_reducible exact H | (rw [hy230]; exact H) | exact H
  have Ny230 := Aside0.mk hy230
  clear hy230
  have H' := Aside0.mk H
  clear H
  have p224 : 0 ≤ (x11_1 : Int) := of_decide_eq_true qgbest_3
  have q224 : x11_1 < (l1.length : Int) := of_decide_eq_true qgbest_3
  obtain ⟨ad224, e224, hx224_0⟩ := Kd.at_int HR1.out x11_1 p224 q224
  cases e224
  replace hx224_0 := (HB.out.cell (World.block_lt_of_cell? w _ hx224_0)).trans hx224_0
  replace p224 := eq_true p224
  replace q224 := eq_true q224
  have q10 : ((rd l1 x11_1) : Int) ≤ ((l0.length : Int) : Int) := of_decide_eq_true qgbest_3
  obtain ⟨i010, hi010, _, hsz10, _⟩ := info_parts info3
  have hroom10 : l0.length ≤ c0 := (Kd.V_reads' HO_0.out).2.1
  have hC10 : Kd.F (Kd.int .i64) _ _ A0 l0.length l0 := (Kd.V_at (base := w.heap.size) HO_0.out).2.2
  have ql10 : (x6_1 : Int) ≤ ((rd l1 x11_1) : Int) := of_decide_eq_true qgbest_3
  have q010 : (0 : Int) ≤ (x6_1 : Int) := of_decide_eq_true qgbest_3
  have hcut10 := cut_mid (P := Try.prog) 26 3 .i64 .i64 Try.underlying26 hi010 1 hsz10 A0 l0.length c0 x6_1 (rd l1 x11_1) q010 ql10 q10 hroom10
  have hr10 := Kd.F_mid (lo := (x6_1 : Int).toNat) (hi := ((rd l1 x11_1) : Int).toNat) (c := c0) hC10 (by omega) (by omega) hroom10
  obtain ⟨A10, hA10⟩ : ∃ A1, A1 = (if c0 = (x6_1 : Int).toNat then A0 else (A0 : Option Addr).map (·.add ((x6_1 : Int).toNat * 1))) := ⟨_, rfl⟩
  obtain ⟨c10, hc10⟩ : ∃ c1, c1 = c0 - (x6_1 : Int).toNat := ⟨_, rfl⟩
  have hy10 : y225.length = ((rd l1 x11_1) : Int).toNat - (x6_1 : Int).toNat := (by rw [Ny225.out, List.length_drop, List.length_take] <;> omega)
  rw [show ((l0).take ((rd l1 x11_1) : Int).toNat).drop (x6_1 : Int).toNat = y225 from Ny225.out.symm] at hr10
  replace hr10 : Kd.F (Kd.int .i64) _ _ A10 y225.length y225 := (by rw [hA10]; exact hr10)
  rw [← hy10, ← hA10, ← hc10] at hcut10
  have HO229 := Aside0.mk (show Kd.V (Kd.int .i64) 3 _ w.heap.size _ (.slice A10 y225.length c10) y225 from Kd.V_mk (by rw [hy10, hc10]; exact Nat.sub_le_sub_right (Nat.le_trans (by omega) hroom10) _) hr10)
  have HC229 := Aside0.mk (show y225.length ≤ c10 from by rw [hy10, hc10]; exact Nat.sub_le_sub_right (Nat.le_trans (by omega) hroom10) _)
  clear hr10 hC10 hroom10 hi010 hsz10 hc10
  have KY10 := Aside0.mk hy10
  have KA10 := Aside0.mk hA10
  clear hy10 hA10
  replace q10 := eq_true q10
  go_wp2_with (first | ((with_reducible refine gate_builtin (b := .append) (xs := #[.tmp 15, .tmp 20]) rfl ?_); at_builtin; refine Kd.N_append (Kd.slice 3 (Kd.int .i64)) (w0 := w) w.heap.size rfl (.tmp 15) (.tmp 20) 65 26 (.slice none 0 0) 24 rfl Try.underlying65 info26 rfl (by decide) (by omega) u5 x5_1 y225 [.slice A10 y225.length c10] (fun k_ => (P0_ k_ ∨ w.heap.size ≤ k_)) (fun k_ => ((fun k_ => (P0_ k_ ∨ w.heap.size ≤ k_))) k_ ∧ some k_ ≠ (u5 : Value).ownBlock) rfl rfl ?aP (fun _ hk => hk) ?aF ?aO ?aB ?aS ?aL ?_; (case aP => exact (Kd.FK_slice_mk (Kd.V_reads' (Kd.V_mono (ok' := (fun k_ => ((fun k_ => (P0_ k_ ∨ w.heap.size ≤ k_))) k_ ∧ some k_ ≠ (u5 : Value).ownBlock)) (HO229.out) (fun k_ hk => ⟨hk.1, hk.2⟩))).2.1 (Kd.V_F (Kd.V_mono (ok' := (fun k_ => ((fun k_ => (P0_ k_ ∨ w.heap.size ≤ k_))) k_ ∧ some k_ ≠ (u5 : Value).ownBlock)) (HO229.out) (fun k_ hk => ⟨hk.1, hk.2⟩))))); (case aB => exact qgbest_0); (case aF => exact (fun k_ hk => (.inr (Nat.le_trans (below_size qgbest_0) hk)))); (case aO => exact (by (with_reducible repeat (first | apply Kd.N_alloc | apply Kd.N_drewN | apply Kd.N_drew)); exact HO_5.out)); (case aS => exact (below_size qgbest_0)); (case aL => have := LMc9.out; omega); intro v231 w11 ho hb hg hat; rw [← Ny230.out] at ho; have n0_ := Aside0.mk (Kd.V_afterv (ok := (fun k_ => (P0_ k_ ∨ w.heap.size ≤ k_))) qgbest_15 hg hat); have n1_ := Aside0.mk (Kd.V_afterv (ok := (fun k_ => (P0_ k_ ∨ w.heap.size ≤ k_))) (by (with_reducible repeat (first | apply Kd.V_alloc | apply Kd.V_drewN | apply Kd.V_drew)); exact HO229.out) hg hat); have n2_ := Aside0.mk (hb); have n3_ := Aside0.mk (ho); clear HO_0; clear HO229; clear HB; clear HO_5; have HO_0 := n0_; have HO229 := n1_; have HB := n2_; have HO232 := n3_; clear n0_ n1_ n2_ n3_; clear ho hb hg hat))
  go_roundg k1
  case measure => have := HK1.out; omega
  case rel => exact ⟨(y230), (rd l1 x11_1), (wrap64 (x11_1 + 1)), qgbest_6, qgbest_6, H', ⟨by have := HK1.out; omega⟩, ⟨qgbest_15⟩, ⟨by (with_reducible repeat (first | apply Kd.N_alloc | apply Kd.N_drewN | apply Kd.N_drew)); exact HO232.out⟩, ⟨qgbest_0⟩⟩

/-! ### segmentation_median: function 39 -/
def segmentation_median.f (l0 : List Int) : Option (Int) := (slices_Clone_int_int.f l0).bind fun t241 => ((slices_Sort_int_int.f t241).bind fun t244 => (if 0 ≤ (wrap64 (Int.tdiv (wrap64 ((t241.length : Int) - 1)) 2)) then (if (wrap64 (Int.tdiv (wrap64 ((t241.length : Int) - 1)) 2)) < (t241.length : Int) then (some (rd t244 (wrap64 (Int.tdiv (wrap64 ((t241.length : Int) - 1)) 2)))) else (none)) else (none)))
set_option maxHeartbeats 8000000 in
set_option maxRecDepth 100000 in
theorem segmentation_median.calls (A0 : Option Addr) (c0 : Nat) (l0 : List Int) (r : Int) (w : World) (hr0 : Kd.C (Kd.int .i64) w A0 l0.length l0) (hc0 : l0.length ≤ c0) (h : segmentation_median.f l0 = some r) :
  Calls Try.prog 39 #[.slice A0 l0.length c0] w fun e w' => e = .returned (.int .i64 r) ∧ Below w.heap.size w w' := by
 have HR0 := Aside0.mk hr0
 have HC0 := Aside0.mk hc0
 clear hr0 hc0
 have HB := Aside0.mk (Below.refl w.heap.size w)
 have H : ((slices_Clone_int_int.f l0).bind fun t241 => ((slices_Sort_int_int.f t241).bind fun t244 => (if 0 ≤ (wrap64 (Int.tdiv (wrap64 ((t241.length : Int) - 1)) 2)) then (if (wrap64 (Int.tdiv (wrap64 ((t241.length : Int) - 1)) 2)) < (t241.length : Int) then (some (rd t244 (wrap64 (Int.tdiv (wrap64 ((t241.length : Int) - 1)) 2)))) else (none)) else (none)))) = some r := h
 clear h
 replace H := Option.bind_eq_some_iff.mp H
 obtain ⟨t241, A20, H⟩ := H
 replace H : ((slices_Sort_int_int.f t241).bind fun t244 => (if 0 ≤ (wrap64 (Int.tdiv (wrap64 ((t241.length : Int) - 1)) 2)) then (if (wrap64 (Int.tdiv (wrap64 ((t241.length : Int) - 1)) 2)) < (t241.length : Int) then (some (rd t244 (wrap64 (Int.tdiv (wrap64 ((t241.length : Int) - 1)) 2)))) else (none)) else (none))) = some r := H
 have A2 := Aside0.mk A20
 clear A20
 replace H := Option.bind_eq_some_iff.mp H
 obtain ⟨t244, A30, H⟩ := H
 replace H : (if 0 ≤ (wrap64 (Int.tdiv (wrap64 ((t241.length : Int) - 1)) 2)) then (if (wrap64 (Int.tdiv (wrap64 ((t241.length : Int) - 1)) 2)) < (t241.length : Int) then (some (rd t244 (wrap64 (Int.tdiv (wrap64 ((t241.length : Int) - 1)) 2)))) else (none)) else (none)) = some r := H
 have A3 := Aside0.mk A30
 clear A30
 obtain ⟨ji4, hji4⟩ : ∃ j_ : Int, (wrap64 (Int.tdiv (wrap64 ((t241.length : Int) - 1)) 2)) = j_ := ⟨_, rfl⟩
 replace H : (if 0 ≤ (ji4) then (if (ji4) < (t241.length : Int) then (some (rd t244 (ji4))) else (none)) else (none)) = some r := by first | (rw [hji4] at H; exact H) | (simp only [hji4] at H ⊢; exact H)
 (try rw [hji4] at A2)
 (try rw [hji4] at A3)
 have hji4w : (IntKind.i64.wrap (Int.tdiv (wrap64 ((t241.length : Int) - 1)) 2)) = ji4 := (i64_w _).trans hji4
 by_cases c5 : 0 ≤ (ji4)
 rotate_left
 ·rw [if_neg c5] at H
  exact absurd H (by simp)
 rw [if_pos c5] at H
 have c5b0 : decide (0 ≤ (ji4)) = true := decide_eq_true c5
 clear c5
 by_cases c6 : (ji4) < (t241.length : Int)
 rotate_left
 ·rw [if_neg c6] at H
  exact absurd H (by simp)
 rw [if_pos c6] at H
 have c6b0 : decide ((ji4) < (t241.length : Int)) = true := decide_eq_true c6
 clear c6
 obtain rfl := Option.some.inj H
 go_enter Try.func39, Try.ntmps39
 go_wp2_with (first | ((with_reducible refine gate_callee (f := 50) rfl ?_); refine goesL_ (some 5) rfl rfl Try.func50 (by kernel_rfl) rfl #[.slice A0 l0.length c0] rfl qgbest_1 ?_; (with_reducible refine (slices_Clone_int_int.calls _ _ l0 t241 _ ?side1 ?side2 A2.out).mono ?_); (case side1 => exact qgbest_4); (case side2 => exact HC0.out); rintro e w7 ⟨v242, rfl, ho0, hb⟩; refine ⟨_, rfl, ?_⟩; have n0_ := Aside0.mk (Kd.R_lower ho0 (below_size qgbest_0)); have n1_ := Aside0.mk (below_step qgbest_0 hb); clear HB; have HO243 := n0_; have HB := n1_; clear n0_ n1_; (try clear hb); (try clear hb2); (try clear hk); (try clear hi); (try clear ho0); obtain ⟨Ao8, co8, eo8⟩ := Kd.R_slice HO243.out; subst eo8) | ((with_reducible refine gate_callee (f := 51) rfl ?_); refine goesL_ (some 7) rfl rfl Try.func51 (by kernel_rfl) rfl #[.slice Ao8 t241.length co8] rfl qgbest_1 ?_; (with_reducible refine (slices_Sort_int_int.calls (fun k_ => some k_ = (.slice Ao8 t241.length co8 : Value).ownBlock) (.slice Ao8 t241.length co8) t241 t244 w _ ?side1 ?side2 A3.out).mono ?_); (case side1 => exact qgbest_0); (case side2 => exact Kd.R_tight rfl HO243.out); rintro e w9 ⟨rfl, hy0, hb, hkp⟩; refine ⟨_, rfl, ?_⟩; have n0_ := Aside0.mk (Kd.R_reok rfl hy0 (fun k_ e_ => HO243.out.1 k_ e_)); have n1_ := Aside0.mk (hb); clear HO243; clear HB; have HO243 := n0_; have HB := n1_; clear n0_ n1_; (try clear hb); (try clear hkp); (try clear hy0); have p245 : 0 ≤ ((ji4) : Int) := of_decide_eq_true qgbest_3; have q245 : (ji4) < (t244.length : Int) := (by have h_ : ((ji4) : Int) < ((t241.length : Int) : Int) := of_decide_eq_true qgbest_3; have e_ := (Kd.R_reads' HO243.out).1; omega); have ql245 : (((ji4) : Int) < ((t241.length : Int) : Int)) = True := eq_true (of_decide_eq_true qgbest_3); obtain ⟨ad245, e245, hx245_0⟩ := Kd.at_int (Kd.R_reads' HO243.out).2.2 (ji4) p245 q245; cases e245; replace p245 := eq_true p245; replace q245 := eq_true q245))
 go_ret
 exact ⟨by first | rfl | (simp [errW_none, errW_some] <;> rfl) | (simp only [← hji4]; first | rfl | (simp [errW_none, errW_some] <;> rfl)) | (simp [*, errW_none, errW_some] <;> rfl), qgbest_0⟩

/-! ### segmentation_Levels: function 17 -/
def segmentation_Levels.l0 : Nat → List Int → List (List Int) → Int → Int → Option (List Int × Int)
 | 0, _, _, _, _ => none
 | k + 1, x8, x24, x25, x26 => if x26 < x25 then (if 0 ≤ x26 then (if x26 < (x24.length : Int) then ((segmentation_median.f (rd_L2 x24 x26)).bind fun t252 => (if x8.length < 17592186044416 then (segmentation_Levels.l0 k (x8 ++ [t252]) x24 x25 (wrap64 (x26 + 1))) else (none))) else (none)) else (none)) else (some (x8, 0))
def segmentation_Levels.f (k : Nat) (l0 : List Int) (l1 : List Int) : Option (List Int × Int) := (segmentation_Check.f k l0 0).bind fun t246 => (if t246 = 0 then ((segmentation_checkCuts.f k l0 l1).bind fun t247 => (if t247 = 0 then ((segmentation_parts.f k l0 l1).bind fun t248 => (segmentation_Levels.l0 k ([] : List Int) t248 (t248.length : Int) 0)) else (some (([] : List Int), t247)))) else (some (([] : List Int), t246)))
theorem segmentation_Levels.mono_l : ∀ k, (∀ y0 y1 y2 y3, LeO (segmentation_Levels.l0 k y0 y1 y2 y3) (segmentation_Levels.l0 (k + 1) y0 y1 y2 y3))
 | 0 => fun _ _ _ _ r h => by simp [segmentation_Levels.l0] at h
 | k + 1 => by
  have ih0 := segmentation_Levels.mono_l k
  ·intro y0 y1 y2 y3
   unfold segmentation_Levels.l0
   repeat' first
   | (with_reducible exact ih0 _ _ _ _)
   | (with_reducible exact segmentation_Check.mono _ _ _)
   | (with_reducible exact segmentation_checkCuts.mono _ _ _)
   | (with_reducible exact segmentation_parts.mono _ _ _)
   | (with_reducible exact LeO.refl _)
   | (with_reducible exact LeO.none _)
   | (with_reducible refine LeO.ite ?_ ?_)
   | (with_reducible refine LeO.bind ?_ (fun _ => ?_))
   | exact ih0 _ _ _ _
   | exact segmentation_Check.mono _ _ _
   | exact segmentation_checkCuts.mono _ _ _
   | exact segmentation_parts.mono _ _ _
   | exact LeO.none _
   | refine LeO.ite ?_ ?_
   | refine LeO.bind ?_ (fun _ => ?_)
theorem segmentation_Levels.mono : ∀ a0 a1 k, LeO (segmentation_Levels.f k a0 a1) (segmentation_Levels.f (k + 1) a0 a1) := by
 intro a0 a1 k
 have ih0 := segmentation_Levels.mono_l k
 unfold segmentation_Levels.f
 repeat' first
   | (with_reducible exact ih0 _ _ _ _)
   | (with_reducible exact segmentation_Check.mono _ _ _)
   | (with_reducible exact segmentation_checkCuts.mono _ _ _)
   | (with_reducible exact segmentation_parts.mono _ _ _)
   | (with_reducible exact LeO.refl _)
   | (with_reducible exact LeO.none _)
   | (with_reducible refine LeO.ite ?_ ?_)
   | (with_reducible refine LeO.bind ?_ (fun _ => ?_))
   | exact ih0 _ _ _ _
   | exact segmentation_Check.mono _ _ _
   | exact segmentation_checkCuts.mono _ _ _
   | exact segmentation_parts.mono _ _ _
   | exact LeO.none _
   | refine LeO.ite ?_ ?_
   | refine LeO.bind ?_ (fun _ => ?_)
set_option maxHeartbeats 8000000 in
set_option maxRecDepth 100000 in
theorem segmentation_Levels.calls (k : Nat) (A0 : Option Addr) (c0 : Nat) (l0 : List Int) (A1 : Option Addr) (c1 : Nat) (l1 : List Int) (r1 : List Int) (r2 : Int) (w : World) (hr0 : Kd.C (Kd.int .i64) w A0 l0.length l0) (hc0 : l0.length ≤ c0) (hr1 : Kd.C (Kd.int .i64) w A1 l1.length l1) (hc1 : l1.length ≤ c1) (h : segmentation_Levels.f k l0 l1 = some (r1, r2)) :
  Calls Try.prog 17 #[.slice A0 l0.length c0, .slice A1 l1.length c1] w fun e w' => ∃ v0_ : Value, e = .returned (.tuple #[v0_, .int .i64 r2]) ∧ Kd.R (Kd.int .i64) 3 w' w.heap.size (fun _ => True) v0_ r1 ∧ Below w.heap.size w w' := by
 have HR0 := Aside0.mk hr0
 have HC0 := Aside0.mk hc0
 clear hr0 hc0
 have HR1 := Aside0.mk hr1
 have HC1 := Aside0.mk hc1
 clear hr1 hc1
 have HB := Aside0.mk (Below.refl w.heap.size w)
 have H : ((segmentation_Check.f k l0 0).bind fun t246 => (if t246 = 0 then ((segmentation_checkCuts.f k l0 l1).bind fun t247 => (if t247 = 0 then ((segmentation_parts.f k l0 l1).bind fun t248 => (segmentation_Levels.l0 k ([] : List Int) t248 (t248.length : Int) 0)) else (some (([] : List Int), t247)))) else (some (([] : List Int), t246)))) = some (r1, r2) := h
 clear h
 replace H := Option.bind_eq_some_iff.mp H
 obtain ⟨t246, A30, H⟩ := H
 replace H : (if t246 = 0 then ((segmentation_checkCuts.f k l0 l1).bind fun t247 => (if t247 = 0 then ((segmentation_parts.f k l0 l1).bind fun t248 => (segmentation_Levels.l0 k ([] : List Int) t248 (t248.length : Int) 0)) else (some (([] : List Int), t247)))) else (some (([] : List Int), t246))) = some (r1, r2) := H
 have A3 := Aside0.mk A30
 clear A30
 by_cases c4 : t246 = 0
 rotate_left
 ·rw [if_neg c4] at H
  have c4b0 : (t246 == 0) = false := beq_eq_false_iff_ne.mpr c4
  have c4b1 : (t246 != 0) = true := bne_iff_ne.mpr c4
  simp only [Option.some.injEq, Prod.mk.injEq] at H
  obtain ⟨rfl, rfl⟩ := H
  go_enter Try.func17, Try.ntmps17
  go_wp2_with (first | ((with_reducible refine gate_callee (f := 19) rfl ?_); refine goesL_ (some 12) rfl rfl Try.func19 (by kernel_rfl) rfl #[.slice A0 l0.length c0, .int .i64 0] rfl qgbest_1 ?_; (with_reducible refine (segmentation_Check.calls k _ _ l0 0 t246 _ ?side1 ?side2 A3.out).mono ?_); (case side1 => exact qgbest_4); (case side2 => exact HC0.out); rintro e w' ⟨rfl, ⟨nd, rfl⟩⟩; refine ⟨_, rfl, ?_⟩))
  go_ret2
  exact ⟨_, qgbest_8, qgbest_9, qgbest_0⟩
 rw [if_pos c4] at H
 have c4b0 : (t246 == 0) = true := beq_iff_eq.mpr c4
 have c4b1 : (t246 != 0) = false := bne_eq_false_iff_eq.mpr c4
 clear c4
 replace H := Option.bind_eq_some_iff.mp H
 obtain ⟨t247, A50, H⟩ := H
 replace H : (if t247 = 0 then ((segmentation_parts.f k l0 l1).bind fun t248 => (segmentation_Levels.l0 k ([] : List Int) t248 (t248.length : Int) 0)) else (some (([] : List Int), t247))) = some (r1, r2) := H
 have A5 := Aside0.mk A50
 clear A50
 by_cases c6 : t247 = 0
 rotate_left
 ·rw [if_neg c6] at H
  have c6b0 : (t247 == 0) = false := beq_eq_false_iff_ne.mpr c6
  have c6b1 : (t247 != 0) = true := bne_iff_ne.mpr c6
  simp only [Option.some.injEq, Prod.mk.injEq] at H
  obtain ⟨rfl, rfl⟩ := H
  go_enter Try.func17, Try.ntmps17
  go_wp2_with (first | ((with_reducible refine gate_callee (f := 19) rfl ?_); refine goesL_ (some 12) rfl rfl Try.func19 (by kernel_rfl) rfl #[.slice A0 l0.length c0, .int .i64 0] rfl qgbest_1 ?_; (with_reducible refine (segmentation_Check.calls k _ _ l0 0 t246 _ ?side1 ?side2 A3.out).mono ?_); (case side1 => exact qgbest_4); (case side2 => exact HC0.out); rintro e w' ⟨rfl, ⟨nd, rfl⟩⟩; refine ⟨_, rfl, ?_⟩) | ((with_reducible refine gate_callee (f := 37) rfl ?_); refine goesL_ (some 18) rfl rfl Try.func37 (by kernel_rfl) rfl #[.slice A0 l0.length c0, .slice A1 l1.length c1] rfl qgbest_1 ?_; (with_reducible refine (segmentation_checkCuts.calls k _ _ l0 _ _ l1 t247 _ ?side1 ?side2 ?side3 ?side4 A5.out).mono ?_); (case side1 => exact qgbest_4); (case side2 => exact HC0.out); (case side3 => exact qgbest_14); (case side4 => exact HC1.out); rintro e w' ⟨rfl, ⟨nd, rfl⟩⟩; refine ⟨_, rfl, ?_⟩))
  go_ret2
  exact ⟨_, qgbest_8, qgbest_9, qgbest_0⟩
 rw [if_pos c6] at H
 have c6b0 : (t247 == 0) = true := beq_iff_eq.mpr c6
 have c6b1 : (t247 != 0) = false := bne_eq_false_iff_eq.mpr c6
 clear c6
 replace H := Option.bind_eq_some_iff.mp H
 obtain ⟨t248, A70, H⟩ := H
 replace H : (segmentation_Levels.l0 k ([] : List Int) t248 (t248.length : Int) 0) = some (r1, r2) := H
 have A7 := Aside0.mk A70
 clear A70
 have H' := Aside0.mk H
 clear H
 go_enter Try.func17, Try.ntmps17
 go_wp2_with (first | ((with_reducible refine gate_callee (f := 19) rfl ?_); refine goesL_ (some 12) rfl rfl Try.func19 (by kernel_rfl) rfl #[.slice A0 l0.length c0, .int .i64 0] rfl qgbest_1 ?_; (with_reducible refine (segmentation_Check.calls k _ _ l0 0 t246 _ ?side1 ?side2 A3.out).mono ?_); (case side1 => exact qgbest_4); (case side2 => exact HC0.out); rintro e w' ⟨rfl, ⟨nd, rfl⟩⟩; refine ⟨_, rfl, ?_⟩) | ((with_reducible refine gate_callee (f := 37) rfl ?_); refine goesL_ (some 18) rfl rfl Try.func37 (by kernel_rfl) rfl #[.slice A0 l0.length c0, .slice A1 l1.length c1] rfl qgbest_1 ?_; (with_reducible refine (segmentation_checkCuts.calls k _ _ l0 _ _ l1 t247 _ ?side1 ?side2 ?side3 ?side4 A5.out).mono ?_); (case side1 => exact qgbest_4); (case side2 => exact HC0.out); (case side3 => exact qgbest_14); (case side4 => exact HC1.out); rintro e w' ⟨rfl, ⟨nd, rfl⟩⟩; refine ⟨_, rfl, ?_⟩) | ((with_reducible refine gate_callee (f := 38) rfl ?_); refine goesL_ (some 24) rfl rfl Try.func38 (by kernel_rfl) rfl #[.slice A0 l0.length c0, .slice A1 l1.length c1] rfl qgbest_1 ?_; (with_reducible refine (segmentation_parts.calls k (fun k_ => k_ < w.heap.size) _ _ l0 _ _ l1 t248 _ ?side1 ?side2 ?side3 A7.out).mono ?_); (case side1 => exact Kd.V_mk HC0.out (Kd.F_below (Kd.C_F (Kd.heap_int .i64) HR0.out) qgbest_0)); (case side2 => exact qgbest_14); (case side3 => exact HC1.out); rintro e w8 ⟨v249, rfl, ho0, hb⟩; refine ⟨_, rfl, ?_⟩; have n0_ := Aside0.mk (Kd.N_lower (Kd.N_mono (ok' := fun k_ => True) ho0 (fun k_ hk_ => trivial)) (below_size qgbest_0)); have n1_ := Aside0.mk (below_step qgbest_0 hb); clear HB; have HO250 := n0_; have HB := n1_; clear n0_ n1_; (try clear hb); (try clear hb2); (try clear hk); (try clear hi); (try clear ho0); obtain ⟨Ao9, co9, eo9⟩ := Kd.N_slice HO250.out; subst eo9))
 go_loopg [8, 26] k (fun kq v8 v26 w' => ∃ (x8_1 : List Int) (x26_1 : Int), v26 = .int .i64 x26_1 ∧ Aside0 (segmentation_Levels.l0 kq x8_1 t248 (t248.length : Int) x26_1 = some (r1, r2)) ∧ Aside0 (kq ≤ k) ∧ Aside0 (Kd.R (Kd.int .i64) 3 w' w.heap.size (fun _ => True) v8 x8_1) ∧ Aside0 (Kd.N (Kd.slice 3 (Kd.int .i64)) 26 w' w.heap.size (fun k_ => some k_ ≠ (v8 : Value).ownBlock) (.slice Ao9 t248.length co9) t248) ∧ Aside0 (Below w.heap.size w w'))
 case atStart => exact ⟨(([] : List Int)), (0), qgbest_6, H', ⟨Nat.le_refl _⟩, ⟨qgbest_9⟩, ⟨by (with_reducible repeat (first | apply Kd.N_alloc | apply Kd.N_drewN | apply Kd.N_drew)); exact Kd.N_mono HO250.out (fun _ hk => (by simp [Value.ownBlock]))⟩, ⟨qgbest_0⟩⟩
 clear H'
 try clear c1
 try clear p2
 try clear c3
 try clear c4
 try clear c4b0
 try clear c4b1
 try clear c6
 try clear c6b0
 try clear c6b1
 obtain ⟨x8_1, x26_1, rfl, HA, HK1, HO_8, HO_24, HB⟩ := hrel
 cases gk with
 | zero => exact absurd HA.out (by simp [segmentation_Levels.l0])
 | succ k1 =>
  have H := HA.out
  clear HA
  simp only [segmentation_Levels.l0] at H
  by_cases c10 : x26_1 < (t248.length : Int)
  rotate_left
  ·rw [if_neg c10] at H
   have c10b0 : decide (x26_1 < (t248.length : Int)) = false := decide_eq_false c10
   clear c10
   simp only [Option.some.injEq, Prod.mk.injEq] at H
   obtain ⟨rfl, rfl⟩ := H
   go_wp2
   go_ret2
   exact ⟨_, qgbest_8, qgbest_16, qgbest_0⟩
  rw [if_pos c10] at H
  have c10b0 : decide (x26_1 < (t248.length : Int)) = true := decide_eq_true c10
  clear c10
  by_cases c11 : 0 ≤ x26_1
  rotate_left
  ·rw [if_neg c11] at H
   exact absurd H (by simp)
  rw [if_pos c11] at H
  have c11b0 : decide (0 ≤ x26_1) = true := decide_eq_true c11
  clear c11
  by_cases c12 : x26_1 < (t248.length : Int)
  rotate_left
  ·rw [if_neg c12] at H
   exact absurd H (by simp)
  rw [if_pos c12] at H
  have c12b0 : decide (x26_1 < (t248.length : Int)) = true := decide_eq_true c12
  clear c12
  replace H := Option.bind_eq_some_iff.mp H
  obtain ⟨t252, A130, H⟩ := H
  replace H : (if x8_1.length < 17592186044416 then (segmentation_Levels.l0 k1 (x8_1 ++ [t252]) t248 (t248.length : Int) (wrap64 (x26_1 + 1))) else (none)) = some (r1, r2) := H
  have A13 := Aside0.mk A130
  clear A130
  by_cases c14 : x8_1.length < 17592186044416
  rotate_left
  ·rw [if_neg c14] at H
   exact absurd H (by simp)
  rw [if_pos c14] at H
  have LMc14 := Aside0.mk c14
  clear c14
  obtain ⟨y253, hy253⟩ : ∃ y_ : List Int, y_ = (x8_1 ++ [t252]) := ⟨_, rfl⟩
  replace H : (segmentation_Levels.l0 k1 y253 t248 (t248.length : Int) (wrap64 (x26_1 + 1))) = some (r1, r2) := by first | (rw [hy253]; with_reducible exact H) | (have H2_ := (Option.bind_some _ _).symm.trans H; rw [hy253]; with_reducible exact H2_) | (have H2_ := (Option.bind_some _ _).symm.trans H; with_reducible exact H2_) | with_reducible exact H | (rw [hy253]; exact H) | exact H
  have Ny253 := Aside0.mk hy253
  clear hy253
  have H' := Aside0.mk H
  clear H
  have p251 : 0 ≤ (x26_1 : Int) := of_decide_eq_true qgbest_3
  have q251 : x26_1 < (t248.length : Int) := of_decide_eq_true qgbest_3
  obtain ⟨ad251, A251_0, c251_0, e251, hx251_0, hl251_0, hi251_0⟩ := at_L2 (Kd.N_reads' HO_24.out).2.2 x26_1 p251 q251
  cases e251
  obtain ⟨ce251, hce251, hMe251, hcc251⟩ := Kd.N_get HO_24.out [] x26_1 p251 (by first | exact q251 | exact of_decide_eq_true qgbest_3 | (have e_ := (Kd.N_reads' HO_24.out).1; omega))
  obtain ⟨ua251_0, uc251_0, rfl, ul251_0, ge251_0⟩ := Kd.FK_slice_open hMe251
  have hv251_0 := hcc251 0 _ rfl
  rw [Nat.add_zero, show ((Kd.slice 3 (Kd.int .i64))).sz = 1 from rfl, Nat.mul_one] at hv251_0
  replace hv251_0 := Option.some.inj (hv251_0.symm.trans hx251_0)
  injection hv251_0 with hva_ hvn_ hvc_
  rw [hva_] at ge251_0
  rw [hvc_] at ul251_0
  have HL251_0 := Aside0.mk (show Kd.V (Kd.int .i64) 3 _ w.heap.size _ _ (rd_L2 t248 x26_1) from Kd.V_mk ul251_0 ge251_0)
  clear hva_ hvn_ hvc_ ge251_0 ul251_0
  clear hcc251 hce251
  have HR251_0 := Aside0.mk hi251_0
  have HC251_0 := Aside0.mk hl251_0
  clear hi251_0 hl251_0
  replace p251 := eq_true p251
  replace q251 := eq_true q251
  go_wp2_with (first | ((with_reducible refine gate_callee (f := 39) rfl ?_); refine goesL_ (some 32) rfl rfl Try.func39 (by kernel_rfl) rfl #[.slice A251_0 (rd_L2 t248 x26_1).length c251_0] rfl qgbest_1 ?_; (with_reducible refine (segmentation_median.calls _ _ (rd_L2 t248 x26_1) t252 _ ?side1 ?side2 A13.out).mono ?_); (case side1 => repeat (first | exact qgbest_17 | (with_reducible refine Kd.C_alloc ?_ _) | (with_reducible refine Kd.C_drewN ?_ _) | (with_reducible refine Kd.C_drew ?_))); (case side2 => exact HC251_0.out); rintro e w15 ⟨rfl, hb⟩; refine ⟨_, rfl, ?_⟩; have n0_ := Aside0.mk (Kd.R_below qgbest_16 hb); have n1_ := Aside0.mk (Kd.N_below (by (with_reducible repeat (first | apply Kd.N_alloc | apply Kd.N_drewN | apply Kd.N_drew)); exact HO_24.out) hb); have n2_ := Aside0.mk (Kd.V_below (by (with_reducible repeat (first | apply Kd.V_alloc | apply Kd.V_drewN | apply Kd.V_drew)); exact HL251_0.out) hb); have n3_ := Aside0.mk (Kd.C_below qgbest_17 hb); have n4_ := Aside0.mk (below_step qgbest_0 hb); clear HO_8; clear HO_24; clear HL251_0; clear HR251_0; clear HB; have HO_8 := n0_; have HO_24 := n1_; have HL251_0 := n2_; have HR251_0 := n3_; have HB := n4_; clear n0_ n1_ n2_ n3_ n4_; (try clear hb); (try clear hb2); (try clear hk); (try clear hi)) | ((with_reducible refine gate_builtin (b := .append) (xs := #[.tmp 30, .tmp 33]) rfl ?_); at_builtin; refine Kd.R_append (Kd.int .i64) (w0 := w) w.heap.size rfl (.tmp 30) (.tmp 33) 26 3 (.int .i64 0) 8 rfl Try.underlying26 info3 rfl (by decide) (by omega) u8 x8_1 t252 [.int .i64 t252] (fun _ => True) (fun _ => False) rfl rfl ?aP (fun _ hk => hk.elim) ?aF ?aO ?aB ?aS ?aL ?_; (case aP => exact rfl); (case aB => exact qgbest_0); (case aF => exact (fun _ _ => trivial)); (case aO => exact qgbest_16); (case aS => exact (below_size qgbest_0)); (case aL => have := LMc14.out; omega); intro v254 w16 ho hb hg hat; rw [← Ny253.out] at ho; have n0_ := Aside0.mk (Kd.N_afterv (ok := (fun _ => True)) (by (with_reducible repeat (first | apply Kd.N_alloc | apply Kd.N_drewN | apply Kd.N_drew)); exact Kd.N_mono HO_24.out (fun _ hk => ⟨trivial, hk⟩)) hg hat); have n1_ := Aside0.mk (Kd.V_afterv (ok := (fun k_ => some k_ ≠ (.slice (some ad251) t248.length co9 : Value).ownBlock)) (by (with_reducible repeat (first | apply Kd.V_alloc | apply Kd.V_drewN | apply Kd.V_drew)); exact Kd.V_mono HL251_0.out (fun _ hk => ⟨hk.2, hk.1⟩)) hg hat); have n2_ := Aside0.mk (hb); have n3_ := Aside0.mk (ho); clear HO_24; clear HL251_0; clear HB; clear HO_8; have HO_24 := n0_; have HL251_0 := n1_; have HB := n2_; have HO255 := n3_; clear n0_ n1_ n2_ n3_; clear ho hb hg hat))
  go_roundg k1
  case measure => have := HK1.out; omega
  case rel => exact ⟨(y253), (wrap64 (x26_1 + 1)), qgbest_6, H', ⟨by have := HK1.out; omega⟩, ⟨by (with_reducible repeat (first | apply Kd.R_alloc | apply Kd.R_drewN | apply Kd.R_drew)); exact HO255.out⟩, ⟨by (with_reducible repeat (first | apply Kd.N_alloc | apply Kd.N_drewN | apply Kd.N_drew)); exact Kd.N_mono HO_24.out (fun _ hk => hk.2)⟩, ⟨qgbest_0⟩⟩

end Go.Proofs.Ytcjgmofgfblmnaa.Q
