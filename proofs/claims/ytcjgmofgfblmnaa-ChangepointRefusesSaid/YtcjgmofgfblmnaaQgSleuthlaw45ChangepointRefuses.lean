-- Laid by myprint.py (a program of this session's, over the kit's printer and with functions proved by hand)
import Derived.Test.YtcjgmofgfblmnaaTy
import Derived.Test.YtcjgmofgfblmnaaQgBase
import Derived.Test.YtcjgmofgfblmnaaQgSeries
import Derived.Test.YtcjgmofgfblmnaaQgChangepointOf
import Derived.Test.YtcjgmofgfblmnaaQgKnown
namespace Go.Proofs.Ytcjgmofgfblmnaa.Q
open Go.RowKit Go.Proofs.YtcjgmofgfblmnaaW.PrintWords Go.Proofs.YtcjgmofgfblmnaaW.PrintLast Go.Proofs.YtcjgmofgfblmnaaW.PrintMore
attribute [local go_sem] max2_int min2_int max_two min_two max_three min_three max_four min_four   -- for this text's walks alone
set_option linter.unusedVariables false
set_option linter.unusedSimpArgs false

attribute [local go_sem high] eqA41
theorem qgsleuthlaw45changepointrefuses_0 {p : Prop} (h : p := by repeat (first | (with_reducible first | exact HB.out | apply below_alloc | apply pw_below_drewN | apply below_drew1 | refine below_set ?_ GE596.out) | exact HB.out)) : p := h
theorem qgsleuthlaw45changepointrefuses_1 {p : Prop} (h : p := by (try simp only [List.map_toArray, List.map_cons, List.map_nil]); first | done | rfl | (simp only [List.length_drop, List.length_take]; rfl)) : p := h
theorem qgsleuthlaw45changepointrefuses_2 {p : Prop} (h : p := by repeat (first | exact (Kd.C_below HR0_6.out HB.out) | (with_reducible refine Kd.C_alloc ?_ _) | (with_reducible refine Kd.C_drewN ?_ _) | (with_reducible refine Kd.C_drew ?_))) : p := h
theorem qgsleuthlaw45changepointrefuses_3 {p : Prop} (h : p := by (with_reducible repeat (first | refine blk_drewN ?_ _ | refine blk_drew ?_ | refine blk_alloc ?_ _)); exact BK596.out) : p := h
theorem qgsleuthlaw45changepointrefuses_4 {p : Prop} (h : p := by first | rfl | (simp [errW_none, errW_some] <;> rfl) | (simp [*, errW_none, errW_some] <;> rfl)) : p := h
theorem qgsleuthlaw45changepointrefuses_5 {p : Prop} (h : p := by (with_reducible repeat (first | apply Kd.R_alloc | apply Kd.R_drewN | apply Kd.R_drew)); exact HO601.out) : p := h
theorem qgsleuthlaw45changepointrefuses_6 {p : Prop} (h : p := by repeat (first | (with_reducible first | exact HB.out | apply below_alloc | apply pw_below_drewN | apply below_drew1) | exact HB.out)) : p := h
/-! ### sleuthlaw45_ChangepointRefuses: function 4 -/
def sleuthlaw45_ChangepointRefuses.j0 : Nat → Int → Bool → ByteArray → ByteArray → Int → Int → Int → Int → List Int → Option (Bool)
 | 0, _, _, _, _, _, _, _, _, _ => none
 | k + 1, x1, x27, x597000, x597001, x597002, x597003, x597004, x597005, x597006 => if x27 = true then ((sleuthlaw45_known.f k).bind fun t598 => (some t598)) else ((changepoint_Of.f k x597000 x597001 x597002 x597003 x597004 x597005 x597006 x1).bind fun bt599 => ((series_Check.f k x597000 x597001 x597002 x597003 x597004 x597005 x597006).bind fun t603 => (if t603 = 0 then ((segmentation_Check.f k x597006 x1).bind fun t604 => (if bt599.2 = t604 then (if bt599.2 = 0 then (some true) else (some ((bt599.1.length : Int) == 0))) else (some false))) else (if bt599.2 = t603 then (if bt599.2 = 0 then (some true) else (some ((bt599.1.length : Int) == 0))) else (some false)))))
def sleuthlaw45_ChangepointRefuses.f (k : Nat) (a0_0 : ByteArray) (a0_1 : ByteArray) (a0_2 : Int) (a0_3 : Int) (a0_4 : Int) (a0_5 : Int) (l0_6 : List Int) (a1 : Int) : Option (Bool) := (sleuthlaw45_known.f k).bind fun t597 => (if t597 = true then (if (l0_6.length : Int) > 8 then (sleuthlaw45_ChangepointRefuses.j0 k a1 true a0_0 a0_1 a0_2 a0_3 a0_4 a0_5 l0_6) else (if (a0_0.size : Int) > 80 then (sleuthlaw45_ChangepointRefuses.j0 k a1 true a0_0 a0_1 a0_2 a0_3 a0_4 a0_5 l0_6) else (sleuthlaw45_ChangepointRefuses.j0 k a1 (decide ((a0_1.size : Int) > 80)) a0_0 a0_1 a0_2 a0_3 a0_4 a0_5 l0_6))) else (sleuthlaw45_ChangepointRefuses.j0 k a1 true a0_0 a0_1 a0_2 a0_3 a0_4 a0_5 l0_6))
theorem sleuthlaw45_ChangepointRefuses.mono_l : ∀ k, (∀ y0 y1 y2 y3 y4 y5 y6 y7 y8, LeO (sleuthlaw45_ChangepointRefuses.j0 k y0 y1 y2 y3 y4 y5 y6 y7 y8) (sleuthlaw45_ChangepointRefuses.j0 (k + 1) y0 y1 y2 y3 y4 y5 y6 y7 y8))
 | 0 => fun _ _ _ _ _ _ _ _ _ r h => by simp [sleuthlaw45_ChangepointRefuses.j0] at h
 | k + 1 => by
  have ih0 := sleuthlaw45_ChangepointRefuses.mono_l k
  ·intro y0 y1 y2 y3 y4 y5 y6 y7 y8
   unfold sleuthlaw45_ChangepointRefuses.j0
   repeat' first
   | (with_reducible exact ih0 _ _ _ _ _ _ _ _ _)
   | (with_reducible exact changepoint_Of.mono _ _ _ _ _ _ _ _ _)
   | (with_reducible exact segmentation_Check.mono _ _ _)
   | (with_reducible exact series_Check.mono _ _ _ _ _ _ _ _)
   | (with_reducible exact sleuthlaw45_known.mono _)
   | (with_reducible exact LeO.refl _)
   | (with_reducible exact LeO.none _)
   | (with_reducible refine LeO.ite ?_ ?_)
   | (with_reducible refine LeO.bind ?_ (fun _ => ?_))
   | exact ih0 _ _ _ _ _ _ _ _ _
   | exact changepoint_Of.mono _ _ _ _ _ _ _ _ _
   | exact segmentation_Check.mono _ _ _
   | exact series_Check.mono _ _ _ _ _ _ _ _
   | exact sleuthlaw45_known.mono _
   | exact LeO.none _
   | refine LeO.ite ?_ ?_
   | refine LeO.bind ?_ (fun _ => ?_)
theorem sleuthlaw45_ChangepointRefuses.mono : ∀ a0 a1 a2 a3 a4 a5 a6 a7 k, LeO (sleuthlaw45_ChangepointRefuses.f k a0 a1 a2 a3 a4 a5 a6 a7) (sleuthlaw45_ChangepointRefuses.f (k + 1) a0 a1 a2 a3 a4 a5 a6 a7) := by
 intro a0 a1 a2 a3 a4 a5 a6 a7 k
 have ih0 := sleuthlaw45_ChangepointRefuses.mono_l k
 unfold sleuthlaw45_ChangepointRefuses.f
 repeat' first
   | (with_reducible exact ih0 _ _ _ _ _ _ _ _ _)
   | (with_reducible exact changepoint_Of.mono _ _ _ _ _ _ _ _ _)
   | (with_reducible exact segmentation_Check.mono _ _ _)
   | (with_reducible exact series_Check.mono _ _ _ _ _ _ _ _)
   | (with_reducible exact sleuthlaw45_known.mono _)
   | (with_reducible exact LeO.refl _)
   | (with_reducible exact LeO.none _)
   | (with_reducible refine LeO.ite ?_ ?_)
   | (with_reducible refine LeO.bind ?_ (fun _ => ?_))
   | exact ih0 _ _ _ _ _ _ _ _ _
   | exact changepoint_Of.mono _ _ _ _ _ _ _ _ _
   | exact segmentation_Check.mono _ _ _
   | exact series_Check.mono _ _ _ _ _ _ _ _
   | exact sleuthlaw45_known.mono _
   | exact LeO.none _
   | refine LeO.ite ?_ ?_
   | refine LeO.bind ?_ (fun _ => ?_)
set_option maxHeartbeats 8000000 in
set_option maxRecDepth 100000 in
theorem sleuthlaw45_ChangepointRefuses.calls (k : Nat) (a0_0 : ByteArray) (a0_1 : ByteArray) (a0_2 : Int) (a0_3 : Int) (a0_4 : Int) (a0_5 : Int) (A0_6 : Option Addr) (c0_6 : Nat) (l0_6 : List Int) (a1 : Int) (r : Bool) (w : World) (hr0_6 : Kd.C (Kd.int .i64) w A0_6 l0_6.length l0_6) (hc0_6 : l0_6.length ≤ c0_6) (h : sleuthlaw45_ChangepointRefuses.f k a0_0 a0_1 a0_2 a0_3 a0_4 a0_5 l0_6 a1 = some r) :
  Calls Try.prog 4 #[.agg #[.string a0_0, .string a0_1, .int .i64 a0_2, .int .i64 a0_3, .int .i64 a0_4, .int .i64 a0_5, .slice A0_6 l0_6.length c0_6], .int .i64 a1] w fun e w' => e = .returned (.bool r) ∧ Below w.heap.size w w' := by
 have hu28 := Try.underlying28
 have HR0_6 := Aside0.mk hr0_6
 have HC0_6 := Aside0.mk hc0_6
 clear hr0_6 hc0_6
 have HB := Aside0.mk (Below.refl w.heap.size w)
 have H : ((sleuthlaw45_known.f k).bind fun t597 => (if t597 = true then (if (l0_6.length : Int) > 8 then (sleuthlaw45_ChangepointRefuses.j0 k a1 true a0_0 a0_1 a0_2 a0_3 a0_4 a0_5 l0_6) else (if (a0_0.size : Int) > 80 then (sleuthlaw45_ChangepointRefuses.j0 k a1 true a0_0 a0_1 a0_2 a0_3 a0_4 a0_5 l0_6) else (sleuthlaw45_ChangepointRefuses.j0 k a1 (decide ((a0_1.size : Int) > 80)) a0_0 a0_1 a0_2 a0_3 a0_4 a0_5 l0_6))) else (sleuthlaw45_ChangepointRefuses.j0 k a1 true a0_0 a0_1 a0_2 a0_3 a0_4 a0_5 l0_6))) = some r := h
 clear h
 have HC3 := Aside0.mk H
 clear H
 go_enter Try.func4, Try.ntmps4
 go_upto_region 1 with (first | ((with_reducible refine gate_dst (N := 2) rfl ?_); (try (refine gate_guard (by rfl) ?_; dsimp only)); refine box_event ?hg (N := 2) ?hd (cs := #[.string a0_0, .string a0_1, .int .i64 a0_2, .int .i64 a0_3, .int .i64 a0_4, .int .i64 a0_5, .slice A0_6 l0_6.length c0_6]) (t := 28) ?hr ?_; (case hd => rfl); (case hg => rfl); (case hr => first | (go_simp; done) | (go_simp; rfl)); intro gb596 hg w4 hbox hb; have n0_ := Aside0.mk (below_step qgsleuthlaw45changepointrefuses_6 hb); have n1_ := Aside0.mk (hbox); have n2_ := Aside0.mk ((by rw [hg]; exact (below_size qgsleuthlaw45changepointrefuses_6) : w.heap.size ≤ gb596)); have n3_ := Aside0.mk ((by rw [hg]; exact (below_size qgsleuthlaw45changepointrefuses_6) : w.heap.size ≤ gb596)); clear HB; have HB := n0_; have BK596 := n1_; have GW596 := n2_; have GE596 := n3_; clear n0_ n1_ n2_ n3_; clear hb hbox hg))
 (try simp only [Act.put, List.setIfInBounds_toArray, List.set_cons_zero, List.set_cons_succ])
 go_cut [27] (fun v27 wc => ∃ (kq : Nat) (x27_2 : Bool), v27 = .bool x27_2 ∧ Aside0 (sleuthlaw45_ChangepointRefuses.j0 kq a1 x27_2 a0_0 a0_1 a0_2 a0_3 a0_4 a0_5 l0_6 = some r) ∧ Aside0 (kq ≤ k) ∧ Aside0 (wc.heap[gb596]? = some (.cells #[.string a0_0, .string a0_1, .int .i64 a0_2, .int .i64 a0_3, .int .i64 a0_4, .int .i64 a0_5, (.slice A0_6 l0_6.length c0_6)] 28 (0, 0))) ∧ Aside0 (Below w.heap.size w wc))
 case first =>
  have H := HC3.out
  clear HC3
  replace H := Option.bind_eq_some_iff.mp H
  obtain ⟨t597, A50, H⟩ := H
  replace H : (if t597 = true then (if (l0_6.length : Int) > 8 then (sleuthlaw45_ChangepointRefuses.j0 k a1 true a0_0 a0_1 a0_2 a0_3 a0_4 a0_5 l0_6) else (if (a0_0.size : Int) > 80 then (sleuthlaw45_ChangepointRefuses.j0 k a1 true a0_0 a0_1 a0_2 a0_3 a0_4 a0_5 l0_6) else (sleuthlaw45_ChangepointRefuses.j0 k a1 (decide ((a0_1.size : Int) > 80)) a0_0 a0_1 a0_2 a0_3 a0_4 a0_5 l0_6))) else (sleuthlaw45_ChangepointRefuses.j0 k a1 true a0_0 a0_1 a0_2 a0_3 a0_4 a0_5 l0_6)) = some r := H
  have A5 := Aside0.mk A50
  clear A50
  by_cases c6 : t597 = true
  ·subst c6
   have H1 : (if (l0_6.length : Int) > 8 then (sleuthlaw45_ChangepointRefuses.j0 k a1 true a0_0 a0_1 a0_2 a0_3 a0_4 a0_5 l0_6) else (if (a0_0.size : Int) > 80 then (sleuthlaw45_ChangepointRefuses.j0 k a1 true a0_0 a0_1 a0_2 a0_3 a0_4 a0_5 l0_6) else (sleuthlaw45_ChangepointRefuses.j0 k a1 (decide ((a0_1.size : Int) > 80)) a0_0 a0_1 a0_2 a0_3 a0_4 a0_5 l0_6))) = some r := by rw [if_pos rfl] at H; exact H
   clear H
   have H := H1
   clear H1
   by_cases c7 : (l0_6.length : Int) > 8
   ·rw [if_pos c7] at H
    have c7b0 : decide (8 < (l0_6.length : Int)) = true := decide_eq_true c7
    have c7b1 : decide (8 < l0_6.length) = true := decide_eq_true (by omega)
    clear c7
    (first | rw [c7b0] | (simp only [i64_w, i32_w]; rw [c7b0]) | skip)
    have H' := Aside0.mk H
    clear H
    go_wp2_with (first | ((with_reducible refine gate_callee (f := 13) rfl ?_); refine goesL_ (some 8) rfl rfl Try.func13 (by kernel_rfl) rfl #[] rfl qgsleuthlaw45changepointrefuses_1 ?_; (with_reducible refine (sleuthlaw45_known.calls k  true _ A5.out).mono ?_); rintro e w8 ⟨rfl, hb⟩; refine ⟨_, rfl, ?_⟩; have n0_ := Aside0.mk (blk_below (g := gb596) (o := .cells #[.string a0_0, .string a0_1, .int .i64 a0_2, .int .i64 a0_3, .int .i64 a0_4, .int .i64 a0_5, .slice A0_6 l0_6.length c0_6] 28 (0, 0)) qgsleuthlaw45changepointrefuses_3 hb); have n1_ := Aside0.mk (below_step qgsleuthlaw45changepointrefuses_0 hb); clear BK596; clear HB; have BK596 := n0_; have HB := n1_; clear n0_ n1_; (try clear hb); (try clear hb2); (try clear hk); (try clear hi); have hcz9_0 : w8.cell? ⟨gb596, 0, none⟩ = some (.string a0_0) := (blk_cell BK596.out 0).trans rfl; have hcz9_1 : w8.cell? ⟨gb596, 1, none⟩ = some (.string a0_1) := (blk_cell BK596.out 1).trans rfl; have hcz9_2 : w8.cell? ⟨gb596, 2, none⟩ = some (.int .i64 a0_2) := (blk_cell BK596.out 2).trans rfl; have hcz9_3 : w8.cell? ⟨gb596, 3, none⟩ = some (.int .i64 a0_3) := (blk_cell BK596.out 3).trans rfl; have hcz9_4 : w8.cell? ⟨gb596, 4, none⟩ = some (.int .i64 a0_4) := (blk_cell BK596.out 4).trans rfl; have hcz9_5 : w8.cell? ⟨gb596, 5, none⟩ = some (.int .i64 a0_5) := (blk_cell BK596.out 5).trans rfl; have hcz9_6 : w8.cell? ⟨gb596, 6, none⟩ = some (.slice A0_6 l0_6.length c0_6) := (blk_cell BK596.out 6).trans rfl; have hfz9_0 := blk_frozen BK596.out 0; have hfz9_1 := blk_frozen BK596.out 1; have hfz9_2 := blk_frozen BK596.out 2; have hfz9_3 := blk_frozen BK596.out 3; have hfz9_4 := blk_frozen BK596.out 4; have hfz9_5 := blk_frozen BK596.out 5; have hfz9_6 := blk_frozen BK596.out 6))
    go_meet
    case rel => exact ⟨_, (true), (by first | rfl | (simp; done) | (simp [*]; done)), H', ⟨by first | omega | exact Nat.le_refl _⟩, ⟨qgsleuthlaw45changepointrefuses_3⟩, ⟨qgsleuthlaw45changepointrefuses_0⟩⟩
   ·rw [if_neg c7] at H
    have c7b0 : decide (8 < (l0_6.length : Int)) = false := decide_eq_false c7
    have c7b1 : decide (8 < l0_6.length) = false := decide_eq_false (by omega)
    clear c7
    (first | rw [c7b0] | (simp only [i64_w, i32_w]; rw [c7b0]) | skip)
    by_cases c10 : (a0_0.size : Int) > 80
    ·rw [if_pos c10] at H
     have c10b0 : decide (80 < (a0_0.size : Int)) = true := decide_eq_true c10
     have c10b1 : decide (80 < a0_0.size) = true := decide_eq_true (by omega)
     clear c10
     have H' := Aside0.mk H
     clear H
     go_wp2_with (first | ((with_reducible refine gate_callee (f := 13) rfl ?_); refine goesL_ (some 8) rfl rfl Try.func13 (by kernel_rfl) rfl #[] rfl qgsleuthlaw45changepointrefuses_1 ?_; (with_reducible refine (sleuthlaw45_known.calls k  true _ A5.out).mono ?_); rintro e w11 ⟨rfl, hb⟩; refine ⟨_, rfl, ?_⟩; have n0_ := Aside0.mk (blk_below (g := gb596) (o := .cells #[.string a0_0, .string a0_1, .int .i64 a0_2, .int .i64 a0_3, .int .i64 a0_4, .int .i64 a0_5, .slice A0_6 l0_6.length c0_6] 28 (0, 0)) qgsleuthlaw45changepointrefuses_3 hb); have n1_ := Aside0.mk (below_step qgsleuthlaw45changepointrefuses_0 hb); clear BK596; clear HB; have BK596 := n0_; have HB := n1_; clear n0_ n1_; (try clear hb); (try clear hb2); (try clear hk); (try clear hi); have hcz12_0 : w11.cell? ⟨gb596, 0, none⟩ = some (.string a0_0) := (blk_cell BK596.out 0).trans rfl; have hcz12_1 : w11.cell? ⟨gb596, 1, none⟩ = some (.string a0_1) := (blk_cell BK596.out 1).trans rfl; have hcz12_2 : w11.cell? ⟨gb596, 2, none⟩ = some (.int .i64 a0_2) := (blk_cell BK596.out 2).trans rfl; have hcz12_3 : w11.cell? ⟨gb596, 3, none⟩ = some (.int .i64 a0_3) := (blk_cell BK596.out 3).trans rfl; have hcz12_4 : w11.cell? ⟨gb596, 4, none⟩ = some (.int .i64 a0_4) := (blk_cell BK596.out 4).trans rfl; have hcz12_5 : w11.cell? ⟨gb596, 5, none⟩ = some (.int .i64 a0_5) := (blk_cell BK596.out 5).trans rfl; have hcz12_6 : w11.cell? ⟨gb596, 6, none⟩ = some (.slice A0_6 l0_6.length c0_6) := (blk_cell BK596.out 6).trans rfl; have hfz12_0 := blk_frozen BK596.out 0; have hfz12_1 := blk_frozen BK596.out 1; have hfz12_2 := blk_frozen BK596.out 2; have hfz12_3 := blk_frozen BK596.out 3; have hfz12_4 := blk_frozen BK596.out 4; have hfz12_5 := blk_frozen BK596.out 5; have hfz12_6 := blk_frozen BK596.out 6))
     go_meet
     case rel => exact ⟨_, (true), (by first | rfl | (simp; done) | (simp [*]; done)), H', ⟨by first | omega | exact Nat.le_refl _⟩, ⟨qgsleuthlaw45changepointrefuses_3⟩, ⟨qgsleuthlaw45changepointrefuses_0⟩⟩
    ·rw [if_neg c10] at H
     have c10b0 : decide (80 < (a0_0.size : Int)) = false := decide_eq_false c10
     have c10b1 : decide (80 < a0_0.size) = false := decide_eq_false (by omega)
     clear c10
     have H' := Aside0.mk H
     clear H
     go_wp2_with (first | ((with_reducible refine gate_callee (f := 13) rfl ?_); refine goesL_ (some 8) rfl rfl Try.func13 (by kernel_rfl) rfl #[] rfl qgsleuthlaw45changepointrefuses_1 ?_; (with_reducible refine (sleuthlaw45_known.calls k  true _ A5.out).mono ?_); rintro e w13 ⟨rfl, hb⟩; refine ⟨_, rfl, ?_⟩; have n0_ := Aside0.mk (blk_below (g := gb596) (o := .cells #[.string a0_0, .string a0_1, .int .i64 a0_2, .int .i64 a0_3, .int .i64 a0_4, .int .i64 a0_5, .slice A0_6 l0_6.length c0_6] 28 (0, 0)) qgsleuthlaw45changepointrefuses_3 hb); have n1_ := Aside0.mk (below_step qgsleuthlaw45changepointrefuses_0 hb); clear BK596; clear HB; have BK596 := n0_; have HB := n1_; clear n0_ n1_; (try clear hb); (try clear hb2); (try clear hk); (try clear hi); have hcz14_0 : w13.cell? ⟨gb596, 0, none⟩ = some (.string a0_0) := (blk_cell BK596.out 0).trans rfl; have hcz14_1 : w13.cell? ⟨gb596, 1, none⟩ = some (.string a0_1) := (blk_cell BK596.out 1).trans rfl; have hcz14_2 : w13.cell? ⟨gb596, 2, none⟩ = some (.int .i64 a0_2) := (blk_cell BK596.out 2).trans rfl; have hcz14_3 : w13.cell? ⟨gb596, 3, none⟩ = some (.int .i64 a0_3) := (blk_cell BK596.out 3).trans rfl; have hcz14_4 : w13.cell? ⟨gb596, 4, none⟩ = some (.int .i64 a0_4) := (blk_cell BK596.out 4).trans rfl; have hcz14_5 : w13.cell? ⟨gb596, 5, none⟩ = some (.int .i64 a0_5) := (blk_cell BK596.out 5).trans rfl; have hcz14_6 : w13.cell? ⟨gb596, 6, none⟩ = some (.slice A0_6 l0_6.length c0_6) := (blk_cell BK596.out 6).trans rfl; have hfz14_0 := blk_frozen BK596.out 0; have hfz14_1 := blk_frozen BK596.out 1; have hfz14_2 := blk_frozen BK596.out 2; have hfz14_3 := blk_frozen BK596.out 3; have hfz14_4 := blk_frozen BK596.out 4; have hfz14_5 := blk_frozen BK596.out 5; have hfz14_6 := blk_frozen BK596.out 6))
     go_meet
     case rel => exact ⟨_, (decide ((a0_1.size : Int) > 80)), (by first | rfl | (simp; done) | (simp [*]; done)), H', ⟨by first | omega | exact Nat.le_refl _⟩, ⟨qgsleuthlaw45changepointrefuses_3⟩, ⟨qgsleuthlaw45changepointrefuses_0⟩⟩
  ·replace c6 := Bool.eq_false_iff.mpr c6
   subst c6
   have H1 : (sleuthlaw45_ChangepointRefuses.j0 k a1 true a0_0 a0_1 a0_2 a0_3 a0_4 a0_5 l0_6) = some r := by rw [if_neg (show ¬ (false = true) by decide)] at H; exact H
   clear H
   have H := H1
   clear H1
   have H' := Aside0.mk H
   clear H
   go_wp2_with (first | ((with_reducible refine gate_callee (f := 13) rfl ?_); refine goesL_ (some 8) rfl rfl Try.func13 (by kernel_rfl) rfl #[] rfl qgsleuthlaw45changepointrefuses_1 ?_; (with_reducible refine (sleuthlaw45_known.calls k  false _ A5.out).mono ?_); rintro e w15 ⟨rfl, hb⟩; refine ⟨_, rfl, ?_⟩; have n0_ := Aside0.mk (blk_below (g := gb596) (o := .cells #[.string a0_0, .string a0_1, .int .i64 a0_2, .int .i64 a0_3, .int .i64 a0_4, .int .i64 a0_5, .slice A0_6 l0_6.length c0_6] 28 (0, 0)) qgsleuthlaw45changepointrefuses_3 hb); have n1_ := Aside0.mk (below_step qgsleuthlaw45changepointrefuses_0 hb); clear BK596; clear HB; have BK596 := n0_; have HB := n1_; clear n0_ n1_; (try clear hb); (try clear hb2); (try clear hk); (try clear hi)))
   go_meet
   case rel => exact ⟨_, (true), (by first | rfl | (simp; done) | (simp [*]; done)), H', ⟨by first | omega | exact Nat.le_refl _⟩, ⟨qgsleuthlaw45changepointrefuses_3⟩, ⟨qgsleuthlaw45changepointrefuses_0⟩⟩
 case rest =>
  clear HC3
  try clear c1
  try clear p2
  try clear c4
  try clear c6
  try clear c7
  try clear c7b0
  try clear c7b1
  try clear c10
  try clear c10b0
  try clear c10b1
  try clear c13
  try clear hcz12_0
  try clear hcz12_1
  try clear hcz12_2
  try clear hcz12_3
  try clear hcz12_4
  try clear hcz12_5
  try clear hcz12_6
  try clear hcz14_0
  try clear hcz14_1
  try clear hcz14_2
  try clear hcz14_3
  try clear hcz14_4
  try clear hcz14_5
  try clear hcz14_6
  try clear hcz9_0
  try clear hcz9_1
  try clear hcz9_2
  try clear hcz9_3
  try clear hcz9_4
  try clear hcz9_5
  try clear hcz9_6
  try clear hfz12_0
  try clear hfz12_1
  try clear hfz12_2
  try clear hfz12_3
  try clear hfz12_4
  try clear hfz12_5
  try clear hfz12_6
  try clear hfz14_0
  try clear hfz14_1
  try clear hfz14_2
  try clear hfz14_3
  try clear hfz14_4
  try clear hfz14_5
  try clear hfz14_6
  try clear hfz9_0
  try clear hfz9_1
  try clear hfz9_2
  try clear hfz9_3
  try clear hfz9_4
  try clear hfz9_5
  try clear hfz9_6
  obtain ⟨kq, x27_2, rfl, HA, HJ2, BK596, HB⟩ := hcut
  cases kq with
  | zero => exact absurd HA.out (by simp [sleuthlaw45_ChangepointRefuses.j0])
  | succ kj2 =>
   have H := HA.out
   clear HA
   simp only [sleuthlaw45_ChangepointRefuses.j0] at H
   by_cases c16 : x27_2 = true
   ·subst c16
    have H1 : ((sleuthlaw45_known.f kj2).bind fun t598 => (some t598)) = some r := by rw [if_pos rfl] at H; exact H
    clear H
    have H := H1
    clear H1
    replace H := Option.bind_eq_some_iff.mp H
    obtain ⟨t598, A170, H⟩ := H
    replace H : (some t598) = some r := H
    have A17 := Aside0.mk A170
    clear A170
    obtain rfl := Option.some.inj H
    go_wp2_with (first | ((with_reducible refine gate_callee (f := 13) rfl ?_); refine goesL_ (some 28) rfl rfl Try.func13 (by kernel_rfl) rfl #[] rfl qgsleuthlaw45changepointrefuses_1 ?_; (with_reducible refine (sleuthlaw45_known.calls kj2  t598 _ A17.out).mono ?_); rintro e w18 ⟨rfl, hb⟩; refine ⟨_, rfl, ?_⟩; have n0_ := Aside0.mk (blk_below (g := gb596) (o := .cells #[.string a0_0, .string a0_1, .int .i64 a0_2, .int .i64 a0_3, .int .i64 a0_4, .int .i64 a0_5, .slice A0_6 l0_6.length c0_6] 28 (0, 0)) qgsleuthlaw45changepointrefuses_3 hb); have n1_ := Aside0.mk (below_step qgsleuthlaw45changepointrefuses_0 hb); clear BK596; clear HB; have BK596 := n0_; have HB := n1_; clear n0_ n1_; (try clear hb); (try clear hb2); (try clear hk); (try clear hi)))
    go_ret
    exact ⟨qgsleuthlaw45changepointrefuses_4, qgsleuthlaw45changepointrefuses_0⟩
   ·replace c16 := Bool.eq_false_iff.mpr c16
    subst c16
    have H1 : ((changepoint_Of.f kj2 a0_0 a0_1 a0_2 a0_3 a0_4 a0_5 l0_6 a1).bind fun bt599 => ((series_Check.f kj2 a0_0 a0_1 a0_2 a0_3 a0_4 a0_5 l0_6).bind fun t603 => (if t603 = 0 then ((segmentation_Check.f kj2 l0_6 a1).bind fun t604 => (if bt599.2 = t604 then (if bt599.2 = 0 then (some true) else (some ((bt599.1.length : Int) == 0))) else (some false))) else (if bt599.2 = t603 then (if bt599.2 = 0 then (some true) else (some ((bt599.1.length : Int) == 0))) else (some false))))) = some r := by rw [if_neg (show ¬ (false = true) by decide)] at H; exact H
    clear H
    have H := H1
    clear H1
    replace H := Option.bind_eq_some_iff.mp H
    obtain ⟨⟨t599, t602⟩, A190, H⟩ := H
    replace H : ((series_Check.f kj2 a0_0 a0_1 a0_2 a0_3 a0_4 a0_5 l0_6).bind fun t603 => (if t603 = 0 then ((segmentation_Check.f kj2 l0_6 a1).bind fun t604 => (if t602 = t604 then (if t602 = 0 then (some true) else (some ((t599.length : Int) == 0))) else (some false))) else (if t602 = t603 then (if t602 = 0 then (some true) else (some ((t599.length : Int) == 0))) else (some false)))) = some r := H
    have A19 := Aside0.mk A190
    clear A190
    replace H := Option.bind_eq_some_iff.mp H
    obtain ⟨t603, A200, H⟩ := H
    replace H : (if t603 = 0 then ((segmentation_Check.f kj2 l0_6 a1).bind fun t604 => (if t602 = t604 then (if t602 = 0 then (some true) else (some ((t599.length : Int) == 0))) else (some false))) else (if t602 = t603 then (if t602 = 0 then (some true) else (some ((t599.length : Int) == 0))) else (some false))) = some r := H
    have A20 := Aside0.mk A200
    clear A200
    by_cases c21 : t603 = 0
    ·rw [if_pos c21] at H
     have c21b0 : (t603 == 0) = true := beq_iff_eq.mpr c21
     have c21b1 : (t603 != 0) = false := bne_eq_false_iff_eq.mpr c21
     clear c21
     replace H := Option.bind_eq_some_iff.mp H
     obtain ⟨t604, A220, H⟩ := H
     replace H : (if t602 = t604 then (if t602 = 0 then (some true) else (some ((t599.length : Int) == 0))) else (some false)) = some r := H
     have A22 := Aside0.mk A220
     clear A220
     by_cases c23 : t602 = t604
     ·rw [if_pos c23] at H
      have c23b0 : (t602 == t604) = true := beq_iff_eq.mpr c23
      have c23b1 : (t602 != t604) = false := bne_eq_false_iff_eq.mpr c23
      clear c23
      by_cases c24 : t602 = 0
      ·rw [if_pos c24] at H
       have c24b0 : (t602 == 0) = true := beq_iff_eq.mpr c24
       have c24b1 : (t602 != 0) = false := bne_eq_false_iff_eq.mpr c24
       clear c24
       obtain rfl := Option.some.inj H
       have hcz25_0 : wc.cell? ⟨gb596, 0, none⟩ = some (.string a0_0) := (blk_cell BK596.out 0).trans rfl
       have hcz25_1 : wc.cell? ⟨gb596, 1, none⟩ = some (.string a0_1) := (blk_cell BK596.out 1).trans rfl
       have hcz25_2 : wc.cell? ⟨gb596, 2, none⟩ = some (.int .i64 a0_2) := (blk_cell BK596.out 2).trans rfl
       have hcz25_3 : wc.cell? ⟨gb596, 3, none⟩ = some (.int .i64 a0_3) := (blk_cell BK596.out 3).trans rfl
       have hcz25_4 : wc.cell? ⟨gb596, 4, none⟩ = some (.int .i64 a0_4) := (blk_cell BK596.out 4).trans rfl
       have hcz25_5 : wc.cell? ⟨gb596, 5, none⟩ = some (.int .i64 a0_5) := (blk_cell BK596.out 5).trans rfl
       have hcz25_6 : wc.cell? ⟨gb596, 6, none⟩ = some (.slice A0_6 l0_6.length c0_6) := (blk_cell BK596.out 6).trans rfl
       have hfz25_0 := blk_frozen BK596.out 0
       have hfz25_1 := blk_frozen BK596.out 1
       have hfz25_2 := blk_frozen BK596.out 2
       have hfz25_3 := blk_frozen BK596.out 3
       have hfz25_4 := blk_frozen BK596.out 4
       have hfz25_5 := blk_frozen BK596.out 5
       have hfz25_6 := blk_frozen BK596.out 6
       go_wp2_with (first | ((with_reducible refine gate_callee (f := 15) rfl ?_); refine goesL_ (some 32) rfl rfl Try.func15 (by kernel_rfl) rfl #[.agg #[.string a0_0, .string a0_1, .int .i64 a0_2, .int .i64 a0_3, .int .i64 a0_4, .int .i64 a0_5, .slice A0_6 l0_6.length c0_6], .int .i64 a1] rfl qgsleuthlaw45changepointrefuses_1 ?_; (with_reducible refine (changepoint_Of.calls kj2 a0_0 a0_1 a0_2 a0_3 a0_4 a0_5 _ _ l0_6 a1 t599 t602 _ ?side1 ?side2 A19.out).mono ?_); (case side1 => exact qgsleuthlaw45changepointrefuses_2); (case side2 => exact HC0_6.out); rintro e w26 ⟨v600, rfl, ho0, hb⟩; refine ⟨_, rfl, ?_⟩; have n0_ := Aside0.mk (Kd.R_lower ho0 (below_size qgsleuthlaw45changepointrefuses_0)); have n1_ := Aside0.mk (blk_below (g := gb596) (o := .cells #[.string a0_0, .string a0_1, .int .i64 a0_2, .int .i64 a0_3, .int .i64 a0_4, .int .i64 a0_5, .slice A0_6 l0_6.length c0_6] 28 (0, 0)) qgsleuthlaw45changepointrefuses_3 hb); have n2_ := Aside0.mk (below_step qgsleuthlaw45changepointrefuses_0 hb); clear BK596; clear HB; have HO601 := n0_; have BK596 := n1_; have HB := n2_; clear n0_ n1_ n2_; (try clear hb); (try clear hb2); (try clear hk); (try clear hi); (try clear ho0); have hcz27_0 : w26.cell? ⟨gb596, 0, none⟩ = some (.string a0_0) := (blk_cell BK596.out 0).trans rfl; have hcz27_1 : w26.cell? ⟨gb596, 1, none⟩ = some (.string a0_1) := (blk_cell BK596.out 1).trans rfl; have hcz27_2 : w26.cell? ⟨gb596, 2, none⟩ = some (.int .i64 a0_2) := (blk_cell BK596.out 2).trans rfl; have hcz27_3 : w26.cell? ⟨gb596, 3, none⟩ = some (.int .i64 a0_3) := (blk_cell BK596.out 3).trans rfl; have hcz27_4 : w26.cell? ⟨gb596, 4, none⟩ = some (.int .i64 a0_4) := (blk_cell BK596.out 4).trans rfl; have hcz27_5 : w26.cell? ⟨gb596, 5, none⟩ = some (.int .i64 a0_5) := (blk_cell BK596.out 5).trans rfl; have hcz27_6 : w26.cell? ⟨gb596, 6, none⟩ = some (.slice A0_6 l0_6.length c0_6) := (blk_cell BK596.out 6).trans rfl; have hfz27_0 := blk_frozen BK596.out 0; have hfz27_1 := blk_frozen BK596.out 1; have hfz27_2 := blk_frozen BK596.out 2; have hfz27_3 := blk_frozen BK596.out 3; have hfz27_4 := blk_frozen BK596.out 4; have hfz27_5 := blk_frozen BK596.out 5; have hfz27_6 := blk_frozen BK596.out 6) | ((with_reducible refine gate_callee (f := 18) rfl ?_); refine goesL_ (some 36) rfl rfl Try.func18 (by kernel_rfl) rfl #[.agg #[.string a0_0, .string a0_1, .int .i64 a0_2, .int .i64 a0_3, .int .i64 a0_4, .int .i64 a0_5, .slice A0_6 l0_6.length c0_6]] rfl qgsleuthlaw45changepointrefuses_1 ?_; (with_reducible refine (series_Check.calls kj2 a0_0 a0_1 a0_2 a0_3 a0_4 a0_5 _ _ l0_6 t603 _ ?side1 ?side2 A20.out).mono ?_); (case side1 => exact qgsleuthlaw45changepointrefuses_2); (case side2 => exact HC0_6.out); rintro e w28 ⟨rfl, hb⟩; refine ⟨_, rfl, ?_⟩; have n0_ := Aside0.mk (Kd.R_below qgsleuthlaw45changepointrefuses_5 hb); have n1_ := Aside0.mk (blk_below (g := gb596) (o := .cells #[.string a0_0, .string a0_1, .int .i64 a0_2, .int .i64 a0_3, .int .i64 a0_4, .int .i64 a0_5, .slice A0_6 l0_6.length c0_6] 28 (0, 0)) qgsleuthlaw45changepointrefuses_3 hb); have n2_ := Aside0.mk (below_step qgsleuthlaw45changepointrefuses_0 hb); clear HO601; clear BK596; clear HB; have HO601 := n0_; have BK596 := n1_; have HB := n2_; clear n0_ n1_ n2_; (try clear hb); (try clear hb2); (try clear hk); (try clear hi); have hcz29_0 : w28.cell? ⟨gb596, 0, none⟩ = some (.string a0_0) := (blk_cell BK596.out 0).trans rfl; have hcz29_1 : w28.cell? ⟨gb596, 1, none⟩ = some (.string a0_1) := (blk_cell BK596.out 1).trans rfl; have hcz29_2 : w28.cell? ⟨gb596, 2, none⟩ = some (.int .i64 a0_2) := (blk_cell BK596.out 2).trans rfl; have hcz29_3 : w28.cell? ⟨gb596, 3, none⟩ = some (.int .i64 a0_3) := (blk_cell BK596.out 3).trans rfl; have hcz29_4 : w28.cell? ⟨gb596, 4, none⟩ = some (.int .i64 a0_4) := (blk_cell BK596.out 4).trans rfl; have hcz29_5 : w28.cell? ⟨gb596, 5, none⟩ = some (.int .i64 a0_5) := (blk_cell BK596.out 5).trans rfl; have hcz29_6 : w28.cell? ⟨gb596, 6, none⟩ = some (.slice A0_6 l0_6.length c0_6) := (blk_cell BK596.out 6).trans rfl; have hfz29_0 := blk_frozen BK596.out 0; have hfz29_1 := blk_frozen BK596.out 1; have hfz29_2 := blk_frozen BK596.out 2; have hfz29_3 := blk_frozen BK596.out 3; have hfz29_4 := blk_frozen BK596.out 4; have hfz29_5 := blk_frozen BK596.out 5; have hfz29_6 := blk_frozen BK596.out 6) | ((with_reducible refine gate_callee (f := 19) rfl ?_); refine goesL_ (some 42) rfl rfl Try.func19 (by kernel_rfl) rfl #[.slice A0_6 l0_6.length c0_6, .int .i64 a1] rfl qgsleuthlaw45changepointrefuses_1 ?_; (with_reducible refine (segmentation_Check.calls kj2 _ _ l0_6 a1 t604 _ ?side1 ?side2 A22.out).mono ?_); (case side1 => exact qgsleuthlaw45changepointrefuses_2); (case side2 => exact HC0_6.out); rintro e w' ⟨rfl, ⟨nd, rfl⟩⟩; refine ⟨_, rfl, ?_⟩))
       go_ret
       exact ⟨qgsleuthlaw45changepointrefuses_4, qgsleuthlaw45changepointrefuses_0⟩
      ·rw [if_neg c24] at H
       have c24b0 : (t602 == 0) = false := beq_eq_false_iff_ne.mpr c24
       have c24b1 : (t602 != 0) = true := bne_iff_ne.mpr c24
       obtain rfl := Option.some.inj H
       have hcz30_0 : wc.cell? ⟨gb596, 0, none⟩ = some (.string a0_0) := (blk_cell BK596.out 0).trans rfl
       have hcz30_1 : wc.cell? ⟨gb596, 1, none⟩ = some (.string a0_1) := (blk_cell BK596.out 1).trans rfl
       have hcz30_2 : wc.cell? ⟨gb596, 2, none⟩ = some (.int .i64 a0_2) := (blk_cell BK596.out 2).trans rfl
       have hcz30_3 : wc.cell? ⟨gb596, 3, none⟩ = some (.int .i64 a0_3) := (blk_cell BK596.out 3).trans rfl
       have hcz30_4 : wc.cell? ⟨gb596, 4, none⟩ = some (.int .i64 a0_4) := (blk_cell BK596.out 4).trans rfl
       have hcz30_5 : wc.cell? ⟨gb596, 5, none⟩ = some (.int .i64 a0_5) := (blk_cell BK596.out 5).trans rfl
       have hcz30_6 : wc.cell? ⟨gb596, 6, none⟩ = some (.slice A0_6 l0_6.length c0_6) := (blk_cell BK596.out 6).trans rfl
       have hfz30_0 := blk_frozen BK596.out 0
       have hfz30_1 := blk_frozen BK596.out 1
       have hfz30_2 := blk_frozen BK596.out 2
       have hfz30_3 := blk_frozen BK596.out 3
       have hfz30_4 := blk_frozen BK596.out 4
       have hfz30_5 := blk_frozen BK596.out 5
       have hfz30_6 := blk_frozen BK596.out 6
       go_wp2_with (first | ((with_reducible refine gate_callee (f := 15) rfl ?_); refine goesL_ (some 32) rfl rfl Try.func15 (by kernel_rfl) rfl #[.agg #[.string a0_0, .string a0_1, .int .i64 a0_2, .int .i64 a0_3, .int .i64 a0_4, .int .i64 a0_5, .slice A0_6 l0_6.length c0_6], .int .i64 a1] rfl qgsleuthlaw45changepointrefuses_1 ?_; (with_reducible refine (changepoint_Of.calls kj2 a0_0 a0_1 a0_2 a0_3 a0_4 a0_5 _ _ l0_6 a1 t599 t602 _ ?side1 ?side2 A19.out).mono ?_); (case side1 => exact qgsleuthlaw45changepointrefuses_2); (case side2 => exact HC0_6.out); rintro e w31 ⟨v600, rfl, ho0, hb⟩; refine ⟨_, rfl, ?_⟩; have n0_ := Aside0.mk (Kd.R_lower ho0 (below_size qgsleuthlaw45changepointrefuses_0)); have n1_ := Aside0.mk (blk_below (g := gb596) (o := .cells #[.string a0_0, .string a0_1, .int .i64 a0_2, .int .i64 a0_3, .int .i64 a0_4, .int .i64 a0_5, .slice A0_6 l0_6.length c0_6] 28 (0, 0)) qgsleuthlaw45changepointrefuses_3 hb); have n2_ := Aside0.mk (below_step qgsleuthlaw45changepointrefuses_0 hb); clear BK596; clear HB; have HO601 := n0_; have BK596 := n1_; have HB := n2_; clear n0_ n1_ n2_; (try clear hb); (try clear hb2); (try clear hk); (try clear hi); (try clear ho0); have hcz32_0 : w31.cell? ⟨gb596, 0, none⟩ = some (.string a0_0) := (blk_cell BK596.out 0).trans rfl; have hcz32_1 : w31.cell? ⟨gb596, 1, none⟩ = some (.string a0_1) := (blk_cell BK596.out 1).trans rfl; have hcz32_2 : w31.cell? ⟨gb596, 2, none⟩ = some (.int .i64 a0_2) := (blk_cell BK596.out 2).trans rfl; have hcz32_3 : w31.cell? ⟨gb596, 3, none⟩ = some (.int .i64 a0_3) := (blk_cell BK596.out 3).trans rfl; have hcz32_4 : w31.cell? ⟨gb596, 4, none⟩ = some (.int .i64 a0_4) := (blk_cell BK596.out 4).trans rfl; have hcz32_5 : w31.cell? ⟨gb596, 5, none⟩ = some (.int .i64 a0_5) := (blk_cell BK596.out 5).trans rfl; have hcz32_6 : w31.cell? ⟨gb596, 6, none⟩ = some (.slice A0_6 l0_6.length c0_6) := (blk_cell BK596.out 6).trans rfl; have hfz32_0 := blk_frozen BK596.out 0; have hfz32_1 := blk_frozen BK596.out 1; have hfz32_2 := blk_frozen BK596.out 2; have hfz32_3 := blk_frozen BK596.out 3; have hfz32_4 := blk_frozen BK596.out 4; have hfz32_5 := blk_frozen BK596.out 5; have hfz32_6 := blk_frozen BK596.out 6) | ((with_reducible refine gate_callee (f := 18) rfl ?_); refine goesL_ (some 36) rfl rfl Try.func18 (by kernel_rfl) rfl #[.agg #[.string a0_0, .string a0_1, .int .i64 a0_2, .int .i64 a0_3, .int .i64 a0_4, .int .i64 a0_5, .slice A0_6 l0_6.length c0_6]] rfl qgsleuthlaw45changepointrefuses_1 ?_; (with_reducible refine (series_Check.calls kj2 a0_0 a0_1 a0_2 a0_3 a0_4 a0_5 _ _ l0_6 t603 _ ?side1 ?side2 A20.out).mono ?_); (case side1 => exact qgsleuthlaw45changepointrefuses_2); (case side2 => exact HC0_6.out); rintro e w33 ⟨rfl, hb⟩; refine ⟨_, rfl, ?_⟩; have n0_ := Aside0.mk (Kd.R_below qgsleuthlaw45changepointrefuses_5 hb); have n1_ := Aside0.mk (blk_below (g := gb596) (o := .cells #[.string a0_0, .string a0_1, .int .i64 a0_2, .int .i64 a0_3, .int .i64 a0_4, .int .i64 a0_5, .slice A0_6 l0_6.length c0_6] 28 (0, 0)) qgsleuthlaw45changepointrefuses_3 hb); have n2_ := Aside0.mk (below_step qgsleuthlaw45changepointrefuses_0 hb); clear HO601; clear BK596; clear HB; have HO601 := n0_; have BK596 := n1_; have HB := n2_; clear n0_ n1_ n2_; (try clear hb); (try clear hb2); (try clear hk); (try clear hi); have hcz34_0 : w33.cell? ⟨gb596, 0, none⟩ = some (.string a0_0) := (blk_cell BK596.out 0).trans rfl; have hcz34_1 : w33.cell? ⟨gb596, 1, none⟩ = some (.string a0_1) := (blk_cell BK596.out 1).trans rfl; have hcz34_2 : w33.cell? ⟨gb596, 2, none⟩ = some (.int .i64 a0_2) := (blk_cell BK596.out 2).trans rfl; have hcz34_3 : w33.cell? ⟨gb596, 3, none⟩ = some (.int .i64 a0_3) := (blk_cell BK596.out 3).trans rfl; have hcz34_4 : w33.cell? ⟨gb596, 4, none⟩ = some (.int .i64 a0_4) := (blk_cell BK596.out 4).trans rfl; have hcz34_5 : w33.cell? ⟨gb596, 5, none⟩ = some (.int .i64 a0_5) := (blk_cell BK596.out 5).trans rfl; have hcz34_6 : w33.cell? ⟨gb596, 6, none⟩ = some (.slice A0_6 l0_6.length c0_6) := (blk_cell BK596.out 6).trans rfl; have hfz34_0 := blk_frozen BK596.out 0; have hfz34_1 := blk_frozen BK596.out 1; have hfz34_2 := blk_frozen BK596.out 2; have hfz34_3 := blk_frozen BK596.out 3; have hfz34_4 := blk_frozen BK596.out 4; have hfz34_5 := blk_frozen BK596.out 5; have hfz34_6 := blk_frozen BK596.out 6) | ((with_reducible refine gate_callee (f := 19) rfl ?_); refine goesL_ (some 42) rfl rfl Try.func19 (by kernel_rfl) rfl #[.slice A0_6 l0_6.length c0_6, .int .i64 a1] rfl qgsleuthlaw45changepointrefuses_1 ?_; (with_reducible refine (segmentation_Check.calls kj2 _ _ l0_6 a1 t604 _ ?side1 ?side2 A22.out).mono ?_); (case side1 => exact qgsleuthlaw45changepointrefuses_2); (case side2 => exact HC0_6.out); rintro e w' ⟨rfl, ⟨nd, rfl⟩⟩; refine ⟨_, rfl, ?_⟩; obtain ⟨Ao35, co35, eo35⟩ := Kd.R_slice HO601.out; subst eo35))
       go_ret
       exact ⟨qgsleuthlaw45changepointrefuses_4, qgsleuthlaw45changepointrefuses_0⟩
     ·rw [if_neg c23] at H
      have c23b0 : (t602 == t604) = false := beq_eq_false_iff_ne.mpr c23
      have c23b1 : (t602 != t604) = true := bne_iff_ne.mpr c23
      obtain rfl := Option.some.inj H
      have hcz36_0 : wc.cell? ⟨gb596, 0, none⟩ = some (.string a0_0) := (blk_cell BK596.out 0).trans rfl
      have hcz36_1 : wc.cell? ⟨gb596, 1, none⟩ = some (.string a0_1) := (blk_cell BK596.out 1).trans rfl
      have hcz36_2 : wc.cell? ⟨gb596, 2, none⟩ = some (.int .i64 a0_2) := (blk_cell BK596.out 2).trans rfl
      have hcz36_3 : wc.cell? ⟨gb596, 3, none⟩ = some (.int .i64 a0_3) := (blk_cell BK596.out 3).trans rfl
      have hcz36_4 : wc.cell? ⟨gb596, 4, none⟩ = some (.int .i64 a0_4) := (blk_cell BK596.out 4).trans rfl
      have hcz36_5 : wc.cell? ⟨gb596, 5, none⟩ = some (.int .i64 a0_5) := (blk_cell BK596.out 5).trans rfl
      have hcz36_6 : wc.cell? ⟨gb596, 6, none⟩ = some (.slice A0_6 l0_6.length c0_6) := (blk_cell BK596.out 6).trans rfl
      have hfz36_0 := blk_frozen BK596.out 0
      have hfz36_1 := blk_frozen BK596.out 1
      have hfz36_2 := blk_frozen BK596.out 2
      have hfz36_3 := blk_frozen BK596.out 3
      have hfz36_4 := blk_frozen BK596.out 4
      have hfz36_5 := blk_frozen BK596.out 5
      have hfz36_6 := blk_frozen BK596.out 6
      go_wp2_with (first | ((with_reducible refine gate_callee (f := 15) rfl ?_); refine goesL_ (some 32) rfl rfl Try.func15 (by kernel_rfl) rfl #[.agg #[.string a0_0, .string a0_1, .int .i64 a0_2, .int .i64 a0_3, .int .i64 a0_4, .int .i64 a0_5, .slice A0_6 l0_6.length c0_6], .int .i64 a1] rfl qgsleuthlaw45changepointrefuses_1 ?_; (with_reducible refine (changepoint_Of.calls kj2 a0_0 a0_1 a0_2 a0_3 a0_4 a0_5 _ _ l0_6 a1 t599 t602 _ ?side1 ?side2 A19.out).mono ?_); (case side1 => exact qgsleuthlaw45changepointrefuses_2); (case side2 => exact HC0_6.out); rintro e w37 ⟨v600, rfl, ho0, hb⟩; refine ⟨_, rfl, ?_⟩; have n0_ := Aside0.mk (Kd.R_lower ho0 (below_size qgsleuthlaw45changepointrefuses_0)); have n1_ := Aside0.mk (blk_below (g := gb596) (o := .cells #[.string a0_0, .string a0_1, .int .i64 a0_2, .int .i64 a0_3, .int .i64 a0_4, .int .i64 a0_5, .slice A0_6 l0_6.length c0_6] 28 (0, 0)) qgsleuthlaw45changepointrefuses_3 hb); have n2_ := Aside0.mk (below_step qgsleuthlaw45changepointrefuses_0 hb); clear BK596; clear HB; have HO601 := n0_; have BK596 := n1_; have HB := n2_; clear n0_ n1_ n2_; (try clear hb); (try clear hb2); (try clear hk); (try clear hi); (try clear ho0); have hcz38_0 : w37.cell? ⟨gb596, 0, none⟩ = some (.string a0_0) := (blk_cell BK596.out 0).trans rfl; have hcz38_1 : w37.cell? ⟨gb596, 1, none⟩ = some (.string a0_1) := (blk_cell BK596.out 1).trans rfl; have hcz38_2 : w37.cell? ⟨gb596, 2, none⟩ = some (.int .i64 a0_2) := (blk_cell BK596.out 2).trans rfl; have hcz38_3 : w37.cell? ⟨gb596, 3, none⟩ = some (.int .i64 a0_3) := (blk_cell BK596.out 3).trans rfl; have hcz38_4 : w37.cell? ⟨gb596, 4, none⟩ = some (.int .i64 a0_4) := (blk_cell BK596.out 4).trans rfl; have hcz38_5 : w37.cell? ⟨gb596, 5, none⟩ = some (.int .i64 a0_5) := (blk_cell BK596.out 5).trans rfl; have hcz38_6 : w37.cell? ⟨gb596, 6, none⟩ = some (.slice A0_6 l0_6.length c0_6) := (blk_cell BK596.out 6).trans rfl; have hfz38_0 := blk_frozen BK596.out 0; have hfz38_1 := blk_frozen BK596.out 1; have hfz38_2 := blk_frozen BK596.out 2; have hfz38_3 := blk_frozen BK596.out 3; have hfz38_4 := blk_frozen BK596.out 4; have hfz38_5 := blk_frozen BK596.out 5; have hfz38_6 := blk_frozen BK596.out 6) | ((with_reducible refine gate_callee (f := 18) rfl ?_); refine goesL_ (some 36) rfl rfl Try.func18 (by kernel_rfl) rfl #[.agg #[.string a0_0, .string a0_1, .int .i64 a0_2, .int .i64 a0_3, .int .i64 a0_4, .int .i64 a0_5, .slice A0_6 l0_6.length c0_6]] rfl qgsleuthlaw45changepointrefuses_1 ?_; (with_reducible refine (series_Check.calls kj2 a0_0 a0_1 a0_2 a0_3 a0_4 a0_5 _ _ l0_6 t603 _ ?side1 ?side2 A20.out).mono ?_); (case side1 => exact qgsleuthlaw45changepointrefuses_2); (case side2 => exact HC0_6.out); rintro e w39 ⟨rfl, hb⟩; refine ⟨_, rfl, ?_⟩; have n0_ := Aside0.mk (Kd.R_below qgsleuthlaw45changepointrefuses_5 hb); have n1_ := Aside0.mk (blk_below (g := gb596) (o := .cells #[.string a0_0, .string a0_1, .int .i64 a0_2, .int .i64 a0_3, .int .i64 a0_4, .int .i64 a0_5, .slice A0_6 l0_6.length c0_6] 28 (0, 0)) qgsleuthlaw45changepointrefuses_3 hb); have n2_ := Aside0.mk (below_step qgsleuthlaw45changepointrefuses_0 hb); clear HO601; clear BK596; clear HB; have HO601 := n0_; have BK596 := n1_; have HB := n2_; clear n0_ n1_ n2_; (try clear hb); (try clear hb2); (try clear hk); (try clear hi); have hcz40_0 : w39.cell? ⟨gb596, 0, none⟩ = some (.string a0_0) := (blk_cell BK596.out 0).trans rfl; have hcz40_1 : w39.cell? ⟨gb596, 1, none⟩ = some (.string a0_1) := (blk_cell BK596.out 1).trans rfl; have hcz40_2 : w39.cell? ⟨gb596, 2, none⟩ = some (.int .i64 a0_2) := (blk_cell BK596.out 2).trans rfl; have hcz40_3 : w39.cell? ⟨gb596, 3, none⟩ = some (.int .i64 a0_3) := (blk_cell BK596.out 3).trans rfl; have hcz40_4 : w39.cell? ⟨gb596, 4, none⟩ = some (.int .i64 a0_4) := (blk_cell BK596.out 4).trans rfl; have hcz40_5 : w39.cell? ⟨gb596, 5, none⟩ = some (.int .i64 a0_5) := (blk_cell BK596.out 5).trans rfl; have hcz40_6 : w39.cell? ⟨gb596, 6, none⟩ = some (.slice A0_6 l0_6.length c0_6) := (blk_cell BK596.out 6).trans rfl; have hfz40_0 := blk_frozen BK596.out 0; have hfz40_1 := blk_frozen BK596.out 1; have hfz40_2 := blk_frozen BK596.out 2; have hfz40_3 := blk_frozen BK596.out 3; have hfz40_4 := blk_frozen BK596.out 4; have hfz40_5 := blk_frozen BK596.out 5; have hfz40_6 := blk_frozen BK596.out 6) | ((with_reducible refine gate_callee (f := 19) rfl ?_); refine goesL_ (some 42) rfl rfl Try.func19 (by kernel_rfl) rfl #[.slice A0_6 l0_6.length c0_6, .int .i64 a1] rfl qgsleuthlaw45changepointrefuses_1 ?_; (with_reducible refine (segmentation_Check.calls kj2 _ _ l0_6 a1 t604 _ ?side1 ?side2 A22.out).mono ?_); (case side1 => exact qgsleuthlaw45changepointrefuses_2); (case side2 => exact HC0_6.out); rintro e w' ⟨rfl, ⟨nd, rfl⟩⟩; refine ⟨_, rfl, ?_⟩))
      go_ret
      exact ⟨qgsleuthlaw45changepointrefuses_4, qgsleuthlaw45changepointrefuses_0⟩
    ·rw [if_neg c21] at H
     have c21b0 : (t603 == 0) = false := beq_eq_false_iff_ne.mpr c21
     have c21b1 : (t603 != 0) = true := bne_iff_ne.mpr c21
     by_cases c41 : t602 = t603
     ·rw [if_pos c41] at H
      have c41b0 : (t602 == t603) = true := beq_iff_eq.mpr c41
      have c41b1 : (t602 != t603) = false := bne_eq_false_iff_eq.mpr c41
      clear c41
      by_cases c42 : t602 = 0
      ·rw [if_pos c42] at H
       have c42b0 : (t602 == 0) = true := beq_iff_eq.mpr c42
       have c42b1 : (t602 != 0) = false := bne_eq_false_iff_eq.mpr c42
       clear c42
       obtain rfl := Option.some.inj H
       have hcz43_0 : wc.cell? ⟨gb596, 0, none⟩ = some (.string a0_0) := (blk_cell BK596.out 0).trans rfl
       have hcz43_1 : wc.cell? ⟨gb596, 1, none⟩ = some (.string a0_1) := (blk_cell BK596.out 1).trans rfl
       have hcz43_2 : wc.cell? ⟨gb596, 2, none⟩ = some (.int .i64 a0_2) := (blk_cell BK596.out 2).trans rfl
       have hcz43_3 : wc.cell? ⟨gb596, 3, none⟩ = some (.int .i64 a0_3) := (blk_cell BK596.out 3).trans rfl
       have hcz43_4 : wc.cell? ⟨gb596, 4, none⟩ = some (.int .i64 a0_4) := (blk_cell BK596.out 4).trans rfl
       have hcz43_5 : wc.cell? ⟨gb596, 5, none⟩ = some (.int .i64 a0_5) := (blk_cell BK596.out 5).trans rfl
       have hcz43_6 : wc.cell? ⟨gb596, 6, none⟩ = some (.slice A0_6 l0_6.length c0_6) := (blk_cell BK596.out 6).trans rfl
       have hfz43_0 := blk_frozen BK596.out 0
       have hfz43_1 := blk_frozen BK596.out 1
       have hfz43_2 := blk_frozen BK596.out 2
       have hfz43_3 := blk_frozen BK596.out 3
       have hfz43_4 := blk_frozen BK596.out 4
       have hfz43_5 := blk_frozen BK596.out 5
       have hfz43_6 := blk_frozen BK596.out 6
       go_wp2_with (first | ((with_reducible refine gate_callee (f := 15) rfl ?_); refine goesL_ (some 32) rfl rfl Try.func15 (by kernel_rfl) rfl #[.agg #[.string a0_0, .string a0_1, .int .i64 a0_2, .int .i64 a0_3, .int .i64 a0_4, .int .i64 a0_5, .slice A0_6 l0_6.length c0_6], .int .i64 a1] rfl qgsleuthlaw45changepointrefuses_1 ?_; (with_reducible refine (changepoint_Of.calls kj2 a0_0 a0_1 a0_2 a0_3 a0_4 a0_5 _ _ l0_6 a1 t599 t602 _ ?side1 ?side2 A19.out).mono ?_); (case side1 => exact qgsleuthlaw45changepointrefuses_2); (case side2 => exact HC0_6.out); rintro e w44 ⟨v600, rfl, ho0, hb⟩; refine ⟨_, rfl, ?_⟩; have n0_ := Aside0.mk (Kd.R_lower ho0 (below_size qgsleuthlaw45changepointrefuses_0)); have n1_ := Aside0.mk (blk_below (g := gb596) (o := .cells #[.string a0_0, .string a0_1, .int .i64 a0_2, .int .i64 a0_3, .int .i64 a0_4, .int .i64 a0_5, .slice A0_6 l0_6.length c0_6] 28 (0, 0)) qgsleuthlaw45changepointrefuses_3 hb); have n2_ := Aside0.mk (below_step qgsleuthlaw45changepointrefuses_0 hb); clear BK596; clear HB; have HO601 := n0_; have BK596 := n1_; have HB := n2_; clear n0_ n1_ n2_; (try clear hb); (try clear hb2); (try clear hk); (try clear hi); (try clear ho0); have hcz45_0 : w44.cell? ⟨gb596, 0, none⟩ = some (.string a0_0) := (blk_cell BK596.out 0).trans rfl; have hcz45_1 : w44.cell? ⟨gb596, 1, none⟩ = some (.string a0_1) := (blk_cell BK596.out 1).trans rfl; have hcz45_2 : w44.cell? ⟨gb596, 2, none⟩ = some (.int .i64 a0_2) := (blk_cell BK596.out 2).trans rfl; have hcz45_3 : w44.cell? ⟨gb596, 3, none⟩ = some (.int .i64 a0_3) := (blk_cell BK596.out 3).trans rfl; have hcz45_4 : w44.cell? ⟨gb596, 4, none⟩ = some (.int .i64 a0_4) := (blk_cell BK596.out 4).trans rfl; have hcz45_5 : w44.cell? ⟨gb596, 5, none⟩ = some (.int .i64 a0_5) := (blk_cell BK596.out 5).trans rfl; have hcz45_6 : w44.cell? ⟨gb596, 6, none⟩ = some (.slice A0_6 l0_6.length c0_6) := (blk_cell BK596.out 6).trans rfl; have hfz45_0 := blk_frozen BK596.out 0; have hfz45_1 := blk_frozen BK596.out 1; have hfz45_2 := blk_frozen BK596.out 2; have hfz45_3 := blk_frozen BK596.out 3; have hfz45_4 := blk_frozen BK596.out 4; have hfz45_5 := blk_frozen BK596.out 5; have hfz45_6 := blk_frozen BK596.out 6) | ((with_reducible refine gate_callee (f := 18) rfl ?_); refine goesL_ (some 36) rfl rfl Try.func18 (by kernel_rfl) rfl #[.agg #[.string a0_0, .string a0_1, .int .i64 a0_2, .int .i64 a0_3, .int .i64 a0_4, .int .i64 a0_5, .slice A0_6 l0_6.length c0_6]] rfl qgsleuthlaw45changepointrefuses_1 ?_; (with_reducible refine (series_Check.calls kj2 a0_0 a0_1 a0_2 a0_3 a0_4 a0_5 _ _ l0_6 t603 _ ?side1 ?side2 A20.out).mono ?_); (case side1 => exact qgsleuthlaw45changepointrefuses_2); (case side2 => exact HC0_6.out); rintro e w46 ⟨rfl, hb⟩; refine ⟨_, rfl, ?_⟩; have n0_ := Aside0.mk (Kd.R_below qgsleuthlaw45changepointrefuses_5 hb); have n1_ := Aside0.mk (blk_below (g := gb596) (o := .cells #[.string a0_0, .string a0_1, .int .i64 a0_2, .int .i64 a0_3, .int .i64 a0_4, .int .i64 a0_5, .slice A0_6 l0_6.length c0_6] 28 (0, 0)) qgsleuthlaw45changepointrefuses_3 hb); have n2_ := Aside0.mk (below_step qgsleuthlaw45changepointrefuses_0 hb); clear HO601; clear BK596; clear HB; have HO601 := n0_; have BK596 := n1_; have HB := n2_; clear n0_ n1_ n2_; (try clear hb); (try clear hb2); (try clear hk); (try clear hi)))
       go_ret
       exact ⟨qgsleuthlaw45changepointrefuses_4, qgsleuthlaw45changepointrefuses_0⟩
      ·rw [if_neg c42] at H
       have c42b0 : (t602 == 0) = false := beq_eq_false_iff_ne.mpr c42
       have c42b1 : (t602 != 0) = true := bne_iff_ne.mpr c42
       obtain rfl := Option.some.inj H
       have hcz47_0 : wc.cell? ⟨gb596, 0, none⟩ = some (.string a0_0) := (blk_cell BK596.out 0).trans rfl
       have hcz47_1 : wc.cell? ⟨gb596, 1, none⟩ = some (.string a0_1) := (blk_cell BK596.out 1).trans rfl
       have hcz47_2 : wc.cell? ⟨gb596, 2, none⟩ = some (.int .i64 a0_2) := (blk_cell BK596.out 2).trans rfl
       have hcz47_3 : wc.cell? ⟨gb596, 3, none⟩ = some (.int .i64 a0_3) := (blk_cell BK596.out 3).trans rfl
       have hcz47_4 : wc.cell? ⟨gb596, 4, none⟩ = some (.int .i64 a0_4) := (blk_cell BK596.out 4).trans rfl
       have hcz47_5 : wc.cell? ⟨gb596, 5, none⟩ = some (.int .i64 a0_5) := (blk_cell BK596.out 5).trans rfl
       have hcz47_6 : wc.cell? ⟨gb596, 6, none⟩ = some (.slice A0_6 l0_6.length c0_6) := (blk_cell BK596.out 6).trans rfl
       have hfz47_0 := blk_frozen BK596.out 0
       have hfz47_1 := blk_frozen BK596.out 1
       have hfz47_2 := blk_frozen BK596.out 2
       have hfz47_3 := blk_frozen BK596.out 3
       have hfz47_4 := blk_frozen BK596.out 4
       have hfz47_5 := blk_frozen BK596.out 5
       have hfz47_6 := blk_frozen BK596.out 6
       go_wp2_with (first | ((with_reducible refine gate_callee (f := 15) rfl ?_); refine goesL_ (some 32) rfl rfl Try.func15 (by kernel_rfl) rfl #[.agg #[.string a0_0, .string a0_1, .int .i64 a0_2, .int .i64 a0_3, .int .i64 a0_4, .int .i64 a0_5, .slice A0_6 l0_6.length c0_6], .int .i64 a1] rfl qgsleuthlaw45changepointrefuses_1 ?_; (with_reducible refine (changepoint_Of.calls kj2 a0_0 a0_1 a0_2 a0_3 a0_4 a0_5 _ _ l0_6 a1 t599 t602 _ ?side1 ?side2 A19.out).mono ?_); (case side1 => exact qgsleuthlaw45changepointrefuses_2); (case side2 => exact HC0_6.out); rintro e w48 ⟨v600, rfl, ho0, hb⟩; refine ⟨_, rfl, ?_⟩; have n0_ := Aside0.mk (Kd.R_lower ho0 (below_size qgsleuthlaw45changepointrefuses_0)); have n1_ := Aside0.mk (blk_below (g := gb596) (o := .cells #[.string a0_0, .string a0_1, .int .i64 a0_2, .int .i64 a0_3, .int .i64 a0_4, .int .i64 a0_5, .slice A0_6 l0_6.length c0_6] 28 (0, 0)) qgsleuthlaw45changepointrefuses_3 hb); have n2_ := Aside0.mk (below_step qgsleuthlaw45changepointrefuses_0 hb); clear BK596; clear HB; have HO601 := n0_; have BK596 := n1_; have HB := n2_; clear n0_ n1_ n2_; (try clear hb); (try clear hb2); (try clear hk); (try clear hi); (try clear ho0); have hcz49_0 : w48.cell? ⟨gb596, 0, none⟩ = some (.string a0_0) := (blk_cell BK596.out 0).trans rfl; have hcz49_1 : w48.cell? ⟨gb596, 1, none⟩ = some (.string a0_1) := (blk_cell BK596.out 1).trans rfl; have hcz49_2 : w48.cell? ⟨gb596, 2, none⟩ = some (.int .i64 a0_2) := (blk_cell BK596.out 2).trans rfl; have hcz49_3 : w48.cell? ⟨gb596, 3, none⟩ = some (.int .i64 a0_3) := (blk_cell BK596.out 3).trans rfl; have hcz49_4 : w48.cell? ⟨gb596, 4, none⟩ = some (.int .i64 a0_4) := (blk_cell BK596.out 4).trans rfl; have hcz49_5 : w48.cell? ⟨gb596, 5, none⟩ = some (.int .i64 a0_5) := (blk_cell BK596.out 5).trans rfl; have hcz49_6 : w48.cell? ⟨gb596, 6, none⟩ = some (.slice A0_6 l0_6.length c0_6) := (blk_cell BK596.out 6).trans rfl; have hfz49_0 := blk_frozen BK596.out 0; have hfz49_1 := blk_frozen BK596.out 1; have hfz49_2 := blk_frozen BK596.out 2; have hfz49_3 := blk_frozen BK596.out 3; have hfz49_4 := blk_frozen BK596.out 4; have hfz49_5 := blk_frozen BK596.out 5; have hfz49_6 := blk_frozen BK596.out 6) | ((with_reducible refine gate_callee (f := 18) rfl ?_); refine goesL_ (some 36) rfl rfl Try.func18 (by kernel_rfl) rfl #[.agg #[.string a0_0, .string a0_1, .int .i64 a0_2, .int .i64 a0_3, .int .i64 a0_4, .int .i64 a0_5, .slice A0_6 l0_6.length c0_6]] rfl qgsleuthlaw45changepointrefuses_1 ?_; (with_reducible refine (series_Check.calls kj2 a0_0 a0_1 a0_2 a0_3 a0_4 a0_5 _ _ l0_6 t603 _ ?side1 ?side2 A20.out).mono ?_); (case side1 => exact qgsleuthlaw45changepointrefuses_2); (case side2 => exact HC0_6.out); rintro e w50 ⟨rfl, hb⟩; refine ⟨_, rfl, ?_⟩; have n0_ := Aside0.mk (Kd.R_below qgsleuthlaw45changepointrefuses_5 hb); have n1_ := Aside0.mk (blk_below (g := gb596) (o := .cells #[.string a0_0, .string a0_1, .int .i64 a0_2, .int .i64 a0_3, .int .i64 a0_4, .int .i64 a0_5, .slice A0_6 l0_6.length c0_6] 28 (0, 0)) qgsleuthlaw45changepointrefuses_3 hb); have n2_ := Aside0.mk (below_step qgsleuthlaw45changepointrefuses_0 hb); clear HO601; clear BK596; clear HB; have HO601 := n0_; have BK596 := n1_; have HB := n2_; clear n0_ n1_ n2_; (try clear hb); (try clear hb2); (try clear hk); (try clear hi); obtain ⟨Ao51, co51, eo51⟩ := Kd.R_slice HO601.out; subst eo51))
       go_ret
       exact ⟨qgsleuthlaw45changepointrefuses_4, qgsleuthlaw45changepointrefuses_0⟩
     ·rw [if_neg c41] at H
      have c41b0 : (t602 == t603) = false := beq_eq_false_iff_ne.mpr c41
      have c41b1 : (t602 != t603) = true := bne_iff_ne.mpr c41
      obtain rfl := Option.some.inj H
      have hcz52_0 : wc.cell? ⟨gb596, 0, none⟩ = some (.string a0_0) := (blk_cell BK596.out 0).trans rfl
      have hcz52_1 : wc.cell? ⟨gb596, 1, none⟩ = some (.string a0_1) := (blk_cell BK596.out 1).trans rfl
      have hcz52_2 : wc.cell? ⟨gb596, 2, none⟩ = some (.int .i64 a0_2) := (blk_cell BK596.out 2).trans rfl
      have hcz52_3 : wc.cell? ⟨gb596, 3, none⟩ = some (.int .i64 a0_3) := (blk_cell BK596.out 3).trans rfl
      have hcz52_4 : wc.cell? ⟨gb596, 4, none⟩ = some (.int .i64 a0_4) := (blk_cell BK596.out 4).trans rfl
      have hcz52_5 : wc.cell? ⟨gb596, 5, none⟩ = some (.int .i64 a0_5) := (blk_cell BK596.out 5).trans rfl
      have hcz52_6 : wc.cell? ⟨gb596, 6, none⟩ = some (.slice A0_6 l0_6.length c0_6) := (blk_cell BK596.out 6).trans rfl
      have hfz52_0 := blk_frozen BK596.out 0
      have hfz52_1 := blk_frozen BK596.out 1
      have hfz52_2 := blk_frozen BK596.out 2
      have hfz52_3 := blk_frozen BK596.out 3
      have hfz52_4 := blk_frozen BK596.out 4
      have hfz52_5 := blk_frozen BK596.out 5
      have hfz52_6 := blk_frozen BK596.out 6
      go_wp2_with (first | ((with_reducible refine gate_callee (f := 15) rfl ?_); refine goesL_ (some 32) rfl rfl Try.func15 (by kernel_rfl) rfl #[.agg #[.string a0_0, .string a0_1, .int .i64 a0_2, .int .i64 a0_3, .int .i64 a0_4, .int .i64 a0_5, .slice A0_6 l0_6.length c0_6], .int .i64 a1] rfl qgsleuthlaw45changepointrefuses_1 ?_; (with_reducible refine (changepoint_Of.calls kj2 a0_0 a0_1 a0_2 a0_3 a0_4 a0_5 _ _ l0_6 a1 t599 t602 _ ?side1 ?side2 A19.out).mono ?_); (case side1 => exact qgsleuthlaw45changepointrefuses_2); (case side2 => exact HC0_6.out); rintro e w53 ⟨v600, rfl, ho0, hb⟩; refine ⟨_, rfl, ?_⟩; have n0_ := Aside0.mk (Kd.R_lower ho0 (below_size qgsleuthlaw45changepointrefuses_0)); have n1_ := Aside0.mk (blk_below (g := gb596) (o := .cells #[.string a0_0, .string a0_1, .int .i64 a0_2, .int .i64 a0_3, .int .i64 a0_4, .int .i64 a0_5, .slice A0_6 l0_6.length c0_6] 28 (0, 0)) qgsleuthlaw45changepointrefuses_3 hb); have n2_ := Aside0.mk (below_step qgsleuthlaw45changepointrefuses_0 hb); clear BK596; clear HB; have HO601 := n0_; have BK596 := n1_; have HB := n2_; clear n0_ n1_ n2_; (try clear hb); (try clear hb2); (try clear hk); (try clear hi); (try clear ho0); have hcz54_0 : w53.cell? ⟨gb596, 0, none⟩ = some (.string a0_0) := (blk_cell BK596.out 0).trans rfl; have hcz54_1 : w53.cell? ⟨gb596, 1, none⟩ = some (.string a0_1) := (blk_cell BK596.out 1).trans rfl; have hcz54_2 : w53.cell? ⟨gb596, 2, none⟩ = some (.int .i64 a0_2) := (blk_cell BK596.out 2).trans rfl; have hcz54_3 : w53.cell? ⟨gb596, 3, none⟩ = some (.int .i64 a0_3) := (blk_cell BK596.out 3).trans rfl; have hcz54_4 : w53.cell? ⟨gb596, 4, none⟩ = some (.int .i64 a0_4) := (blk_cell BK596.out 4).trans rfl; have hcz54_5 : w53.cell? ⟨gb596, 5, none⟩ = some (.int .i64 a0_5) := (blk_cell BK596.out 5).trans rfl; have hcz54_6 : w53.cell? ⟨gb596, 6, none⟩ = some (.slice A0_6 l0_6.length c0_6) := (blk_cell BK596.out 6).trans rfl; have hfz54_0 := blk_frozen BK596.out 0; have hfz54_1 := blk_frozen BK596.out 1; have hfz54_2 := blk_frozen BK596.out 2; have hfz54_3 := blk_frozen BK596.out 3; have hfz54_4 := blk_frozen BK596.out 4; have hfz54_5 := blk_frozen BK596.out 5; have hfz54_6 := blk_frozen BK596.out 6) | ((with_reducible refine gate_callee (f := 18) rfl ?_); refine goesL_ (some 36) rfl rfl Try.func18 (by kernel_rfl) rfl #[.agg #[.string a0_0, .string a0_1, .int .i64 a0_2, .int .i64 a0_3, .int .i64 a0_4, .int .i64 a0_5, .slice A0_6 l0_6.length c0_6]] rfl qgsleuthlaw45changepointrefuses_1 ?_; (with_reducible refine (series_Check.calls kj2 a0_0 a0_1 a0_2 a0_3 a0_4 a0_5 _ _ l0_6 t603 _ ?side1 ?side2 A20.out).mono ?_); (case side1 => exact qgsleuthlaw45changepointrefuses_2); (case side2 => exact HC0_6.out); rintro e w55 ⟨rfl, hb⟩; refine ⟨_, rfl, ?_⟩; have n0_ := Aside0.mk (Kd.R_below qgsleuthlaw45changepointrefuses_5 hb); have n1_ := Aside0.mk (blk_below (g := gb596) (o := .cells #[.string a0_0, .string a0_1, .int .i64 a0_2, .int .i64 a0_3, .int .i64 a0_4, .int .i64 a0_5, .slice A0_6 l0_6.length c0_6] 28 (0, 0)) qgsleuthlaw45changepointrefuses_3 hb); have n2_ := Aside0.mk (below_step qgsleuthlaw45changepointrefuses_0 hb); clear HO601; clear BK596; clear HB; have HO601 := n0_; have BK596 := n1_; have HB := n2_; clear n0_ n1_ n2_; (try clear hb); (try clear hb2); (try clear hk); (try clear hi)))
      go_ret
      exact ⟨qgsleuthlaw45changepointrefuses_4, qgsleuthlaw45changepointrefuses_0⟩

end Go.Proofs.Ytcjgmofgfblmnaa.Q
