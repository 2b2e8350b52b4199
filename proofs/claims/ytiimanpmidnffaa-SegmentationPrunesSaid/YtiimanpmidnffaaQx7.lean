-- Laid by myprint.py (a program of this session's, over the kit's printer and with functions proved by hand)
import Derived.Test.YtiimanpmidnffaaQx0
import Derived.Test.YtiimanpmidnffaaQx2
import Derived.Test.YtiimanpmidnffaaQx6
namespace Go.Proofs.Ytiimanpmidnffaa.Q
open Go.RowKit Go.Proofs.YtiimanpmidnffaaW.PrintWords Go.Proofs.YtiimanpmidnffaaW.PrintLast Go.Proofs.YtiimanpmidnffaaW.PrintMore
attribute [local go_sem] max2_int min2_int max_two min_two max_three min_three max_four min_four   -- for this text's walks alone
set_option linter.unusedVariables false
set_option linter.unusedSimpArgs false

theorem qx7_0 {p : Prop} (h : p := by repeat (first | (with_reducible first | exact HB.out | apply below_alloc | apply pw_below_drewN | apply below_drew1 | refine below_set ?_ GE262.out) | exact HB.out)) : p := h
theorem qx7_1 {p : Prop} (h : p := by repeat (first | (with_reducible first | exact HB.out | apply below_alloc | apply pw_below_drewN | apply below_drew1) | exact HB.out)) : p := h
theorem qx7_2 {p : Prop} (h : p := by (with_reducible repeat (first | refine blk_drewN ?_ _ | refine blk_drew ?_ | refine blk_alloc ?_ _)); exact BK262.out) : p := h
theorem qx7_3 {p : Prop} (h : p := by repeat (first | exact (Kd.C_below HR0.out HB.out) | (with_reducible refine Kd.C_alloc ?_ _) | (with_reducible refine Kd.C_drewN ?_ _) | (with_reducible refine Kd.C_drew ?_))) : p := h
theorem qx7_4 {p : Prop} (h : p := by first | (with_reducible assumption) | assumption) : p := h
theorem qx7_5 {p : Prop} (h : p := by repeat (first | exact (Kd.C_below HR3_0.out HB.out) | (with_reducible refine Kd.C_alloc ?_ _) | (with_reducible refine Kd.C_drewN ?_ _) | (with_reducible refine Kd.C_drew ?_))) : p := h
theorem qx7_6 {p : Prop} (h : p := by first | rfl | (simp [errW_none, errW_some] <;> rfl) | (simp [*, errW_none, errW_some] <;> rfl)) : p := h
theorem qx7_7 {p : Prop} (h : p := by first | rfl | (simp; done) | (simp [*]; done)) : p := h
theorem qx7_8 {p : Prop} (h : p := by first | (go_simp; done) | (go_simp; rfl)) : p := h
/-! ### segmentation_Verify: function 20 -/
mutual
def segmentation_Verify.j0 : Nat → List Int → Int → List Int → Int → Bool → List Int → Int → Option (Int)
 | 0, _, _, _, _, _, _, _ => none
 | k + 1, x0, x1, x2, x11, x40, x263000, x263001 => if x40 = true then (some 24) else (segmentation_Verify.l0 k x0 x1 x2 x11 x2 (x2.length : Int) 0 x263000 x263001)
def segmentation_Verify.l0 : Nat → List Int → Int → List Int → Int → List Int → Int → Int → List Int → Int → Option (Int)
 | 0, _, _, _, _, _, _, _, _, _ => none
 | k + 1, x0, x1, x2, x11, x41, x42, x43, x263000, x263001 => if x43 < x42 then (if 0 ≤ x43 then (if x43 < (x41.length : Int) then (if (rd x41 x43) < (-4503599627370496) then (some 24) else (if (rd x41 x43) > 4503599627370496 then (some 24) else (segmentation_Verify.l0 k x0 x1 x2 x11 x41 x42 (wrap64 (x43 + 1)) x263000 x263001))) else (none)) else (none)) else (if 0 < (x2.length : Int) then (if (rd x2 0) = (wrap64 (-x1)) then (if 0 ≤ x11 then (if x11 < (x2.length : Int) then (segmentation_Verify.j2 k x0 x1 x2 x11 ((rd x2 x11) != x263001)) else (none)) else (none)) else (segmentation_Verify.j2 k x0 x1 x2 x11 true)) else (none))
def segmentation_Verify.j2 : Nat → List Int → Int → List Int → Int → Bool → Option (Int)
 | 0, _, _, _, _, _ => none
 | k + 1, x0, x1, x2, x11, x68 => if x68 = true then (some 24) else (segmentation_Verify.l1 k x0 x1 x2 x11 1)
def segmentation_Verify.l1 : Nat → List Int → Int → List Int → Int → Int → Option (Int)
 | 0, _, _, _, _, _ => none
 | k + 1, x0, x1, x2, x11, x14 => if x14 ≤ x11 then ((segmentation_costs.f k x0 x14).bind fun t268 => (segmentation_Verify.l2 k x0 x1 x2 x11 x14 t268 (t268.length : Int) 0)) else (some 0)
def segmentation_Verify.l2 : Nat → List Int → Int → List Int → Int → Int → List Int → Int → Int → Option (Int)
 | 0, _, _, _, _, _, _, _, _ => none
 | k + 1, x0, x1, x2, x11, x14, x76, x77, x78 => if x78 < x77 then (if 0 ≤ x78 then (if x78 < (x76.length : Int) then (if 0 ≤ x14 then (if x14 < (x2.length : Int) then (if x78 < (x2.length : Int) then (if (rd x2 x14) > (wrap64 ((wrap64 ((rd x2 x78) + x1)) + (rd x76 x78))) then (some 24) else (segmentation_Verify.l2 k x0 x1 x2 x11 x14 x76 x77 (wrap64 (x78 + 1)))) else (none)) else (none)) else (none)) else (none)) else (none)) else (segmentation_Verify.l1 k x0 x1 x2 x11 (wrap64 (x14 + 1)))
end
def segmentation_Verify.f (k : Nat) (l0 : List Int) (a1 : Int) (l2 : List Int) (l3_0 : List Int) (a3_1 : Int) : Option (Int) := (segmentation_Total.f k l0 a1 l3_0).bind fun bt263 => (if bt263.2 = 0 then (if a3_1 = bt263.1 then (segmentation_Verify.j0 k l0 a1 l2 (l0.length : Int) ((l2.length : Int) != (wrap64 ((l0.length : Int) + 1))) l3_0 a3_1) else (segmentation_Verify.j0 k l0 a1 l2 (l0.length : Int) true l3_0 a3_1)) else (some bt263.2))
theorem segmentation_Verify.mono_l : ∀ k, (∀ y0 y1 y2 y3 y4 y5 y6, LeO (segmentation_Verify.j0 k y0 y1 y2 y3 y4 y5 y6) (segmentation_Verify.j0 (k + 1) y0 y1 y2 y3 y4 y5 y6)) ∧ (∀ y0 y1 y2 y3 y4 y5 y6 y7 y8, LeO (segmentation_Verify.l0 k y0 y1 y2 y3 y4 y5 y6 y7 y8) (segmentation_Verify.l0 (k + 1) y0 y1 y2 y3 y4 y5 y6 y7 y8)) ∧ (∀ y0 y1 y2 y3 y4, LeO (segmentation_Verify.j2 k y0 y1 y2 y3 y4) (segmentation_Verify.j2 (k + 1) y0 y1 y2 y3 y4)) ∧ (∀ y0 y1 y2 y3 y4, LeO (segmentation_Verify.l1 k y0 y1 y2 y3 y4) (segmentation_Verify.l1 (k + 1) y0 y1 y2 y3 y4)) ∧ (∀ y0 y1 y2 y3 y4 y5 y6 y7, LeO (segmentation_Verify.l2 k y0 y1 y2 y3 y4 y5 y6 y7) (segmentation_Verify.l2 (k + 1) y0 y1 y2 y3 y4 y5 y6 y7))
 | 0 => ⟨fun _ _ _ _ _ _ _ r h => by simp [segmentation_Verify.j0] at h, fun _ _ _ _ _ _ _ _ _ r h => by simp [segmentation_Verify.l0] at h, fun _ _ _ _ _ r h => by simp [segmentation_Verify.j2] at h, fun _ _ _ _ _ r h => by simp [segmentation_Verify.l1] at h, fun _ _ _ _ _ _ _ _ r h => by simp [segmentation_Verify.l2] at h⟩
 | k + 1 => by
  obtain ⟨ih0, ih1, ih2, ih3, ih4⟩ := segmentation_Verify.mono_l k
  refine ⟨?_, ?_, ?_, ?_, ?_⟩
  ·intro y0 y1 y2 y3 y4 y5 y6
   unfold segmentation_Verify.j0
   repeat' first
   | (with_reducible exact ih0 _ _ _ _ _ _ _)
   | (with_reducible exact ih1 _ _ _ _ _ _ _ _ _)
   | (with_reducible exact ih2 _ _ _ _ _)
   | (with_reducible exact ih3 _ _ _ _ _)
   | (with_reducible exact ih4 _ _ _ _ _ _ _ _)
   | (with_reducible exact segmentation_Total.mono _ _ _ _)
   | (with_reducible exact segmentation_costs.mono _ _ _)
   | (with_reducible exact LeO.refl _)
   | (with_reducible exact LeO.none _)
   | (with_reducible refine LeO.ite ?_ ?_)
   | (with_reducible refine LeO.bind ?_ (fun _ => ?_))
   | exact ih0 _ _ _ _ _ _ _
   | exact ih1 _ _ _ _ _ _ _ _ _
   | exact ih2 _ _ _ _ _
   | exact ih3 _ _ _ _ _
   | exact ih4 _ _ _ _ _ _ _ _
   | exact segmentation_Total.mono _ _ _ _
   | exact segmentation_costs.mono _ _ _
   | exact LeO.none _
   | refine LeO.ite ?_ ?_
   | refine LeO.bind ?_ (fun _ => ?_)
  ·intro y0 y1 y2 y3 y4 y5 y6 y7 y8
   unfold segmentation_Verify.l0
   repeat' first
   | (with_reducible exact ih0 _ _ _ _ _ _ _)
   | (with_reducible exact ih1 _ _ _ _ _ _ _ _ _)
   | (with_reducible exact ih2 _ _ _ _ _)
   | (with_reducible exact ih3 _ _ _ _ _)
   | (with_reducible exact ih4 _ _ _ _ _ _ _ _)
   | (with_reducible exact segmentation_Total.mono _ _ _ _)
   | (with_reducible exact segmentation_costs.mono _ _ _)
   | (with_reducible exact LeO.refl _)
   | (with_reducible exact LeO.none _)
   | (with_reducible refine LeO.ite ?_ ?_)
   | (with_reducible refine LeO.bind ?_ (fun _ => ?_))
   | exact ih0 _ _ _ _ _ _ _
   | exact ih1 _ _ _ _ _ _ _ _ _
   | exact ih2 _ _ _ _ _
   | exact ih3 _ _ _ _ _
   | exact ih4 _ _ _ _ _ _ _ _
   | exact segmentation_Total.mono _ _ _ _
   | exact segmentation_costs.mono _ _ _
   | exact LeO.none _
   | refine LeO.ite ?_ ?_
   | refine LeO.bind ?_ (fun _ => ?_)
  ·intro y0 y1 y2 y3 y4
   unfold segmentation_Verify.j2
   repeat' first
   | (with_reducible exact ih0 _ _ _ _ _ _ _)
   | (with_reducible exact ih1 _ _ _ _ _ _ _ _ _)
   | (with_reducible exact ih2 _ _ _ _ _)
   | (with_reducible exact ih3 _ _ _ _ _)
   | (with_reducible exact ih4 _ _ _ _ _ _ _ _)
   | (with_reducible exact segmentation_Total.mono _ _ _ _)
   | (with_reducible exact segmentation_costs.mono _ _ _)
   | (with_reducible exact LeO.refl _)
   | (with_reducible exact LeO.none _)
   | (with_reducible refine LeO.ite ?_ ?_)
   | (with_reducible refine LeO.bind ?_ (fun _ => ?_))
   | exact ih0 _ _ _ _ _ _ _
   | exact ih1 _ _ _ _ _ _ _ _ _
   | exact ih2 _ _ _ _ _
   | exact ih3 _ _ _ _ _
   | exact ih4 _ _ _ _ _ _ _ _
   | exact segmentation_Total.mono _ _ _ _
   | exact segmentation_costs.mono _ _ _
   | exact LeO.none _
   | refine LeO.ite ?_ ?_
   | refine LeO.bind ?_ (fun _ => ?_)
  ·intro y0 y1 y2 y3 y4
   unfold segmentation_Verify.l1
   repeat' first
   | (with_reducible exact ih0 _ _ _ _ _ _ _)
   | (with_reducible exact ih1 _ _ _ _ _ _ _ _ _)
   | (with_reducible exact ih2 _ _ _ _ _)
   | (with_reducible exact ih3 _ _ _ _ _)
   | (with_reducible exact ih4 _ _ _ _ _ _ _ _)
   | (with_reducible exact segmentation_Total.mono _ _ _ _)
   | (with_reducible exact segmentation_costs.mono _ _ _)
   | (with_reducible exact LeO.refl _)
   | (with_reducible exact LeO.none _)
   | (with_reducible refine LeO.ite ?_ ?_)
   | (with_reducible refine LeO.bind ?_ (fun _ => ?_))
   | exact ih0 _ _ _ _ _ _ _
   | exact ih1 _ _ _ _ _ _ _ _ _
   | exact ih2 _ _ _ _ _
   | exact ih3 _ _ _ _ _
   | exact ih4 _ _ _ _ _ _ _ _
   | exact segmentation_Total.mono _ _ _ _
   | exact segmentation_costs.mono _ _ _
   | exact LeO.none _
   | refine LeO.ite ?_ ?_
   | refine LeO.bind ?_ (fun _ => ?_)
  ·intro y0 y1 y2 y3 y4 y5 y6 y7
   unfold segmentation_Verify.l2
   repeat' first
   | (with_reducible exact ih0 _ _ _ _ _ _ _)
   | (with_reducible exact ih1 _ _ _ _ _ _ _ _ _)
   | (with_reducible exact ih2 _ _ _ _ _)
   | (with_reducible exact ih3 _ _ _ _ _)
   | (with_reducible exact ih4 _ _ _ _ _ _ _ _)
   | (with_reducible exact segmentation_Total.mono _ _ _ _)
   | (with_reducible exact segmentation_costs.mono _ _ _)
   | (with_reducible exact LeO.refl _)
   | (with_reducible exact LeO.none _)
   | (with_reducible refine LeO.ite ?_ ?_)
   | (with_reducible refine LeO.bind ?_ (fun _ => ?_))
   | exact ih0 _ _ _ _ _ _ _
   | exact ih1 _ _ _ _ _ _ _ _ _
   | exact ih2 _ _ _ _ _
   | exact ih3 _ _ _ _ _
   | exact ih4 _ _ _ _ _ _ _ _
   | exact segmentation_Total.mono _ _ _ _
   | exact segmentation_costs.mono _ _ _
   | exact LeO.none _
   | refine LeO.ite ?_ ?_
   | refine LeO.bind ?_ (fun _ => ?_)
theorem segmentation_Verify.mono : ∀ a0 a1 a2 a3 a4 k, LeO (segmentation_Verify.f k a0 a1 a2 a3 a4) (segmentation_Verify.f (k + 1) a0 a1 a2 a3 a4) := by
 intro a0 a1 a2 a3 a4 k
 obtain ⟨ih0, ih1, ih2, ih3, ih4⟩ := segmentation_Verify.mono_l k
 unfold segmentation_Verify.f
 repeat' first
   | (with_reducible exact ih0 _ _ _ _ _ _ _)
   | (with_reducible exact ih1 _ _ _ _ _ _ _ _ _)
   | (with_reducible exact ih2 _ _ _ _ _)
   | (with_reducible exact ih3 _ _ _ _ _)
   | (with_reducible exact ih4 _ _ _ _ _ _ _ _)
   | (with_reducible exact segmentation_Total.mono _ _ _ _)
   | (with_reducible exact segmentation_costs.mono _ _ _)
   | (with_reducible exact LeO.refl _)
   | (with_reducible exact LeO.none _)
   | (with_reducible refine LeO.ite ?_ ?_)
   | (with_reducible refine LeO.bind ?_ (fun _ => ?_))
   | exact ih0 _ _ _ _ _ _ _
   | exact ih1 _ _ _ _ _ _ _ _ _
   | exact ih2 _ _ _ _ _
   | exact ih3 _ _ _ _ _
   | exact ih4 _ _ _ _ _ _ _ _
   | exact segmentation_Total.mono _ _ _ _
   | exact segmentation_costs.mono _ _ _
   | exact LeO.none _
   | refine LeO.ite ?_ ?_
   | refine LeO.bind ?_ (fun _ => ?_)
set_option maxHeartbeats 8000000 in
set_option maxRecDepth 100000 in
theorem segmentation_Verify.calls (k : Nat) (A0 : Option Addr) (c0 : Nat) (l0 : List Int) (a1 : Int) (A2 : Option Addr) (c2 : Nat) (l2 : List Int) (A3_0 : Option Addr) (c3_0 : Nat) (l3_0 : List Int) (a3_1 : Int) (r : Int) (w : World) (hr0 : Kd.C (Kd.int .i64) w A0 l0.length l0) (hc0 : l0.length ≤ c0) (hr2 : Kd.C (Kd.int .i64) w A2 l2.length l2) (hc2 : l2.length ≤ c2) (hr3_0 : Kd.C (Kd.int .i64) w A3_0 l3_0.length l3_0) (hc3_0 : l3_0.length ≤ c3_0) (h : segmentation_Verify.f k l0 a1 l2 l3_0 a3_1 = some r) :
  Calls Try.prog 20 #[.slice A0 l0.length c0, .int .i64 a1, .slice A2 l2.length c2, .agg #[.slice A3_0 l3_0.length c3_0, .int .i64 a3_1]] w fun e w' => e = .returned (.int .i64 r) ∧ Below w.heap.size w w' := by
 have hu27 := Try.underlying27
 have HR0 := Aside0.mk hr0
 have HC0 := Aside0.mk hc0
 clear hr0 hc0
 have HR2 := Aside0.mk hr2
 have HC2 := Aside0.mk hc2
 clear hr2 hc2
 have HR3_0 := Aside0.mk hr3_0
 have HC3_0 := Aside0.mk hc3_0
 clear hr3_0 hc3_0
 have HB := Aside0.mk (Below.refl w.heap.size w)
 have H : ((segmentation_Total.f k l0 a1 l3_0).bind fun bt263 => (if bt263.2 = 0 then (if a3_1 = bt263.1 then (segmentation_Verify.j0 k l0 a1 l2 (l0.length : Int) ((l2.length : Int) != (wrap64 ((l0.length : Int) + 1))) l3_0 a3_1) else (segmentation_Verify.j0 k l0 a1 l2 (l0.length : Int) true l3_0 a3_1)) else (some bt263.2))) = some r := h
 clear h
 replace H := Option.bind_eq_some_iff.mp H
 obtain ⟨⟨t263, t264⟩, A50, H⟩ := H
 replace H : (if t264 = 0 then (if a3_1 = t263 then (segmentation_Verify.j0 k l0 a1 l2 (l0.length : Int) ((l2.length : Int) != (wrap64 ((l0.length : Int) + 1))) l3_0 a3_1) else (segmentation_Verify.j0 k l0 a1 l2 (l0.length : Int) true l3_0 a3_1)) else (some t264)) = some r := H
 have A5 := Aside0.mk A50
 clear A50
 by_cases c6 : t264 = 0
 rotate_left
 ·rw [if_neg c6] at H
  have c6b0 : (t264 == 0) = false := beq_eq_false_iff_ne.mpr c6
  have c6b1 : (t264 != 0) = true := bne_iff_ne.mpr c6
  obtain rfl := Option.some.inj H
  go_enter Try.func20, Try.ntmps20
  go_wp2_with (first | ((with_reducible refine gate_dst (N := 7) rfl ?_); (try (refine gate_guard (by rfl) ?_; dsimp only)); refine box_event ?hg (N := 7) ?hd (cs := #[.slice A3_0 l3_0.length c3_0, .int .i64 a3_1]) (t := 27) ?hr ?_; (case hd => rfl); (case hg => rfl); (case hr => exact qx7_8); intro gb262 hg w38 hbox hb; have n0_ := Aside0.mk (below_step qx7_1 hb); have n1_ := Aside0.mk (hbox); have n2_ := Aside0.mk ((by rw [hg]; exact (below_size qx7_1) : w.heap.size ≤ gb262)); have n3_ := Aside0.mk ((by rw [hg]; exact (below_size qx7_1) : w.heap.size ≤ gb262)); clear HB; have HB := n0_; have BK262 := n1_; have GW262 := n2_; have GE262 := n3_; clear n0_ n1_ n2_ n3_; clear hb hbox hg; have hcz39_0 : w38.cell? ⟨gb262, 0, none⟩ = some (.slice A3_0 l3_0.length c3_0) := (blk_cell BK262.out 0).trans rfl; have hcz39_1 : w38.cell? ⟨gb262, 1, none⟩ = some (.int .i64 a3_1) := (blk_cell BK262.out 1).trans rfl; have hfz39_0 := blk_frozen BK262.out 0; have hfz39_1 := blk_frozen BK262.out 1) | (go_at_call 27; (with_reducible refine (segmentation_Total.calls k _ _ l0 a1 _ _ l3_0 t263 t264 _ ?side1 ?side2 ?side3 ?side4 A5.out).mono ?_); (case side1 => exact qx7_3); (case side2 => exact HC0.out); (case side3 => exact qx7_5); (case side4 => exact HC3_0.out); rintro e w40 ⟨rfl, hb⟩; have n0_ := Aside0.mk (blk_below (g := gb262) (o := .cells #[.slice A3_0 l3_0.length c3_0, .int .i64 a3_1] 27 (0, 0)) qx7_2 hb); have n1_ := Aside0.mk (below_step qx7_0 hb); clear BK262; clear HB; have BK262 := n0_; have HB := n1_; clear n0_ n1_; (try clear hb); (try clear hb2); (try clear hk); (try clear hi)))
  repeat (go_quiet (first | ((with_reducible refine gate_dst (N := 7) rfl ?_); (try (refine gate_guard (by rfl) ?_; dsimp only)); refine box_event ?hg (N := 7) ?hd (cs := #[.slice A3_0 l3_0.length c3_0, .int .i64 a3_1]) (t := 27) ?hr ?_; (case hd => rfl); (case hg => rfl); (case hr => exact qx7_8); intro gb262 hg w38 hbox hb; have n0_ := Aside0.mk (below_step qx7_1 hb); have n1_ := Aside0.mk (hbox); have n2_ := Aside0.mk ((by rw [hg]; exact (below_size qx7_1) : w.heap.size ≤ gb262)); have n3_ := Aside0.mk ((by rw [hg]; exact (below_size qx7_1) : w.heap.size ≤ gb262)); clear HB; have HB := n0_; have BK262 := n1_; have GW262 := n2_; have GE262 := n3_; clear n0_ n1_ n2_ n3_; clear hb hbox hg; have hcz39_0 : w38.cell? ⟨gb262, 0, none⟩ = some (.slice A3_0 l3_0.length c3_0) := (blk_cell BK262.out 0).trans rfl; have hcz39_1 : w38.cell? ⟨gb262, 1, none⟩ = some (.int .i64 a3_1) := (blk_cell BK262.out 1).trans rfl; have hfz39_0 := blk_frozen BK262.out 0; have hfz39_1 := blk_frozen BK262.out 1) | (go_at_call 27; (with_reducible refine (segmentation_Total.calls k _ _ l0 a1 _ _ l3_0 t263 t264 _ ?side1 ?side2 ?side3 ?side4 A5.out).mono ?_); (case side1 => exact qx7_3); (case side2 => exact HC0.out); (case side3 => exact qx7_5); (case side4 => exact HC3_0.out); rintro e w40 ⟨rfl, hb⟩; have n0_ := Aside0.mk (blk_below (g := gb262) (o := .cells #[.slice A3_0 l3_0.length c3_0, .int .i64 a3_1] 27 (0, 0)) qx7_2 hb); have n1_ := Aside0.mk (below_step qx7_0 hb); clear BK262; clear HB; have BK262 := n0_; have HB := n1_; clear n0_ n1_; (try clear hb); (try clear hb2); (try clear hk); (try clear hi))); try go_wp2_with (first | ((with_reducible refine gate_dst (N := 7) rfl ?_); (try (refine gate_guard (by rfl) ?_; dsimp only)); refine box_event ?hg (N := 7) ?hd (cs := #[.slice A3_0 l3_0.length c3_0, .int .i64 a3_1]) (t := 27) ?hr ?_; (case hd => rfl); (case hg => rfl); (case hr => exact qx7_8); intro gb262 hg w38 hbox hb; have n0_ := Aside0.mk (below_step qx7_1 hb); have n1_ := Aside0.mk (hbox); have n2_ := Aside0.mk ((by rw [hg]; exact (below_size qx7_1) : w.heap.size ≤ gb262)); have n3_ := Aside0.mk ((by rw [hg]; exact (below_size qx7_1) : w.heap.size ≤ gb262)); clear HB; have HB := n0_; have BK262 := n1_; have GW262 := n2_; have GE262 := n3_; clear n0_ n1_ n2_ n3_; clear hb hbox hg; have hcz39_0 : w38.cell? ⟨gb262, 0, none⟩ = some (.slice A3_0 l3_0.length c3_0) := (blk_cell BK262.out 0).trans rfl; have hcz39_1 : w38.cell? ⟨gb262, 1, none⟩ = some (.int .i64 a3_1) := (blk_cell BK262.out 1).trans rfl; have hfz39_0 := blk_frozen BK262.out 0; have hfz39_1 := blk_frozen BK262.out 1) | (go_at_call 27; (with_reducible refine (segmentation_Total.calls k _ _ l0 a1 _ _ l3_0 t263 t264 _ ?side1 ?side2 ?side3 ?side4 A5.out).mono ?_); (case side1 => exact qx7_3); (case side2 => exact HC0.out); (case side3 => exact qx7_5); (case side4 => exact HC3_0.out); rintro e w40 ⟨rfl, hb⟩; have n0_ := Aside0.mk (blk_below (g := gb262) (o := .cells #[.slice A3_0 l3_0.length c3_0, .int .i64 a3_1] 27 (0, 0)) qx7_2 hb); have n1_ := Aside0.mk (below_step qx7_0 hb); clear BK262; clear HB; have BK262 := n0_; have HB := n1_; clear n0_ n1_; (try clear hb); (try clear hb2); (try clear hk); (try clear hi))))
  go_ret
  exact ⟨qx7_6, qx7_0⟩
 rw [if_pos c6] at H
 have c6b0 : (t264 == 0) = true := beq_iff_eq.mpr c6
 have c6b1 : (t264 != 0) = false := bne_eq_false_iff_eq.mpr c6
 clear c6
 have HC7 := Aside0.mk H
 clear H
 go_enter Try.func20, Try.ntmps20
 go_upto_region 5 with (first | ((with_reducible refine gate_dst (N := 7) rfl ?_); (try (refine gate_guard (by rfl) ?_; dsimp only)); refine box_event ?hg (N := 7) ?hd (cs := #[.slice A3_0 l3_0.length c3_0, .int .i64 a3_1]) (t := 27) ?hr ?_; (case hd => rfl); (case hg => rfl); (case hr => exact qx7_8); intro gb262 hg w8 hbox hb; have n0_ := Aside0.mk (below_step qx7_1 hb); have n1_ := Aside0.mk (hbox); have n2_ := Aside0.mk ((by rw [hg]; exact (below_size qx7_1) : w.heap.size ≤ gb262)); have n3_ := Aside0.mk ((by rw [hg]; exact (below_size qx7_1) : w.heap.size ≤ gb262)); clear HB; have HB := n0_; have BK262 := n1_; have GW262 := n2_; have GE262 := n3_; clear n0_ n1_ n2_ n3_; clear hb hbox hg; have hcz9_0 : w8.cell? ⟨gb262, 0, none⟩ = some (.slice A3_0 l3_0.length c3_0) := (blk_cell BK262.out 0).trans rfl; have hcz9_1 : w8.cell? ⟨gb262, 1, none⟩ = some (.int .i64 a3_1) := (blk_cell BK262.out 1).trans rfl; have hfz9_0 := blk_frozen BK262.out 0; have hfz9_1 := blk_frozen BK262.out 1) | (go_at_call 27; (with_reducible refine (segmentation_Total.calls k _ _ l0 a1 _ _ l3_0 t263 t264 _ ?side1 ?side2 ?side3 ?side4 A5.out).mono ?_); (case side1 => exact qx7_3); (case side2 => exact HC0.out); (case side3 => exact qx7_5); (case side4 => exact HC3_0.out); rintro e w10 ⟨rfl, hb⟩; have n0_ := Aside0.mk (blk_below (g := gb262) (o := .cells #[.slice A3_0 l3_0.length c3_0, .int .i64 a3_1] 27 (0, 0)) qx7_2 hb); have n1_ := Aside0.mk (below_step qx7_0 hb); clear BK262; clear HB; have BK262 := n0_; have HB := n1_; clear n0_ n1_; (try clear hb); (try clear hb2); (try clear hk); (try clear hi)))
 repeat (go_quiet (first | ((with_reducible refine gate_dst (N := 7) rfl ?_); (try (refine gate_guard (by rfl) ?_; dsimp only)); refine box_event ?hg (N := 7) ?hd (cs := #[.slice A3_0 l3_0.length c3_0, .int .i64 a3_1]) (t := 27) ?hr ?_; (case hd => rfl); (case hg => rfl); (case hr => exact qx7_8); intro gb262 hg w8 hbox hb; have n0_ := Aside0.mk (below_step qx7_1 hb); have n1_ := Aside0.mk (hbox); have n2_ := Aside0.mk ((by rw [hg]; exact (below_size qx7_1) : w.heap.size ≤ gb262)); have n3_ := Aside0.mk ((by rw [hg]; exact (below_size qx7_1) : w.heap.size ≤ gb262)); clear HB; have HB := n0_; have BK262 := n1_; have GW262 := n2_; have GE262 := n3_; clear n0_ n1_ n2_ n3_; clear hb hbox hg; have hcz9_0 : w8.cell? ⟨gb262, 0, none⟩ = some (.slice A3_0 l3_0.length c3_0) := (blk_cell BK262.out 0).trans rfl; have hcz9_1 : w8.cell? ⟨gb262, 1, none⟩ = some (.int .i64 a3_1) := (blk_cell BK262.out 1).trans rfl; have hfz9_0 := blk_frozen BK262.out 0; have hfz9_1 := blk_frozen BK262.out 1) | (go_at_call 27; (with_reducible refine (segmentation_Total.calls k _ _ l0 a1 _ _ l3_0 t263 t264 _ ?side1 ?side2 ?side3 ?side4 A5.out).mono ?_); (case side1 => exact qx7_3); (case side2 => exact HC0.out); (case side3 => exact qx7_5); (case side4 => exact HC3_0.out); rintro e w10 ⟨rfl, hb⟩; have n0_ := Aside0.mk (blk_below (g := gb262) (o := .cells #[.slice A3_0 l3_0.length c3_0, .int .i64 a3_1] 27 (0, 0)) qx7_2 hb); have n1_ := Aside0.mk (below_step qx7_0 hb); clear BK262; clear HB; have BK262 := n0_; have HB := n1_; clear n0_ n1_; (try clear hb); (try clear hb2); (try clear hk); (try clear hi))); go_upto_region 5 with (first | ((with_reducible refine gate_dst (N := 7) rfl ?_); (try (refine gate_guard (by rfl) ?_; dsimp only)); refine box_event ?hg (N := 7) ?hd (cs := #[.slice A3_0 l3_0.length c3_0, .int .i64 a3_1]) (t := 27) ?hr ?_; (case hd => rfl); (case hg => rfl); (case hr => exact qx7_8); intro gb262 hg w8 hbox hb; have n0_ := Aside0.mk (below_step qx7_1 hb); have n1_ := Aside0.mk (hbox); have n2_ := Aside0.mk ((by rw [hg]; exact (below_size qx7_1) : w.heap.size ≤ gb262)); have n3_ := Aside0.mk ((by rw [hg]; exact (below_size qx7_1) : w.heap.size ≤ gb262)); clear HB; have HB := n0_; have BK262 := n1_; have GW262 := n2_; have GE262 := n3_; clear n0_ n1_ n2_ n3_; clear hb hbox hg; have hcz9_0 : w8.cell? ⟨gb262, 0, none⟩ = some (.slice A3_0 l3_0.length c3_0) := (blk_cell BK262.out 0).trans rfl; have hcz9_1 : w8.cell? ⟨gb262, 1, none⟩ = some (.int .i64 a3_1) := (blk_cell BK262.out 1).trans rfl; have hfz9_0 := blk_frozen BK262.out 0; have hfz9_1 := blk_frozen BK262.out 1) | (go_at_call 27; (with_reducible refine (segmentation_Total.calls k _ _ l0 a1 _ _ l3_0 t263 t264 _ ?side1 ?side2 ?side3 ?side4 A5.out).mono ?_); (case side1 => exact qx7_3); (case side2 => exact HC0.out); (case side3 => exact qx7_5); (case side4 => exact HC3_0.out); rintro e w10 ⟨rfl, hb⟩; have n0_ := Aside0.mk (blk_below (g := gb262) (o := .cells #[.slice A3_0 l3_0.length c3_0, .int .i64 a3_1] 27 (0, 0)) qx7_2 hb); have n1_ := Aside0.mk (below_step qx7_0 hb); clear BK262; clear HB; have BK262 := n0_; have HB := n1_; clear n0_ n1_; (try clear hb); (try clear hb2); (try clear hk); (try clear hi))))
 (try simp only [Act.put, List.setIfInBounds_toArray, List.set_cons_zero, List.set_cons_succ])
 go_cut [40] (fun v40 wc => ∃ (kq : Nat) (x40_6 : Bool), v40 = .bool x40_6 ∧ Aside0 (segmentation_Verify.j0 kq l0 a1 l2 (l0.length : Int) x40_6 l3_0 a3_1 = some r) ∧ Aside0 (kq ≤ k) ∧ Aside0 (wc.heap[gb262]? = some (.cells #[(.slice A3_0 l3_0.length c3_0), .int .i64 a3_1] 27 (0, 0))) ∧ Aside0 (Below w.heap.size w wc))
 case first =>
  have H := HC7.out
  clear HC7
  by_cases c11 : a3_1 = t263
  rotate_left
  ·rw [if_neg c11] at H
   have c11b0 : (a3_1 == t263) = false := beq_eq_false_iff_ne.mpr c11
   have c11b1 : (a3_1 != t263) = true := bne_iff_ne.mpr c11
   (first | rw [c11b0] | (simp only [i64_w, i32_w]; rw [c11b0]) | skip)
   have H' := Aside0.mk H
   clear H
   have hcz13_0 : w10.cell? ⟨gb262, 0, none⟩ = some (.slice A3_0 l3_0.length c3_0) := (blk_cell BK262.out 0).trans rfl
   have hcz13_1 : w10.cell? ⟨gb262, 1, none⟩ = some (.int .i64 a3_1) := (blk_cell BK262.out 1).trans rfl
   have hfz13_0 := blk_frozen BK262.out 0
   have hfz13_1 := blk_frozen BK262.out 1
   go_wp2
   repeat (go_quiet (fail); try go_wp2)
   go_meet
   case rel => exact ⟨_, (true), qx7_7, H', ⟨by first | omega | exact Nat.le_refl _⟩, ⟨qx7_2⟩, ⟨qx7_0⟩⟩
  rw [if_pos c11] at H
  have c11b0 : (a3_1 == t263) = true := beq_iff_eq.mpr c11
  have c11b1 : (a3_1 != t263) = false := bne_eq_false_iff_eq.mpr c11
  clear c11
  (first | rw [c11b0] | (simp only [i64_w, i32_w]; rw [c11b0]) | skip)
  have H' := Aside0.mk H
  clear H
  have hcz12_0 : w10.cell? ⟨gb262, 0, none⟩ = some (.slice A3_0 l3_0.length c3_0) := (blk_cell BK262.out 0).trans rfl
  have hcz12_1 : w10.cell? ⟨gb262, 1, none⟩ = some (.int .i64 a3_1) := (blk_cell BK262.out 1).trans rfl
  have hfz12_0 := blk_frozen BK262.out 0
  have hfz12_1 := blk_frozen BK262.out 1
  go_wp2
  repeat (go_quiet (fail); try go_wp2)
  go_meet
  case rel => exact ⟨_, (((l2.length : Int) != (wrap64 ((l0.length : Int) + 1)))), qx7_7, H', ⟨by first | omega | exact Nat.le_refl _⟩, ⟨qx7_2⟩, ⟨qx7_0⟩⟩
 clear HC7
 try clear c1
 try clear c2
 try clear p2
 try clear c3
 try clear c6
 try clear c6b0
 try clear c6b1
 try clear p6
 try clear c11
 try clear c11b0
 try clear c11b1
 try clear hcz12_0
 try clear hcz12_1
 try clear hcz13_0
 try clear hcz13_1
 try clear hcz9_0
 try clear hcz9_1
 try clear hfz12_0
 try clear hfz12_1
 try clear hfz13_0
 try clear hfz13_1
 try clear hfz9_0
 try clear hfz9_1
 obtain ⟨kq, x40_6, rfl, HA, HJ6, BK262, HB⟩ := hcut
 cases kq with
 | zero => exact absurd HA.out (by simp [segmentation_Verify.j0])
 | succ kj6 =>
  have H := HA.out
  clear HA
  simp only [segmentation_Verify.j0] at H
  by_cases c14 : x40_6 = true
  ·subst c14
   have H1 : (some 24) = some r := by rw [if_pos rfl] at H; exact H
   clear H
   have H := H1
   clear H1
   obtain rfl := Option.some.inj H
   go_wp2
   repeat (go_quiet (fail); try go_wp2)
   go_ret
   exact ⟨qx7_6, qx7_0⟩
  replace c14 := Bool.eq_false_iff.mpr c14
  subst c14
  have H1 : (segmentation_Verify.l0 kj6 l0 a1 l2 (l0.length : Int) l2 (l2.length : Int) 0 l3_0 a3_1) = some r := by rw [if_neg (show ¬ (false = true) by decide)] at H; exact H
  clear H
  have H := H1
  clear H1
  have H' := Aside0.mk H
  clear H
  go_wp2
  repeat (go_quiet (fail); try go_wp2)
  go_loopg [43] kj6 (fun kq v43 w' => ∃ (x43_2 : Int), v43 = .int .i64 x43_2 ∧ Aside0 (segmentation_Verify.l0 kq l0 a1 l2 (l0.length : Int) l2 (l2.length : Int) x43_2 l3_0 a3_1 = some r) ∧ Aside0 (kq ≤ kj6) ∧ Aside0 (w'.heap[gb262]? = some (.cells #[(.slice A3_0 l3_0.length c3_0), .int .i64 a3_1] 27 (0, 0))) ∧ Aside0 (Below w.heap.size w w'))
  case atStart => exact ⟨(0), qx7_7, H', ⟨Nat.le_refl _⟩, ⟨qx7_2⟩, ⟨qx7_0⟩⟩
  clear H'
  try clear c1
  try clear c2
  try clear p2
  try clear c3
  try clear c6
  try clear c6b0
  try clear c6b1
  try clear p6
  try clear c11
  try clear c11b0
  try clear c11b1
  try clear c14
  try clear hcz12_0
  try clear hcz12_1
  try clear hcz13_0
  try clear hcz13_1
  try clear hcz9_0
  try clear hcz9_1
  try clear hfz12_0
  try clear hfz12_1
  try clear hfz13_0
  try clear hfz13_1
  try clear hfz9_0
  try clear hfz9_1
  try clear p2
  try clear p6
  obtain ⟨x43_2, rfl, HA, HK2, BK262, HB⟩ := hrel
  cases gk with
  | zero => exact absurd HA.out (by simp [segmentation_Verify.l0])
  | succ k2 =>
   have H := HA.out
   clear HA
   simp only [segmentation_Verify.l0] at H
   by_cases c15 : x43_2 < (l2.length : Int)
   ·rw [if_pos c15] at H
    have c15b0 : decide (x43_2 < (l2.length : Int)) = true := decide_eq_true c15
    clear c15
    by_cases c16 : 0 ≤ x43_2
    rotate_left
    ·rw [if_neg c16] at H
     exact absurd H (by simp)
    rw [if_pos c16] at H
    have c16b0 : decide (0 ≤ x43_2) = true := decide_eq_true c16
    clear c16
    by_cases c17 : x43_2 < (l2.length : Int)
    rotate_left
    ·rw [if_neg c17] at H
     exact absurd H (by simp)
    rw [if_pos c17] at H
    have c17b0 : decide (x43_2 < (l2.length : Int)) = true := decide_eq_true c17
    clear c17
    by_cases c18 : (rd l2 x43_2) < (-4503599627370496)
    ·rw [if_pos c18] at H
     have c18b0 : decide ((rd l2 x43_2) < (-4503599627370496)) = true := decide_eq_true c18
     clear c18
     obtain rfl := Option.some.inj H
     have p265 : 0 ≤ (x43_2 : Int) := of_decide_eq_true qx7_4
     have q265 : x43_2 < (l2.length : Int) := of_decide_eq_true qx7_4
     obtain ⟨ad265, e265, hx265_0⟩ := Kd.at_int HR2.out x43_2 p265 q265
     cases e265
     replace hx265_0 := (HB.out.cell (World.block_lt_of_cell? w _ hx265_0)).trans hx265_0
     replace p265 := eq_true p265
     replace q265 := eq_true q265
     go_wp2
     repeat (go_quiet (fail); try go_wp2)
     go_ret
     exact ⟨qx7_6, qx7_0⟩
    rw [if_neg c18] at H
    have c18b0 : decide ((rd l2 x43_2) < (-4503599627370496)) = false := decide_eq_false c18
    clear c18
    by_cases c19 : (rd l2 x43_2) > 4503599627370496
    ·rw [if_pos c19] at H
     have c19b0 : decide (4503599627370496 < (rd l2 x43_2)) = true := decide_eq_true c19
     clear c19
     obtain rfl := Option.some.inj H
     have p265 : 0 ≤ (x43_2 : Int) := of_decide_eq_true qx7_4
     have q265 : x43_2 < (l2.length : Int) := of_decide_eq_true qx7_4
     obtain ⟨ad265, e265, hx265_0⟩ := Kd.at_int HR2.out x43_2 p265 q265
     cases e265
     replace hx265_0 := (HB.out.cell (World.block_lt_of_cell? w _ hx265_0)).trans hx265_0
     replace p265 := eq_true p265
     replace q265 := eq_true q265
     go_wp2
     repeat (go_quiet (fail); try go_wp2)
     go_ret
     exact ⟨qx7_6, qx7_0⟩
    rw [if_neg c19] at H
    have c19b0 : decide (4503599627370496 < (rd l2 x43_2)) = false := decide_eq_false c19
    clear c19
    have H' := Aside0.mk H
    clear H
    have p265 : 0 ≤ (x43_2 : Int) := of_decide_eq_true qx7_4
    have q265 : x43_2 < (l2.length : Int) := of_decide_eq_true qx7_4
    obtain ⟨ad265, e265, hx265_0⟩ := Kd.at_int HR2.out x43_2 p265 q265
    cases e265
    replace hx265_0 := (HB.out.cell (World.block_lt_of_cell? w _ hx265_0)).trans hx265_0
    replace p265 := eq_true p265
    replace q265 := eq_true q265
    go_wp2
    repeat (go_quiet (fail); try go_wp2)
    go_roundg k2
    case measure => have := HJ6.out; have := HK2.out; omega
    case rel => exact ⟨(wrap64 (x43_2 + 1)), qx7_7, H', ⟨by have := HJ6.out; have := HK2.out; omega⟩, ⟨qx7_2⟩, ⟨qx7_0⟩⟩
   rw [if_neg c15] at H
   have c15b0 : decide (x43_2 < (l2.length : Int)) = false := decide_eq_false c15
   clear c15
   have HC20 := Aside0.mk H
   clear H
   go_upto_region 13 with (fail)
   repeat (go_quiet (fail); go_upto_region 13 with (fail))
   go_cut [68] (fun v68 wc => ∃ (kq : Nat) (x68_19 : Bool), v68 = .bool x68_19 ∧ Aside0 (segmentation_Verify.j2 kq l0 a1 l2 (l0.length : Int) x68_19 = some r) ∧ Aside0 (kq ≤ k2) ∧ Aside0 (wc.heap[gb262]? = some (.cells #[(.slice A3_0 l3_0.length c3_0), .int .i64 a3_1] 27 (0, 0))) ∧ Aside0 (Below w.heap.size w wc))
   case first =>
    have H := HC20.out
    clear HC20
    by_cases c21 : 0 < (l2.length : Int)
    rotate_left
    ·rw [if_neg c21] at H
     exact absurd H (by simp)
    rw [if_pos c21] at H
    have c21b0 : decide (0 < (l2.length : Int)) = true := decide_eq_true c21
    have c21b1 : decide (0 < l2.length) = true := decide_eq_true (by omega)
    clear c21
    (first | rw [c21b0] | (simp only [i64_w, i32_w]; rw [c21b0]) | skip)
    by_cases c22 : (rd l2 0) = (wrap64 (-a1))
    rotate_left
    ·rw [if_neg c22] at H
     have c22b0 : ((rd l2 0) == (wrap64 (-a1))) = false := beq_eq_false_iff_ne.mpr c22
     have c22b1 : ((rd l2 0) != (wrap64 (-a1))) = true := bne_iff_ne.mpr c22
     have H' := Aside0.mk H
     clear H
     have p266 : 0 ≤ (0 : Int) := (by omega)
     have q266 : 0 < (l2.length : Int) := of_decide_eq_true qx7_4
     obtain ⟨ad266, e266, hx266_0⟩ := Kd.at_int HR2.out 0 p266 q266
     cases e266
     have qi266 : (0 < l2.length) = True := eq_true (by omega)
     (try rw [show ((0 : Int)).toNat = 0 from rfl] at hx266_0)
     (try rw [Addr.add_zero'] at hx266_0)
     replace hx266_0 := (HB.out.cell (World.block_lt_of_cell? w _ hx266_0)).trans hx266_0
     replace p266 := eq_true p266
     replace q266 := eq_true q266
     go_wp2
     repeat (go_quiet (fail); try go_wp2)
     go_meet
     case rel => exact ⟨_, (true), qx7_7, H', ⟨by have := HJ6.out; have := HK2.out; first | omega | exact Nat.le_refl _⟩, ⟨qx7_2⟩, ⟨qx7_0⟩⟩
    rw [if_pos c22] at H
    have c22b0 : ((rd l2 0) == (wrap64 (-a1))) = true := beq_iff_eq.mpr c22
    have c22b1 : ((rd l2 0) != (wrap64 (-a1))) = false := bne_eq_false_iff_eq.mpr c22
    clear c22
    by_cases c23 : 0 ≤ (l0.length : Int)
    rotate_left
    ·rw [if_neg c23] at H
     exact absurd H (by simp)
    rw [if_pos c23] at H
    have c23b0 : decide (0 ≤ (l0.length : Int)) = true := decide_eq_true c23
    have c23b1 : decide (0 ≤ l0.length) = true := decide_eq_true (by omega)
    clear c23
    by_cases c24 : (l0.length : Int) < (l2.length : Int)
    rotate_left
    ·rw [if_neg c24] at H
     exact absurd H (by simp)
    rw [if_pos c24] at H
    have c24b0 : decide ((l0.length : Int) < (l2.length : Int)) = true := decide_eq_true c24
    have c24b1 : decide (l0.length < l2.length) = true := decide_eq_true (Int.ofNat_lt.mp c24)
    clear c24
    have H' := Aside0.mk H
    clear H
    have p266 : 0 ≤ (0 : Int) := (by omega)
    have q266 : 0 < (l2.length : Int) := of_decide_eq_true qx7_4
    obtain ⟨ad266, e266, hx266_0⟩ := Kd.at_int HR2.out 0 p266 q266
    cases e266
    have qi266 : (0 < l2.length) = True := eq_true (by omega)
    (try rw [show ((0 : Int)).toNat = 0 from rfl] at hx266_0)
    (try rw [Addr.add_zero'] at hx266_0)
    replace hx266_0 := (HB.out.cell (World.block_lt_of_cell? w _ hx266_0)).trans hx266_0
    replace p266 := eq_true p266
    replace q266 := eq_true q266
    have p267 : 0 ≤ ((l0.length : Int) : Int) := of_decide_eq_true qx7_4
    have q267 : (l0.length : Int) < (l2.length : Int) := of_decide_eq_true qx7_4
    obtain ⟨ad267, e267, hx267_0⟩ := Kd.at_int HR2.out (l0.length : Int) p267 q267
    obtain rfl : ad266 = ad267 := (by injection e267)
    replace hx267_0 := (HB.out.cell (World.block_lt_of_cell? w _ hx267_0)).trans hx267_0
    (try simp only [Go.IntWalk.toNatUp] at hx267_0)
    replace p267 := eq_true p267
    replace q267 := eq_true q267
    have hcz25_0 : wr.cell? ⟨gb262, 0, none⟩ = some (.slice A3_0 l3_0.length c3_0) := (blk_cell BK262.out 0).trans rfl
    have hcz25_1 : wr.cell? ⟨gb262, 1, none⟩ = some (.int .i64 a3_1) := (blk_cell BK262.out 1).trans rfl
    have hfz25_0 := blk_frozen BK262.out 0
    have hfz25_1 := blk_frozen BK262.out 1
    go_wp2
    repeat (go_quiet (fail); try go_wp2)
    go_meet
    case rel => exact ⟨_, (((rd l2 (l0.length : Int)) != a3_1)), qx7_7, H', ⟨by have := HJ6.out; have := HK2.out; first | omega | exact Nat.le_refl _⟩, ⟨qx7_2⟩, ⟨qx7_0⟩⟩
   clear HC20
   try clear c1
   try clear c2
   try clear p2
   try clear q2
   try clear hx2
   try clear qi2
   try clear c3
   try clear c6
   try clear c6b0
   try clear c6b1
   try clear p6
   try clear c11
   try clear c11b0
   try clear c11b1
   try clear c14
   try clear c15
   try clear c15b0
   try clear c16
   try clear c16b0
   try clear c17
   try clear c17b0
   try clear c18
   try clear c18b0
   try clear c19
   try clear c19b0
   try clear c20
   try clear c21
   try clear c21b0
   try clear c21b1
   try clear c22
   try clear c22b0
   try clear c22b1
   try clear c23
   try clear c23b0
   try clear c23b1
   try clear c24
   try clear c24b0
   try clear c24b1
   try clear hcz12_0
   try clear hcz12_1
   try clear hcz13_0
   try clear hcz13_1
   try clear hcz25_0
   try clear hcz25_1
   try clear hcz9_0
   try clear hcz9_1
   try clear hfz12_0
   try clear hfz12_1
   try clear hfz13_0
   try clear hfz13_1
   try clear hfz25_0
   try clear hfz25_1
   try clear hfz9_0
   try clear hfz9_1
   try clear hx265_0
   try clear hx266_0
   try clear hx267_0
   try clear p2
   try clear p265
   try clear p266
   try clear p267
   try clear p6
   try clear q265
   try clear q266
   try clear q267
   obtain ⟨kq, x68_19, rfl, HA, HJ19, BK262, HB⟩ := hcut
   cases kq with
   | zero => exact absurd HA.out (by simp [segmentation_Verify.j2])
   | succ kj19 =>
    have H := HA.out
    clear HA
    simp only [segmentation_Verify.j2] at H
    by_cases c26 : x68_19 = true
    ·subst c26
     have H1 : (some 24) = some r := by rw [if_pos rfl] at H; exact H
     clear H
     have H := H1
     clear H1
     obtain rfl := Option.some.inj H
     go_wp2
     repeat (go_quiet (fail); try go_wp2)
     go_ret
     exact ⟨qx7_6, qx7_0⟩
    replace c26 := Bool.eq_false_iff.mpr c26
    subst c26
    have H1 : (segmentation_Verify.l1 kj19 l0 a1 l2 (l0.length : Int) 1) = some r := by rw [if_neg (show ¬ (false = true) by decide)] at H; exact H
    clear H
    have H := H1
    clear H1
    have H' := Aside0.mk H
    clear H
    go_wp2
    repeat (go_quiet (fail); try go_wp2)
    go_loopg [14] kj19 (fun kq v14 w' => ∃ (x14_4 : Int), v14 = .int .i64 x14_4 ∧ Aside0 (segmentation_Verify.l1 kq l0 a1 l2 (l0.length : Int) x14_4 = some r) ∧ Aside0 (kq ≤ kj19) ∧ Aside0 (w'.heap[gb262]? = some (.cells #[(.slice A3_0 l3_0.length c3_0), .int .i64 a3_1] 27 (0, 0))) ∧ Aside0 (Below w.heap.size w w'))
    case atStart => exact ⟨(1), qx7_7, H', ⟨Nat.le_refl _⟩, ⟨qx7_2⟩, ⟨qx7_0⟩⟩
    clear H'
    try clear c1
    try clear c2
    try clear p2
    try clear q2
    try clear hx2
    try clear qi2
    try clear c3
    try clear c6
    try clear c6b0
    try clear c6b1
    try clear p6
    try clear c11
    try clear c11b0
    try clear c11b1
    try clear c14
    try clear c15
    try clear c15b0
    try clear c16
    try clear c16b0
    try clear c17
    try clear c17b0
    try clear c18
    try clear c18b0
    try clear c19
    try clear c19b0
    try clear c20
    try clear c21
    try clear c21b0
    try clear c21b1
    try clear c22
    try clear c22b0
    try clear c22b1
    try clear c23
    try clear c23b0
    try clear c23b1
    try clear c24
    try clear c24b0
    try clear c24b1
    try clear c26
    try clear p26
    try clear q26
    try clear hx26
    try clear qi26
    try clear hcz12_0
    try clear hcz12_1
    try clear hcz13_0
    try clear hcz13_1
    try clear hcz25_0
    try clear hcz25_1
    try clear hcz9_0
    try clear hcz9_1
    try clear hfz12_0
    try clear hfz12_1
    try clear hfz13_0
    try clear hfz13_1
    try clear hfz25_0
    try clear hfz25_1
    try clear hfz9_0
    try clear hfz9_1
    try clear hx265_0
    try clear hx266_0
    try clear hx267_0
    try clear p2
    try clear p265
    try clear p266
    try clear p267
    try clear p6
    try clear q2
    try clear q265
    try clear q266
    try clear q267
    obtain ⟨x14_4, rfl, HA, HK4, BK262, HB⟩ := hrel
    cases gk with
    | zero => exact absurd HA.out (by simp [segmentation_Verify.l1])
    | succ k4 =>
     have H := HA.out
     clear HA
     simp only [segmentation_Verify.l1] at H
     by_cases c27 : x14_4 ≤ (l0.length : Int)
     rotate_left
     ·rw [if_neg c27] at H
      have c27b0 : decide (x14_4 ≤ (l0.length : Int)) = false := decide_eq_false c27
      clear c27
      obtain rfl := Option.some.inj H
      go_wp2
      repeat (go_quiet (fail); try go_wp2)
      go_ret
      exact ⟨qx7_6, qx7_0⟩
     rw [if_pos c27] at H
     have c27b0 : decide (x14_4 ≤ (l0.length : Int)) = true := decide_eq_true c27
     clear c27
     replace H := Option.bind_eq_some_iff.mp H
     obtain ⟨t268, A280, H⟩ := H
     replace H : (segmentation_Verify.l2 k4 l0 a1 l2 (l0.length : Int) x14_4 t268 (t268.length : Int) 0) = some r := H
     have A28 := Aside0.mk A280
     clear A280
     have H' := Aside0.mk H
     clear H
     go_wp2_with (first | (go_at_call 40; (with_reducible refine (segmentation_costs.calls k4 _ _ l0 x14_4 t268 _ ?side1 ?side2 A28.out).mono ?_); (case side1 => exact qx7_3); (case side2 => exact HC0.out); rintro e w29 ⟨v269, rfl, ho0, hb⟩; have n0_ := Aside0.mk (Kd.R_lower ho0 (below_size qx7_0)); have n1_ := Aside0.mk (blk_below (g := gb262) (o := .cells #[.slice A3_0 l3_0.length c3_0, .int .i64 a3_1] 27 (0, 0)) qx7_2 hb); have n2_ := Aside0.mk (below_step qx7_0 hb); clear BK262; clear HB; have HO270 := n0_; have BK262 := n1_; have HB := n2_; clear n0_ n1_ n2_; (try clear hb); (try clear hb2); (try clear hk); (try clear hi); (try clear ho0); obtain ⟨Ao30, co30, eo30⟩ := Kd.R_slice HO270.out; subst eo30))
     repeat (go_quiet (first | (go_at_call 40; (with_reducible refine (segmentation_costs.calls k4 _ _ l0 x14_4 t268 _ ?side1 ?side2 A28.out).mono ?_); (case side1 => exact qx7_3); (case side2 => exact HC0.out); rintro e w29 ⟨v269, rfl, ho0, hb⟩; have n0_ := Aside0.mk (Kd.R_lower ho0 (below_size qx7_0)); have n1_ := Aside0.mk (blk_below (g := gb262) (o := .cells #[.slice A3_0 l3_0.length c3_0, .int .i64 a3_1] 27 (0, 0)) qx7_2 hb); have n2_ := Aside0.mk (below_step qx7_0 hb); clear BK262; clear HB; have HO270 := n0_; have BK262 := n1_; have HB := n2_; clear n0_ n1_ n2_; (try clear hb); (try clear hb2); (try clear hk); (try clear hi); (try clear ho0); obtain ⟨Ao30, co30, eo30⟩ := Kd.R_slice HO270.out; subst eo30)); try go_wp2_with (first | (go_at_call 40; (with_reducible refine (segmentation_costs.calls k4 _ _ l0 x14_4 t268 _ ?side1 ?side2 A28.out).mono ?_); (case side1 => exact qx7_3); (case side2 => exact HC0.out); rintro e w29 ⟨v269, rfl, ho0, hb⟩; have n0_ := Aside0.mk (Kd.R_lower ho0 (below_size qx7_0)); have n1_ := Aside0.mk (blk_below (g := gb262) (o := .cells #[.slice A3_0 l3_0.length c3_0, .int .i64 a3_1] 27 (0, 0)) qx7_2 hb); have n2_ := Aside0.mk (below_step qx7_0 hb); clear BK262; clear HB; have HO270 := n0_; have BK262 := n1_; have HB := n2_; clear n0_ n1_ n2_; (try clear hb); (try clear hb2); (try clear hk); (try clear hi); (try clear ho0); obtain ⟨Ao30, co30, eo30⟩ := Kd.R_slice HO270.out; subst eo30)))
     go_loopg [78] k4 (fun kq v78 w' => ∃ (x78_5 : Int), v78 = .int .i64 x78_5 ∧ Aside0 (segmentation_Verify.l2 kq l0 a1 l2 (l0.length : Int) x14_4 t268 (t268.length : Int) x78_5 = some r) ∧ Aside0 (kq ≤ k4) ∧ Aside0 (Kd.R (Kd.int .i64) 3 w' w.heap.size (fun _ => True) (.slice Ao30 t268.length co30) t268) ∧ Aside0 (w'.heap[gb262]? = some (.cells #[(.slice A3_0 l3_0.length c3_0), .int .i64 a3_1] 27 (0, 0))) ∧ Aside0 (Below w.heap.size w w'))
     case atStart => exact ⟨(0), qx7_7, H', ⟨Nat.le_refl _⟩, ⟨by (with_reducible repeat (first | apply Kd.R_alloc | apply Kd.R_drewN | apply Kd.R_drew)); exact HO270.out⟩, ⟨qx7_2⟩, ⟨qx7_0⟩⟩
     clear H'
     try clear c1
     try clear c2
     try clear p2
     try clear q2
     try clear hx2
     try clear qi2
     try clear c3
     try clear c6
     try clear c6b0
     try clear c6b1
     try clear p6
     try clear c11
     try clear c11b0
     try clear c11b1
     try clear c14
     try clear c15
     try clear c15b0
     try clear c16
     try clear c16b0
     try clear c17
     try clear c17b0
     try clear c18
     try clear c18b0
     try clear c19
     try clear c19b0
     try clear c20
     try clear c21
     try clear c21b0
     try clear c21b1
     try clear c22
     try clear c22b0
     try clear c22b1
     try clear c23
     try clear c23b0
     try clear c23b1
     try clear c24
     try clear c24b0
     try clear c24b1
     try clear c26
     try clear p26
     try clear q26
     try clear hx26
     try clear qi26
     try clear c27
     try clear c27b0
     try clear hcz12_0
     try clear hcz12_1
     try clear hcz13_0
     try clear hcz13_1
     try clear hcz25_0
     try clear hcz25_1
     try clear hcz9_0
     try clear hcz9_1
     try clear hfz12_0
     try clear hfz12_1
     try clear hfz13_0
     try clear hfz13_1
     try clear hfz25_0
     try clear hfz25_1
     try clear hfz9_0
     try clear hfz9_1
     try clear hx265_0
     try clear hx266_0
     try clear hx267_0
     try clear p2
     try clear p26
     try clear p265
     try clear p266
     try clear p267
     try clear p6
     try clear q2
     try clear q26
     try clear q265
     try clear q266
     try clear q267
     obtain ⟨x78_5, rfl, HA, HK5, HO_76, BK262, HB⟩ := hrel
     cases gk with
     | zero => exact absurd HA.out (by simp [segmentation_Verify.l2])
     | succ k5 =>
      have H := HA.out
      clear HA
      simp only [segmentation_Verify.l2] at H
      by_cases c31 : x78_5 < (t268.length : Int)
      rotate_left
      ·rw [if_neg c31] at H
       have c31b0 : decide (x78_5 < (t268.length : Int)) = false := decide_eq_false c31
       clear c31
       have H' := Aside0.mk H
       clear H
       go_wp2
       repeat (go_quiet (fail); try go_wp2)
       go_roundg k5
       case measure => have := HJ6.out; have := HK2.out; have := HJ19.out; have := HK4.out; have := HK5.out; omega
       case rel => exact ⟨(wrap64 (x14_4 + 1)), qx7_7, H', ⟨by have := HJ6.out; have := HK2.out; have := HJ19.out; have := HK4.out; have := HK5.out; omega⟩, ⟨qx7_2⟩, ⟨qx7_0⟩⟩
      rw [if_pos c31] at H
      have c31b0 : decide (x78_5 < (t268.length : Int)) = true := decide_eq_true c31
      clear c31
      by_cases c32 : 0 ≤ x78_5
      rotate_left
      ·rw [if_neg c32] at H
       exact absurd H (by simp)
      rw [if_pos c32] at H
      have c32b0 : decide (0 ≤ x78_5) = true := decide_eq_true c32
      clear c32
      by_cases c33 : x78_5 < (t268.length : Int)
      rotate_left
      ·rw [if_neg c33] at H
       exact absurd H (by simp)
      rw [if_pos c33] at H
      have c33b0 : decide (x78_5 < (t268.length : Int)) = true := decide_eq_true c33
      clear c33
      by_cases c34 : 0 ≤ x14_4
      rotate_left
      ·rw [if_neg c34] at H
       exact absurd H (by simp)
      rw [if_pos c34] at H
      have c34b0 : decide (0 ≤ x14_4) = true := decide_eq_true c34
      clear c34
      by_cases c35 : x14_4 < (l2.length : Int)
      rotate_left
      ·rw [if_neg c35] at H
       exact absurd H (by simp)
      rw [if_pos c35] at H
      have c35b0 : decide (x14_4 < (l2.length : Int)) = true := decide_eq_true c35
      clear c35
      by_cases c36 : x78_5 < (l2.length : Int)
      rotate_left
      ·rw [if_neg c36] at H
       exact absurd H (by simp)
      rw [if_pos c36] at H
      have c36b0 : decide (x78_5 < (l2.length : Int)) = true := decide_eq_true c36
      clear c36
      by_cases c37 : (rd l2 x14_4) > (wrap64 ((wrap64 ((rd l2 x78_5) + a1)) + (rd t268 x78_5)))
      ·rw [if_pos c37] at H
       have c37b0 : decide ((wrap64 ((wrap64 ((rd l2 x78_5) + a1)) + (rd t268 x78_5))) < (rd l2 x14_4)) = true := decide_eq_true c37
       clear c37
       obtain rfl := Option.some.inj H
       have p271 : 0 ≤ (x78_5 : Int) := of_decide_eq_true qx7_4
       have q271 : x78_5 < (t268.length : Int) := of_decide_eq_true qx7_4
       obtain ⟨ad271, e271, hx271_0⟩ := Kd.at_int (Kd.R_reads' HO_76.out).2.2 x78_5 p271 q271
       cases e271
       replace p271 := eq_true p271
       replace q271 := eq_true q271
       have p272 : 0 ≤ (x14_4 : Int) := of_decide_eq_true qx7_4
       have q272 : x14_4 < (l2.length : Int) := of_decide_eq_true qx7_4
       obtain ⟨ad272, e272, hx272_0⟩ := Kd.at_int HR2.out x14_4 p272 q272
       cases e272
       replace hx272_0 := (HB.out.cell (World.block_lt_of_cell? w _ hx272_0)).trans hx272_0
       replace p272 := eq_true p272
       replace q272 := eq_true q272
       have p273 : 0 ≤ (x78_5 : Int) := of_decide_eq_true qx7_4
       have q273 : x78_5 < (l2.length : Int) := of_decide_eq_true qx7_4
       obtain ⟨ad273, e273, hx273_0⟩ := Kd.at_int HR2.out x78_5 p273 q273
       obtain rfl : ad272 = ad273 := (by injection e273)
       replace hx273_0 := (HB.out.cell (World.block_lt_of_cell? w _ hx273_0)).trans hx273_0
       replace p273 := eq_true p273
       replace q273 := eq_true q273
       go_wp2
       repeat (go_quiet (fail); try go_wp2)
       go_ret
       exact ⟨qx7_6, qx7_0⟩
      rw [if_neg c37] at H
      have c37b0 : decide ((wrap64 ((wrap64 ((rd l2 x78_5) + a1)) + (rd t268 x78_5))) < (rd l2 x14_4)) = false := decide_eq_false c37
      clear c37
      have H' := Aside0.mk H
      clear H
      have p271 : 0 ≤ (x78_5 : Int) := of_decide_eq_true qx7_4
      have q271 : x78_5 < (t268.length : Int) := of_decide_eq_true qx7_4
      obtain ⟨ad271, e271, hx271_0⟩ := Kd.at_int (Kd.R_reads' HO_76.out).2.2 x78_5 p271 q271
      cases e271
      replace p271 := eq_true p271
      replace q271 := eq_true q271
      have p272 : 0 ≤ (x14_4 : Int) := of_decide_eq_true qx7_4
      have q272 : x14_4 < (l2.length : Int) := of_decide_eq_true qx7_4
      obtain ⟨ad272, e272, hx272_0⟩ := Kd.at_int HR2.out x14_4 p272 q272
      cases e272
      replace hx272_0 := (HB.out.cell (World.block_lt_of_cell? w _ hx272_0)).trans hx272_0
      replace p272 := eq_true p272
      replace q272 := eq_true q272
      have p273 : 0 ≤ (x78_5 : Int) := of_decide_eq_true qx7_4
      have q273 : x78_5 < (l2.length : Int) := of_decide_eq_true qx7_4
      obtain ⟨ad273, e273, hx273_0⟩ := Kd.at_int HR2.out x78_5 p273 q273
      obtain rfl : ad272 = ad273 := (by injection e273)
      replace hx273_0 := (HB.out.cell (World.block_lt_of_cell? w _ hx273_0)).trans hx273_0
      replace p273 := eq_true p273
      replace q273 := eq_true q273
      go_wp2
      repeat (go_quiet (fail); try go_wp2)
      go_roundg k5
      case measure => have := HJ6.out; have := HK2.out; have := HJ19.out; have := HK4.out; have := HK5.out; omega
      case rel => exact ⟨(wrap64 (x78_5 + 1)), qx7_7, H', ⟨by have := HJ6.out; have := HK2.out; have := HJ19.out; have := HK4.out; have := HK5.out; omega⟩, ⟨by (with_reducible repeat (first | apply Kd.R_alloc | apply Kd.R_drewN | apply Kd.R_drew)); exact HO_76.out⟩, ⟨qx7_2⟩, ⟨qx7_0⟩⟩

end Go.Proofs.Ytiimanpmidnffaa.Q
