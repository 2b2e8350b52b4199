-- Laid by myprint.py (a program of this session's, over the kit's printer and with functions proved by hand)
import Derived.Test.YtcjgmofgfblmnaaTy
import Derived.Test.YtcjgmofgfblmnaaPw
import Derived.Test.YtcjgmofgfblmnaaQgBase
import Derived.Test.YtcjgmofgfblmnaaQgBest
import Derived.Test.YtcjgmofgfblmnaaQgSeries
namespace Go.Proofs.Ytcjgmofgfblmnaa.Q
open Go.RowKit Go.Proofs.YtcjgmofgfblmnaaW.PrintWords Go.Proofs.YtcjgmofgfblmnaaW.PrintLast Go.Proofs.YtcjgmofgfblmnaaW.PrintMore
attribute [local go_sem] max2_int min2_int max_two min_two max_three min_three max_four min_four   -- for this text's walks alone
set_option linter.unusedVariables false
set_option linter.unusedSimpArgs false

abbrev T10522 : Bool := true
abbrev F10522 : Bool := false
abbrev A10522_0 : Array Bool := #[F10522, F10522, F10522, F10522, F10522, F10522, F10522, F10522, F10522, F10522, F10522, F10522, F10522, F10522, F10522, F10522, F10522, F10522]
abbrev A10522_1 : Array Bool := #[T10522, F10522, F10522, F10522, F10522, F10522, F10522, F10522, F10522, F10522, F10522, F10522, F10522, F10522, F10522, F10522, F10522, F10522]
abbrev A10522_2 : Array Bool := #[T10522, T10522, F10522, F10522, F10522, F10522, F10522, F10522, F10522, F10522, F10522, F10522, F10522, F10522, F10522, F10522, F10522, F10522]
abbrev A10522_3 : Array Bool := #[T10522, T10522, F10522, T10522, F10522, F10522, F10522, F10522, F10522, F10522, F10522, F10522, F10522, F10522, F10522, F10522, F10522, F10522]
abbrev A10522_4 : Array Bool := #[T10522, T10522, F10522, T10522, F10522, T10522, F10522, F10522, F10522, F10522, F10522, F10522, F10522, F10522, F10522, F10522, F10522, F10522]
abbrev A10522_5 : Array Bool := #[T10522, T10522, F10522, T10522, F10522, T10522, T10522, F10522, F10522, F10522, F10522, F10522, F10522, F10522, F10522, F10522, F10522, F10522]
abbrev A10522_6 : Array Bool := #[T10522, T10522, F10522, T10522, F10522, T10522, T10522, T10522, F10522, F10522, F10522, F10522, F10522, F10522, F10522, F10522, F10522, F10522]
abbrev A10522_7 : Array Bool := #[T10522, T10522, F10522, T10522, F10522, T10522, T10522, T10522, F10522, T10522, F10522, F10522, F10522, F10522, F10522, F10522, F10522, F10522]
abbrev A10522_8 : Array Bool := #[T10522, T10522, F10522, T10522, F10522, T10522, T10522, T10522, F10522, T10522, T10522, F10522, F10522, F10522, F10522, F10522, F10522, F10522]
abbrev A10522_9 : Array Bool := #[T10522, T10522, F10522, T10522, F10522, T10522, T10522, T10522, F10522, T10522, T10522, T10522, F10522, F10522, F10522, F10522, F10522, F10522]
abbrev A10522_10 : Array Bool := #[T10522, T10522, F10522, T10522, F10522, T10522, T10522, T10522, F10522, T10522, T10522, T10522, T10522, F10522, F10522, F10522, F10522, F10522]
abbrev A10522_11 : Array Bool := #[T10522, T10522, T10522, T10522, F10522, T10522, T10522, T10522, F10522, T10522, T10522, T10522, T10522, F10522, F10522, F10522, F10522, F10522]
abbrev A10522_12 : Array Bool := #[T10522, T10522, T10522, T10522, T10522, T10522, T10522, T10522, F10522, T10522, T10522, T10522, T10522, F10522, F10522, F10522, F10522, F10522]
abbrev A10522_13 : Array Bool := #[T10522, T10522, T10522, T10522, T10522, T10522, T10522, T10522, T10522, T10522, T10522, T10522, T10522, F10522, F10522, F10522, F10522, F10522]
abbrev A10522_14 : Array Bool := #[T10522, T10522, T10522, T10522, T10522, T10522, T10522, T10522, T10522, T10522, T10522, T10522, T10522, T10522, F10522, F10522, F10522, F10522]
abbrev A10522_15 : Array Bool := #[T10522, T10522, T10522, T10522, T10522, T10522, T10522, T10522, T10522, T10522, T10522, T10522, T10522, T10522, T10522, F10522, F10522, F10522]
abbrev A10522_16 : Array Bool := #[T10522, T10522, T10522, T10522, T10522, T10522, T10522, T10522, T10522, T10522, T10522, T10522, T10522, T10522, T10522, T10522, F10522, F10522]
abbrev A10522_17 : Array Bool := #[T10522, T10522, T10522, T10522, T10522, T10522, T10522, T10522, T10522, T10522, T10522, T10522, T10522, T10522, T10522, T10522, T10522, F10522]
abbrev A10522_18 : Array Bool := #[T10522, T10522, T10522, T10522, T10522, T10522, T10522, T10522, T10522, T10522, T10522, T10522, T10522, T10522, T10522, T10522, T10522, T10522]
theorem qgchangepointof_0 {p : Prop} (h : p := by repeat (first | (with_reducible first | exact HB.out | apply below_alloc | apply pw_below_drewN | apply below_drew1 | refine below_set ?_ GE274.out) | exact HB.out)) : p := h
theorem qgchangepointof_1 {p : Prop} (h : p := by (with_reducible repeat (first | refine blk_drewN ?_ _ | refine blk_drew ?_ | refine blk_alloc ?_ _)); exact BK274.out) : p := h
theorem qgchangepointof_2 {p : Prop} (h : p := by repeat (first | (with_reducible first | exact HB.out | apply below_alloc | apply pw_below_drewN | apply below_drew1 | refine below_set ?_ GE274.out | refine below_set ?_ GE282.out) | exact HB.out)) : p := h
theorem qgchangepointof_3 {p : Prop} (h : p := by repeat (first | (with_reducible first | exact HB.out | apply below_alloc | apply pw_below_drewN | apply below_drew1) | exact HB.out)) : p := h
theorem qgchangepointof_4 {p : Prop} (h : p := by repeat (first | exact (Kd.C_below HR0_6.out HB.out) | (with_reducible refine Kd.C_alloc ?_ _) | (with_reducible refine Kd.C_drewN ?_ _) | (with_reducible refine Kd.C_drew ?_))) : p := h
theorem qgchangepointof_5 {p : Prop} (h : p := by (try simp only [List.map_toArray, List.map_cons, List.map_nil]); first | done | rfl | (simp only [List.length_drop, List.length_take]; rfl)) : p := h
theorem qgchangepointof_6 {p : Prop} (h : p := by (with_reducible repeat (first | apply Kd.R_alloc | apply Kd.R_drewN | apply Kd.R_drew)); exact (Kd.R_mono (Kd.R_far (p := ⟨gb282, 1, none⟩) (Kd.R_far (p := ⟨gb282, 0, none⟩) (Kd.R_types HO279.out BK282.out (by decide)) (fun _ hk => hk.2) (.slice Ao18 t277.length co18)) (fun _ hk => hk.2) (.int .i64 t280)) (fun _ h_ => h_.1))) : p := h
theorem qgchangepointof_7 {p : Prop} (h : p := by (with_reducible repeat (first | apply Kd.R_alloc | apply Kd.R_drewN | apply Kd.R_drew)); exact (Kd.R_mono (Kd.R_far (p := ⟨gb282, 1, none⟩) (Kd.R_far (p := ⟨gb282, 0, none⟩) (Kd.R_types HO279.out BK282.out (by decide)) (fun _ hk => hk.2) (.slice Ao42 t277.length co42)) (fun _ hk => hk.2) (.int .i64 t280)) (fun _ h_ => h_.1))) : p := h
theorem qgchangepointof_8 {p : Prop} (h : p := by first | exact Kd.R_nil _ _ _ _ _ | exact Kd.N_nil _ _ _ _ _ | exact Kd.V_nil _ _ _ _ _ | exact Kd.Q_nil _ _ _ _ _ | exact Kd.S_nil _ _ _ _ _) : p := h
theorem qgchangepointof_9 {p : Prop} (h : p := by (with_reducible repeat (first | refine blk_drewN ?_ _ | refine blk_drew ?_ | refine blk_alloc ?_ _)); refine blk_far ?_ NB274_282.out _; (with_reducible repeat (first | refine blk_drewN ?_ _ | refine blk_drew ?_ | refine blk_alloc ?_ _)); refine blk_far ?_ NB274_282.out _; (with_reducible repeat (first | refine blk_drewN ?_ _ | refine blk_drew ?_ | refine blk_alloc ?_ _)); exact BK274.out) : p := h
theorem qgchangepointof_10 {p : Prop} (h : p := by (with_reducible repeat (first | apply Kd.R_alloc | apply Kd.R_drewN | apply Kd.R_drew)); exact HO_11.out) : p := h
theorem qgchangepointof_11 {p : Prop} (h : p := by first | rfl | (simp [errW_none, errW_some] <;> rfl) | (simp [*, errW_none, errW_some] <;> rfl)) : p := h
theorem qgchangepointof_12 {p : Prop} (h : p := by (with_reducible repeat (first | refine blk_drewN ?_ _ | refine blk_drew ?_ | refine blk_alloc ?_ _)); exact BK282.out) : p := h
theorem qgchangepointof_13 {p : Prop} (h : p := by (with_reducible repeat (first | apply Kd.R_alloc | apply Kd.R_drewN | apply Kd.R_drew)); exact HO279.out) : p := h
theorem qgchangepointof_14 {p : Prop} (h : p := by first | (with_reducible assumption) | assumption) : p := h
/-! ### changepoint_Of: function 15 -/
def changepoint_Of.l0 : Nat → List Int → List (S41) → List Int → Int → Int → ByteArray → ByteArray → Int → Int → Int → Int → List Int → Option ((List (S41)) × Int)
 | 0, _, _, _, _, _, _, _, _, _, _, _, _ => none
 | k + 1, x10, x11, x48, x49, x50, x275000, x275001, x275002, x275003, x275004, x275005, x275006 => if x50 < x49 then (if 0 ≤ x50 then (if x50 < (x48.length : Int) then (if x50 < (x10.length : Int) then (if 0 ≤ (wrap64 (x50 + 1)) then (if (wrap64 (x50 + 1)) < (x10.length : Int) then (if x11.length < 5864062014805 then (changepoint_Of.l0 k x10 (x11 ++ [(⟨wrap64 (x275005 + (rd x48 x50)), rd x10 x50, rd x10 (wrap64 (x50 + 1))⟩ : S41)]) x48 x49 (wrap64 (x50 + 1)) x275000 x275001 x275002 x275003 x275004 x275005 x275006) else (none)) else (none)) else (none)) else (none)) else (none)) else (none)) else (some (x11, 0))
def changepoint_Of.f (k : Nat) (a0_0 : ByteArray) (a0_1 : ByteArray) (a0_2 : Int) (a0_3 : Int) (a0_4 : Int) (a0_5 : Int) (l0_6 : List Int) (a1 : Int) : Option ((List (S41)) × Int) := (series_Check.f k a0_0 a0_1 a0_2 a0_3 a0_4 a0_5 l0_6).bind fun t275 => (if t275 = 0 then ((segmentation_Check.f k l0_6 a1).bind fun t276 => (if t276 = 0 then ((segmentation_Best.f k l0_6 a1).bind fun bt277 => (if bt277.2.2 = 0 then ((segmentation_Levels.f k l0_6 bt277.1).bind fun bt283 => (if bt283.2 = 0 then (changepoint_Of.l0 k bt283.1 ([] : List (S41)) bt277.1 (bt277.1.length : Int) 0 a0_0 a0_1 a0_2 a0_3 a0_4 a0_5 l0_6) else (some (([] : List (S41)), bt283.2)))) else (some (([] : List (S41)), bt277.2.2)))) else (some (([] : List (S41)), t276)))) else (some (([] : List (S41)), t275)))
theorem changepoint_Of.mono_l : ∀ k, (∀ y0 y1 y2 y3 y4 y5 y6 y7 y8 y9 y10 y11, LeO (changepoint_Of.l0 k y0 y1 y2 y3 y4 y5 y6 y7 y8 y9 y10 y11) (changepoint_Of.l0 (k + 1) y0 y1 y2 y3 y4 y5 y6 y7 y8 y9 y10 y11))
 | 0 => fun _ _ _ _ _ _ _ _ _ _ _ _ r h => by simp [changepoint_Of.l0] at h
 | k + 1 => by
  have ih0 := changepoint_Of.mono_l k
  ·intro y0 y1 y2 y3 y4 y5 y6 y7 y8 y9 y10 y11
   unfold changepoint_Of.l0
   repeat' first
   | (with_reducible exact ih0 _ _ _ _ _ _ _ _ _ _ _ _)
   | (with_reducible exact segmentation_Best.mono _ _ _)
   | (with_reducible exact segmentation_Check.mono _ _ _)
   | (with_reducible exact segmentation_Levels.mono _ _ _)
   | (with_reducible exact series_Check.mono _ _ _ _ _ _ _ _)
   | (with_reducible exact LeO.refl _)
   | (with_reducible exact LeO.none _)
   | (with_reducible refine LeO.ite ?_ ?_)
   | (with_reducible refine LeO.bind ?_ (fun _ => ?_))
   | exact ih0 _ _ _ _ _ _ _ _ _ _ _ _
   | exact segmentation_Best.mono _ _ _
   | exact segmentation_Check.mono _ _ _
   | exact segmentation_Levels.mono _ _ _
   | exact series_Check.mono _ _ _ _ _ _ _ _
   | exact LeO.none _
   | refine LeO.ite ?_ ?_
   | refine LeO.bind ?_ (fun _ => ?_)
theorem changepoint_Of.mono : ∀ a0 a1 a2 a3 a4 a5 a6 a7 k, LeO (changepoint_Of.f k a0 a1 a2 a3 a4 a5 a6 a7) (changepoint_Of.f (k + 1) a0 a1 a2 a3 a4 a5 a6 a7) := by
 intro a0 a1 a2 a3 a4 a5 a6 a7 k
 have ih0 := changepoint_Of.mono_l k
 unfold changepoint_Of.f
 repeat' first
   | (with_reducible exact ih0 _ _ _ _ _ _ _ _ _ _ _ _)
   | (with_reducible exact segmentation_Best.mono _ _ _)
   | (with_reducible exact segmentation_Check.mono _ _ _)
   | (with_reducible exact segmentation_Levels.mono _ _ _)
   | (with_reducible exact series_Check.mono _ _ _ _ _ _ _ _)
   | (with_reducible exact LeO.refl _)
   | (with_reducible exact LeO.none _)
   | (with_reducible refine LeO.ite ?_ ?_)
   | (with_reducible refine LeO.bind ?_ (fun _ => ?_))
   | exact ih0 _ _ _ _ _ _ _ _ _ _ _ _
   | exact segmentation_Best.mono _ _ _
   | exact segmentation_Check.mono _ _ _
   | exact segmentation_Levels.mono _ _ _
   | exact series_Check.mono _ _ _ _ _ _ _ _
   | exact LeO.none _
   | refine LeO.ite ?_ ?_
   | refine LeO.bind ?_ (fun _ => ?_)
def changepoint_Of.T17 : Bool × List (List Nat × List Nat) := (true, [([], []), ([], []), ([1], [1]), ([], []), ([2, 3], [2, 3]), ([], []), ([], []), ([5, 6], [5, 6]), ([7], [7]), ([], []), ([], []), ([10], [10]), ([9, 11], [9, 11]), ([12], [12]), ([4, 8, 13], [4, 8, 13]), ([14], [14]), ([0, 15], [0, 15]), ([16, 16, 0, 1, 2, 3, 4, 5, 6, 7, 8, 9, 10, 11, 12, 13, 14, 15, 16], [0, 16])])
def changepoint_Of.B17 : List Nat := [0, 0, 2, 0, 14, 0, 0, 96, 224, 0, 0, 1024, 3584, 7680, 16382, 32766, 65535, 131071]
theorem changepoint_Of.tab17 : rtab .any (opsOf Try.f15 17) = changepoint_Of.T17 := by kernel_rfl
theorem changepoint_Of.bits17 : waitsOk changepoint_Of.T17.2 changepoint_Of.B17 = true := by kernel_rfl
set_option maxHeartbeats 8000000 in
set_option maxRecDepth 100000 in
theorem changepoint_Of.calls (k : Nat) (a0_0 : ByteArray) (a0_1 : ByteArray) (a0_2 : Int) (a0_3 : Int) (a0_4 : Int) (a0_5 : Int) (A0_6 : Option Addr) (c0_6 : Nat) (l0_6 : List Int) (a1 : Int) (r1 : List (S41)) (r2 : Int) (w : World) (hr0_6 : Kd.C (Kd.int .i64) w A0_6 l0_6.length l0_6) (hc0_6 : l0_6.length ≤ c0_6) (h : changepoint_Of.f k a0_0 a0_1 a0_2 a0_3 a0_4 a0_5 l0_6 a1 = some (r1, r2)) :
  Calls Try.prog 15 #[.agg #[.string a0_0, .string a0_1, .int .i64 a0_2, .int .i64 a0_3, .int .i64 a0_4, .int .i64 a0_5, .slice A0_6 l0_6.length c0_6], .int .i64 a1] w fun e w' => ∃ v0_ : Value, e = .returned (.tuple #[v0_, .int .i64 r2]) ∧ Kd.R k41 41 w' w.heap.size (fun _ => True) v0_ r1 ∧ Below w.heap.size w w' := by
 have hu28 := Try.underlying28
 have hu35 := Try.underlying35
 have hu41 := Try.underlying41
 have HR0_6 := Aside0.mk hr0_6
 have HC0_6 := Aside0.mk hc0_6
 clear hr0_6 hc0_6
 have HB := Aside0.mk (Below.refl w.heap.size w)
 have H : ((series_Check.f k a0_0 a0_1 a0_2 a0_3 a0_4 a0_5 l0_6).bind fun t275 => (if t275 = 0 then ((segmentation_Check.f k l0_6 a1).bind fun t276 => (if t276 = 0 then ((segmentation_Best.f k l0_6 a1).bind fun bt277 => (if bt277.2.2 = 0 then ((segmentation_Levels.f k l0_6 bt277.1).bind fun bt283 => (if bt283.2 = 0 then (changepoint_Of.l0 k bt283.1 ([] : List (S41)) bt277.1 (bt277.1.length : Int) 0 a0_0 a0_1 a0_2 a0_3 a0_4 a0_5 l0_6) else (some (([] : List (S41)), bt283.2)))) else (some (([] : List (S41)), bt277.2.2)))) else (some (([] : List (S41)), t276)))) else (some (([] : List (S41)), t275)))) = some (r1, r2) := h
 clear h
 replace H := Option.bind_eq_some_iff.mp H
 obtain ⟨t275, A30, H⟩ := H
 replace H : (if t275 = 0 then ((segmentation_Check.f k l0_6 a1).bind fun t276 => (if t276 = 0 then ((segmentation_Best.f k l0_6 a1).bind fun bt277 => (if bt277.2.2 = 0 then ((segmentation_Levels.f k l0_6 bt277.1).bind fun bt283 => (if bt283.2 = 0 then (changepoint_Of.l0 k bt283.1 ([] : List (S41)) bt277.1 (bt277.1.length : Int) 0 a0_0 a0_1 a0_2 a0_3 a0_4 a0_5 l0_6) else (some (([] : List (S41)), bt283.2)))) else (some (([] : List (S41)), bt277.2.2)))) else (some (([] : List (S41)), t276)))) else (some (([] : List (S41)), t275))) = some (r1, r2) := H
 have A3 := Aside0.mk A30
 clear A30
 by_cases c4 : t275 = 0
 rotate_left
 ·rw [if_neg c4] at H
  have c4b0 : (t275 == 0) = false := beq_eq_false_iff_ne.mpr c4
  have c4b1 : (t275 != 0) = true := bne_iff_ne.mpr c4
  simp only [Option.some.injEq, Prod.mk.injEq] at H
  obtain ⟨rfl, rfl⟩ := H
  go_enter Try.func15, Try.ntmps15
  go_wp2_with (first | ((with_reducible refine gate_dst (N := 2) rfl ?_); refine box_event ?hg (N := 2) ?hd (cs := #[.string a0_0, .string a0_1, .int .i64 a0_2, .int .i64 a0_3, .int .i64 a0_4, .int .i64 a0_5, .slice A0_6 l0_6.length c0_6]) (t := 28) ?hr ?_; (case hd => rfl); (case hg => rfl); (case hr => first | (go_simp; done) | (go_simp; rfl)); intro gb274 hg w61 hbox hb; have n0_ := Aside0.mk (below_step qgchangepointof_3 hb); have n1_ := Aside0.mk (hbox); have n2_ := Aside0.mk ((by rw [hg]; exact (below_size qgchangepointof_3) : w.heap.size ≤ gb274)); have n3_ := Aside0.mk ((by rw [hg]; exact (below_size qgchangepointof_3) : w.heap.size ≤ gb274)); clear HB; have HB := n0_; have BK274 := n1_; have GW274 := n2_; have GE274 := n3_; clear n0_ n1_ n2_ n3_; clear hb hbox hg; have hcz62_0 : w61.cell? ⟨gb274, 0, none⟩ = some (.string a0_0) := (blk_cell BK274.out 0).trans rfl; have hcz62_1 : w61.cell? ⟨gb274, 1, none⟩ = some (.string a0_1) := (blk_cell BK274.out 1).trans rfl; have hcz62_2 : w61.cell? ⟨gb274, 2, none⟩ = some (.int .i64 a0_2) := (blk_cell BK274.out 2).trans rfl; have hcz62_3 : w61.cell? ⟨gb274, 3, none⟩ = some (.int .i64 a0_3) := (blk_cell BK274.out 3).trans rfl; have hcz62_4 : w61.cell? ⟨gb274, 4, none⟩ = some (.int .i64 a0_4) := (blk_cell BK274.out 4).trans rfl; have hcz62_5 : w61.cell? ⟨gb274, 5, none⟩ = some (.int .i64 a0_5) := (blk_cell BK274.out 5).trans rfl; have hcz62_6 : w61.cell? ⟨gb274, 6, none⟩ = some (.slice A0_6 l0_6.length c0_6) := (blk_cell BK274.out 6).trans rfl; have hfz62_0 := blk_frozen BK274.out 0; have hfz62_1 := blk_frozen BK274.out 1; have hfz62_2 := blk_frozen BK274.out 2; have hfz62_3 := blk_frozen BK274.out 3; have hfz62_4 := blk_frozen BK274.out 4; have hfz62_5 := blk_frozen BK274.out 5; have hfz62_6 := blk_frozen BK274.out 6) | ((with_reducible refine gate_callee (f := 18) rfl ?_); refine goesL_ (some 15) rfl rfl Try.func18 (by kernel_rfl) rfl #[.agg #[.string a0_0, .string a0_1, .int .i64 a0_2, .int .i64 a0_3, .int .i64 a0_4, .int .i64 a0_5, .slice A0_6 l0_6.length c0_6]] rfl qgchangepointof_5 ?_; (with_reducible refine (series_Check.calls k a0_0 a0_1 a0_2 a0_3 a0_4 a0_5 _ _ l0_6 t275 _ ?side1 ?side2 A3.out).mono ?_); (case side1 => exact qgchangepointof_4); (case side2 => exact HC0_6.out); rintro e w63 ⟨rfl, hb⟩; refine ⟨_, rfl, ?_⟩; have n0_ := Aside0.mk (blk_below (g := gb274) (o := .cells #[.string a0_0, .string a0_1, .int .i64 a0_2, .int .i64 a0_3, .int .i64 a0_4, .int .i64 a0_5, .slice A0_6 l0_6.length c0_6] 28 (0, 0)) qgchangepointof_1 hb); have n1_ := Aside0.mk (below_step qgchangepointof_0 hb); clear BK274; clear HB; have BK274 := n0_; have HB := n1_; clear n0_ n1_; (try clear hb); (try clear hb2); (try clear hk); (try clear hi)))
  go_ret2
  exact ⟨_, qgchangepointof_11, qgchangepointof_8, qgchangepointof_0⟩
 rw [if_pos c4] at H
 have c4b0 : (t275 == 0) = true := beq_iff_eq.mpr c4
 have c4b1 : (t275 != 0) = false := bne_eq_false_iff_eq.mpr c4
 clear c4
 replace H := Option.bind_eq_some_iff.mp H
 obtain ⟨t276, A50, H⟩ := H
 replace H : (if t276 = 0 then ((segmentation_Best.f k l0_6 a1).bind fun bt277 => (if bt277.2.2 = 0 then ((segmentation_Levels.f k l0_6 bt277.1).bind fun bt283 => (if bt283.2 = 0 then (changepoint_Of.l0 k bt283.1 ([] : List (S41)) bt277.1 (bt277.1.length : Int) 0 a0_0 a0_1 a0_2 a0_3 a0_4 a0_5 l0_6) else (some (([] : List (S41)), bt283.2)))) else (some (([] : List (S41)), bt277.2.2)))) else (some (([] : List (S41)), t276))) = some (r1, r2) := H
 have A5 := Aside0.mk A50
 clear A50
 by_cases c6 : t276 = 0
 rotate_left
 ·rw [if_neg c6] at H
  have c6b0 : (t276 == 0) = false := beq_eq_false_iff_ne.mpr c6
  have c6b1 : (t276 != 0) = true := bne_iff_ne.mpr c6
  simp only [Option.some.injEq, Prod.mk.injEq] at H
  obtain ⟨rfl, rfl⟩ := H
  go_enter Try.func15, Try.ntmps15
  go_wp2_with (first | ((with_reducible refine gate_dst (N := 2) rfl ?_); refine box_event ?hg (N := 2) ?hd (cs := #[.string a0_0, .string a0_1, .int .i64 a0_2, .int .i64 a0_3, .int .i64 a0_4, .int .i64 a0_5, .slice A0_6 l0_6.length c0_6]) (t := 28) ?hr ?_; (case hd => rfl); (case hg => rfl); (case hr => first | (go_simp; done) | (go_simp; rfl)); intro gb274 hg w57 hbox hb; have n0_ := Aside0.mk (below_step qgchangepointof_3 hb); have n1_ := Aside0.mk (hbox); have n2_ := Aside0.mk ((by rw [hg]; exact (below_size qgchangepointof_3) : w.heap.size ≤ gb274)); have n3_ := Aside0.mk ((by rw [hg]; exact (below_size qgchangepointof_3) : w.heap.size ≤ gb274)); clear HB; have HB := n0_; have BK274 := n1_; have GW274 := n2_; have GE274 := n3_; clear n0_ n1_ n2_ n3_; clear hb hbox hg; have hcz58_0 : w57.cell? ⟨gb274, 0, none⟩ = some (.string a0_0) := (blk_cell BK274.out 0).trans rfl; have hcz58_1 : w57.cell? ⟨gb274, 1, none⟩ = some (.string a0_1) := (blk_cell BK274.out 1).trans rfl; have hcz58_2 : w57.cell? ⟨gb274, 2, none⟩ = some (.int .i64 a0_2) := (blk_cell BK274.out 2).trans rfl; have hcz58_3 : w57.cell? ⟨gb274, 3, none⟩ = some (.int .i64 a0_3) := (blk_cell BK274.out 3).trans rfl; have hcz58_4 : w57.cell? ⟨gb274, 4, none⟩ = some (.int .i64 a0_4) := (blk_cell BK274.out 4).trans rfl; have hcz58_5 : w57.cell? ⟨gb274, 5, none⟩ = some (.int .i64 a0_5) := (blk_cell BK274.out 5).trans rfl; have hcz58_6 : w57.cell? ⟨gb274, 6, none⟩ = some (.slice A0_6 l0_6.length c0_6) := (blk_cell BK274.out 6).trans rfl; have hfz58_0 := blk_frozen BK274.out 0; have hfz58_1 := blk_frozen BK274.out 1; have hfz58_2 := blk_frozen BK274.out 2; have hfz58_3 := blk_frozen BK274.out 3; have hfz58_4 := blk_frozen BK274.out 4; have hfz58_5 := blk_frozen BK274.out 5; have hfz58_6 := blk_frozen BK274.out 6) | ((with_reducible refine gate_callee (f := 18) rfl ?_); refine goesL_ (some 15) rfl rfl Try.func18 (by kernel_rfl) rfl #[.agg #[.string a0_0, .string a0_1, .int .i64 a0_2, .int .i64 a0_3, .int .i64 a0_4, .int .i64 a0_5, .slice A0_6 l0_6.length c0_6]] rfl qgchangepointof_5 ?_; (with_reducible refine (series_Check.calls k a0_0 a0_1 a0_2 a0_3 a0_4 a0_5 _ _ l0_6 t275 _ ?side1 ?side2 A3.out).mono ?_); (case side1 => exact qgchangepointof_4); (case side2 => exact HC0_6.out); rintro e w59 ⟨rfl, hb⟩; refine ⟨_, rfl, ?_⟩; have n0_ := Aside0.mk (blk_below (g := gb274) (o := .cells #[.string a0_0, .string a0_1, .int .i64 a0_2, .int .i64 a0_3, .int .i64 a0_4, .int .i64 a0_5, .slice A0_6 l0_6.length c0_6] 28 (0, 0)) qgchangepointof_1 hb); have n1_ := Aside0.mk (below_step qgchangepointof_0 hb); clear BK274; clear HB; have BK274 := n0_; have HB := n1_; clear n0_ n1_; (try clear hb); (try clear hb2); (try clear hk); (try clear hi); have hcz60_0 : w59.cell? ⟨gb274, 0, none⟩ = some (.string a0_0) := (blk_cell BK274.out 0).trans rfl; have hcz60_1 : w59.cell? ⟨gb274, 1, none⟩ = some (.string a0_1) := (blk_cell BK274.out 1).trans rfl; have hcz60_2 : w59.cell? ⟨gb274, 2, none⟩ = some (.int .i64 a0_2) := (blk_cell BK274.out 2).trans rfl; have hcz60_3 : w59.cell? ⟨gb274, 3, none⟩ = some (.int .i64 a0_3) := (blk_cell BK274.out 3).trans rfl; have hcz60_4 : w59.cell? ⟨gb274, 4, none⟩ = some (.int .i64 a0_4) := (blk_cell BK274.out 4).trans rfl; have hcz60_5 : w59.cell? ⟨gb274, 5, none⟩ = some (.int .i64 a0_5) := (blk_cell BK274.out 5).trans rfl; have hcz60_6 : w59.cell? ⟨gb274, 6, none⟩ = some (.slice A0_6 l0_6.length c0_6) := (blk_cell BK274.out 6).trans rfl; have hfz60_0 := blk_frozen BK274.out 0; have hfz60_1 := blk_frozen BK274.out 1; have hfz60_2 := blk_frozen BK274.out 2; have hfz60_3 := blk_frozen BK274.out 3; have hfz60_4 := blk_frozen BK274.out 4; have hfz60_5 := blk_frozen BK274.out 5; have hfz60_6 := blk_frozen BK274.out 6) | ((with_reducible refine gate_callee (f := 19) rfl ?_); refine goesL_ (some 22) rfl rfl Try.func19 (by kernel_rfl) rfl #[.slice A0_6 l0_6.length c0_6, .int .i64 a1] rfl qgchangepointof_5 ?_; (with_reducible refine (segmentation_Check.calls k _ _ l0_6 a1 t276 _ ?side1 ?side2 A5.out).mono ?_); (case side1 => exact qgchangepointof_4); (case side2 => exact HC0_6.out); rintro e w' ⟨rfl, ⟨nd, rfl⟩⟩; refine ⟨_, rfl, ?_⟩))
  go_ret2
  exact ⟨_, qgchangepointof_11, qgchangepointof_8, qgchangepointof_0⟩
 rw [if_pos c6] at H
 have c6b0 : (t276 == 0) = true := beq_iff_eq.mpr c6
 have c6b1 : (t276 != 0) = false := bne_eq_false_iff_eq.mpr c6
 clear c6
 replace H := Option.bind_eq_some_iff.mp H
 obtain ⟨⟨t277, t280, t281⟩, A70, H⟩ := H
 replace H : (if t281 = 0 then ((segmentation_Levels.f k l0_6 t277).bind fun bt283 => (if bt283.2 = 0 then (changepoint_Of.l0 k bt283.1 ([] : List (S41)) t277 (t277.length : Int) 0 a0_0 a0_1 a0_2 a0_3 a0_4 a0_5 l0_6) else (some (([] : List (S41)), bt283.2)))) else (some (([] : List (S41)), t281))) = some (r1, r2) := H
 have A7 := Aside0.mk A70
 clear A70
 by_cases c8 : t281 = 0
 rotate_left
 ·rw [if_neg c8] at H
  have c8b0 : (t281 == 0) = false := beq_eq_false_iff_ne.mpr c8
  have c8b1 : (t281 != 0) = true := bne_iff_ne.mpr c8
  simp only [Option.some.injEq, Prod.mk.injEq] at H
  obtain ⟨rfl, rfl⟩ := H
  go_enter Try.func15, Try.ntmps15
  go_wp2_with (first | ((with_reducible refine gate_dst (N := 2) rfl ?_); refine box_event ?hg (N := 2) ?hd (cs := #[.string a0_0, .string a0_1, .int .i64 a0_2, .int .i64 a0_3, .int .i64 a0_4, .int .i64 a0_5, .slice A0_6 l0_6.length c0_6]) (t := 28) ?hr ?_; (case hd => rfl); (case hg => rfl); (case hr => first | (go_simp; done) | (go_simp; rfl)); intro gb274 hg w47 hbox hb; have n0_ := Aside0.mk (below_step qgchangepointof_3 hb); have n1_ := Aside0.mk (hbox); have n2_ := Aside0.mk ((by rw [hg]; exact (below_size qgchangepointof_3) : w.heap.size ≤ gb274)); have n3_ := Aside0.mk ((by rw [hg]; exact (below_size qgchangepointof_3) : w.heap.size ≤ gb274)); clear HB; have HB := n0_; have BK274 := n1_; have GW274 := n2_; have GE274 := n3_; clear n0_ n1_ n2_ n3_; clear hb hbox hg; have hcz48_0 : w47.cell? ⟨gb274, 0, none⟩ = some (.string a0_0) := (blk_cell BK274.out 0).trans rfl; have hcz48_1 : w47.cell? ⟨gb274, 1, none⟩ = some (.string a0_1) := (blk_cell BK274.out 1).trans rfl; have hcz48_2 : w47.cell? ⟨gb274, 2, none⟩ = some (.int .i64 a0_2) := (blk_cell BK274.out 2).trans rfl; have hcz48_3 : w47.cell? ⟨gb274, 3, none⟩ = some (.int .i64 a0_3) := (blk_cell BK274.out 3).trans rfl; have hcz48_4 : w47.cell? ⟨gb274, 4, none⟩ = some (.int .i64 a0_4) := (blk_cell BK274.out 4).trans rfl; have hcz48_5 : w47.cell? ⟨gb274, 5, none⟩ = some (.int .i64 a0_5) := (blk_cell BK274.out 5).trans rfl; have hcz48_6 : w47.cell? ⟨gb274, 6, none⟩ = some (.slice A0_6 l0_6.length c0_6) := (blk_cell BK274.out 6).trans rfl; have hfz48_0 := blk_frozen BK274.out 0; have hfz48_1 := blk_frozen BK274.out 1; have hfz48_2 := blk_frozen BK274.out 2; have hfz48_3 := blk_frozen BK274.out 3; have hfz48_4 := blk_frozen BK274.out 4; have hfz48_5 := blk_frozen BK274.out 5; have hfz48_6 := blk_frozen BK274.out 6) | ((with_reducible refine gate_callee (f := 18) rfl ?_); refine goesL_ (some 15) rfl rfl Try.func18 (by kernel_rfl) rfl #[.agg #[.string a0_0, .string a0_1, .int .i64 a0_2, .int .i64 a0_3, .int .i64 a0_4, .int .i64 a0_5, .slice A0_6 l0_6.length c0_6]] rfl qgchangepointof_5 ?_; (with_reducible refine (series_Check.calls k a0_0 a0_1 a0_2 a0_3 a0_4 a0_5 _ _ l0_6 t275 _ ?side1 ?side2 A3.out).mono ?_); (case side1 => exact qgchangepointof_4); (case side2 => exact HC0_6.out); rintro e w49 ⟨rfl, hb⟩; refine ⟨_, rfl, ?_⟩; have n0_ := Aside0.mk (blk_below (g := gb274) (o := .cells #[.string a0_0, .string a0_1, .int .i64 a0_2, .int .i64 a0_3, .int .i64 a0_4, .int .i64 a0_5, .slice A0_6 l0_6.length c0_6] 28 (0, 0)) qgchangepointof_1 hb); have n1_ := Aside0.mk (below_step qgchangepointof_0 hb); clear BK274; clear HB; have BK274 := n0_; have HB := n1_; clear n0_ n1_; (try clear hb); (try clear hb2); (try clear hk); (try clear hi); have hcz50_0 : w49.cell? ⟨gb274, 0, none⟩ = some (.string a0_0) := (blk_cell BK274.out 0).trans rfl; have hcz50_1 : w49.cell? ⟨gb274, 1, none⟩ = some (.string a0_1) := (blk_cell BK274.out 1).trans rfl; have hcz50_2 : w49.cell? ⟨gb274, 2, none⟩ = some (.int .i64 a0_2) := (blk_cell BK274.out 2).trans rfl; have hcz50_3 : w49.cell? ⟨gb274, 3, none⟩ = some (.int .i64 a0_3) := (blk_cell BK274.out 3).trans rfl; have hcz50_4 : w49.cell? ⟨gb274, 4, none⟩ = some (.int .i64 a0_4) := (blk_cell BK274.out 4).trans rfl; have hcz50_5 : w49.cell? ⟨gb274, 5, none⟩ = some (.int .i64 a0_5) := (blk_cell BK274.out 5).trans rfl; have hcz50_6 : w49.cell? ⟨gb274, 6, none⟩ = some (.slice A0_6 l0_6.length c0_6) := (blk_cell BK274.out 6).trans rfl; have hfz50_0 := blk_frozen BK274.out 0; have hfz50_1 := blk_frozen BK274.out 1; have hfz50_2 := blk_frozen BK274.out 2; have hfz50_3 := blk_frozen BK274.out 3; have hfz50_4 := blk_frozen BK274.out 4; have hfz50_5 := blk_frozen BK274.out 5; have hfz50_6 := blk_frozen BK274.out 6) | ((with_reducible refine gate_callee (f := 19) rfl ?_); refine goesL_ (some 22) rfl rfl Try.func19 (by kernel_rfl) rfl #[.slice A0_6 l0_6.length c0_6, .int .i64 a1] rfl qgchangepointof_5 ?_; (with_reducible refine (segmentation_Check.calls k _ _ l0_6 a1 t276 _ ?side1 ?side2 A5.out).mono ?_); (case side1 => exact qgchangepointof_4); (case side2 => exact HC0_6.out); rintro e w' ⟨rfl, ⟨nd, rfl⟩⟩; refine ⟨_, rfl, ?_⟩; (try (rw [drewN_self w49]; generalize hq_ : World.drewN w49 _ = w49; have n0_ : Aside0 (w49.heap[gb274]? = some (.cells #[.string a0_0, .string a0_1, .int .i64 a0_2, .int .i64 a0_3, .int .i64 a0_4, .int .i64 a0_5, .slice A0_6 l0_6.length c0_6] 28 (0, 0))) := ⟨by rw [← hq_]; exact qgchangepointof_1⟩; have n1_ : Aside0 (Below w.heap.size w w49) := ⟨by rw [← hq_]; exact qgchangepointof_0⟩; clear BK274 HB hq_; have BK274 := n0_; have HB := n1_; clear n0_ n1_; have hcz51_0 : w49.cell? ⟨gb274, 0, none⟩ = some (.string a0_0) := (blk_cell BK274.out 0).trans rfl; have hfz51_0 := blk_frozen BK274.out 0; have hcz51_1 : w49.cell? ⟨gb274, 1, none⟩ = some (.string a0_1) := (blk_cell BK274.out 1).trans rfl; have hfz51_1 := blk_frozen BK274.out 1; have hcz51_2 : w49.cell? ⟨gb274, 2, none⟩ = some (.int .i64 a0_2) := (blk_cell BK274.out 2).trans rfl; have hfz51_2 := blk_frozen BK274.out 2; have hcz51_3 : w49.cell? ⟨gb274, 3, none⟩ = some (.int .i64 a0_3) := (blk_cell BK274.out 3).trans rfl; have hfz51_3 := blk_frozen BK274.out 3; have hcz51_4 : w49.cell? ⟨gb274, 4, none⟩ = some (.int .i64 a0_4) := (blk_cell BK274.out 4).trans rfl; have hfz51_4 := blk_frozen BK274.out 4; have hcz51_5 : w49.cell? ⟨gb274, 5, none⟩ = some (.int .i64 a0_5) := (blk_cell BK274.out 5).trans rfl; have hfz51_5 := blk_frozen BK274.out 5; have hcz51_6 : w49.cell? ⟨gb274, 6, none⟩ = some (.slice A0_6 l0_6.length c0_6) := (blk_cell BK274.out 6).trans rfl; have hfz51_6 := blk_frozen BK274.out 6))) | ((with_reducible refine gate_callee (f := 16) rfl ?_); refine goesL_ (some 30) rfl rfl Try.func16 (by kernel_rfl) rfl #[.slice A0_6 l0_6.length c0_6, .int .i64 a1] rfl qgchangepointof_5 ?_; (with_reducible refine (segmentation_Best.calls k _ _ l0_6 a1 t277 t280 t281 _ ?side1 ?side2 A7.out).mono ?_); (case side1 => exact qgchangepointof_4); (case side2 => exact HC0_6.out); rintro e w52 ⟨v278, rfl, ho0, hb⟩; refine ⟨_, rfl, ?_⟩; have n0_ := Aside0.mk (Kd.R_lower ho0 (below_size qgchangepointof_0)); have n1_ := Aside0.mk (blk_below (g := gb274) (o := .cells #[.string a0_0, .string a0_1, .int .i64 a0_2, .int .i64 a0_3, .int .i64 a0_4, .int .i64 a0_5, .slice A0_6 l0_6.length c0_6] 28 (0, 0)) qgchangepointof_1 hb); have n2_ := Aside0.mk (below_step qgchangepointof_0 hb); clear BK274; clear HB; have HO279 := n0_; have BK274 := n1_; have HB := n2_; clear n0_ n1_ n2_; (try clear hb); (try clear hb2); (try clear hk); (try clear hi); (try clear ho0)) | ((with_reducible refine gate_dst (N := 8) rfl ?_); refine box_event ?hg (N := 8) ?hd (cs := #[.slice none 0 0, .int .i64 0]) (t := 35) ?hr ?_; (case hd => rfl); (case hg => rfl); (case hr => first | (go_simp; done) | (go_simp; rfl)); intro gb282 hg w53 hbox hb; have n0_ := Aside0.mk (Kd.R_below qgchangepointof_13 hb); have n1_ := Aside0.mk (blk_below (g := gb274) (o := .cells #[.string a0_0, .string a0_1, .int .i64 a0_2, .int .i64 a0_3, .int .i64 a0_4, .int .i64 a0_5, .slice A0_6 l0_6.length c0_6] 28 (0, 0)) qgchangepointof_1 hb); have n2_ := Aside0.mk (below_step qgchangepointof_0 hb); have n3_ := Aside0.mk (hbox); have n4_ := Aside0.mk ((by rw [hg]; exact (below_size qgchangepointof_0) : w.heap.size ≤ gb282)); have n5_ := Aside0.mk ((by rw [hg]; exact (below_size qgchangepointof_0) : w.heap.size ≤ gb282)); have n6_ := Aside0.mk ((by rw [hg]; exact Nat.ne_of_lt (blk_lt (g := gb274) (o := .cells #[.string a0_0, .string a0_1, .int .i64 a0_2, .int .i64 a0_3, .int .i64 a0_4, .int .i64 a0_5, .slice A0_6 l0_6.length c0_6] 28 (0, 0)) qgchangepointof_1) : gb274 ≠ gb282)); have n7_ := Aside0.mk ((by rw [hg]; exact Nat.ne_of_gt (blk_lt (g := gb274) (o := .cells #[.string a0_0, .string a0_1, .int .i64 a0_2, .int .i64 a0_3, .int .i64 a0_4, .int .i64 a0_5, .slice A0_6 l0_6.length c0_6] 28 (0, 0)) qgchangepointof_1) : gb282 ≠ gb274)); clear HO279; clear BK274; clear HB; have HO279 := n0_; have BK274 := n1_; have HB := n2_; have BK282 := n3_; have GW282 := n4_; have GE282 := n5_; have NB274_282 := n6_; have NB282_274 := n7_; clear n0_ n1_ n2_ n3_ n4_ n5_ n6_ n7_; clear hb hbox hg; obtain ⟨Ao54, co54, eo54⟩ := Kd.R_slice HO279.out; subst eo54; have hnb55 := NB282_274.out; have hnc55 := NB274_282.out; have hcz56_0 : w53.cell? ⟨gb282, 0, none⟩ = some (.slice none 0 0) := (blk_cell BK282.out 0).trans rfl; have hcz56_1 : w53.cell? ⟨gb282, 1, none⟩ = some (.int .i64 0) := (blk_cell BK282.out 1).trans rfl; have hfz56_0 := blk_frozen BK282.out 0; have hfz56_1 := blk_frozen BK282.out 1))
  go_ret2
  exact ⟨_, qgchangepointof_11, qgchangepointof_8, qgchangepointof_2⟩
 rw [if_pos c8] at H
 have c8b0 : (t281 == 0) = true := beq_iff_eq.mpr c8
 have c8b1 : (t281 != 0) = false := bne_eq_false_iff_eq.mpr c8
 clear c8
 replace H := Option.bind_eq_some_iff.mp H
 obtain ⟨⟨t283, t284⟩, A90, H⟩ := H
 replace H : (if t284 = 0 then (changepoint_Of.l0 k t283 ([] : List (S41)) t277 (t277.length : Int) 0 a0_0 a0_1 a0_2 a0_3 a0_4 a0_5 l0_6) else (some (([] : List (S41)), t284))) = some (r1, r2) := H
 have A9 := Aside0.mk A90
 clear A90
 by_cases c10 : t284 = 0
 rotate_left
 ·rw [if_neg c10] at H
  have c10b0 : (t284 == 0) = false := beq_eq_false_iff_ne.mpr c10
  have c10b1 : (t284 != 0) = true := bne_iff_ne.mpr c10
  simp only [Option.some.injEq, Prod.mk.injEq] at H
  obtain ⟨rfl, rfl⟩ := H
  go_enter Try.func15, Try.ntmps15
  go_wp2_with (first | ((with_reducible refine gate_dst (N := 2) rfl ?_); refine box_event ?hg (N := 2) ?hd (cs := #[.string a0_0, .string a0_1, .int .i64 a0_2, .int .i64 a0_3, .int .i64 a0_4, .int .i64 a0_5, .slice A0_6 l0_6.length c0_6]) (t := 28) ?hr ?_; (case hd => rfl); (case hg => rfl); (case hr => first | (go_simp; done) | (go_simp; rfl)); intro gb274 hg w35 hbox hb; have n0_ := Aside0.mk (below_step qgchangepointof_3 hb); have n1_ := Aside0.mk (hbox); have n2_ := Aside0.mk ((by rw [hg]; exact (below_size qgchangepointof_3) : w.heap.size ≤ gb274)); have n3_ := Aside0.mk ((by rw [hg]; exact (below_size qgchangepointof_3) : w.heap.size ≤ gb274)); clear HB; have HB := n0_; have BK274 := n1_; have GW274 := n2_; have GE274 := n3_; clear n0_ n1_ n2_ n3_; clear hb hbox hg; have hcz36_0 : w35.cell? ⟨gb274, 0, none⟩ = some (.string a0_0) := (blk_cell BK274.out 0).trans rfl; have hcz36_1 : w35.cell? ⟨gb274, 1, none⟩ = some (.string a0_1) := (blk_cell BK274.out 1).trans rfl; have hcz36_2 : w35.cell? ⟨gb274, 2, none⟩ = some (.int .i64 a0_2) := (blk_cell BK274.out 2).trans rfl; have hcz36_3 : w35.cell? ⟨gb274, 3, none⟩ = some (.int .i64 a0_3) := (blk_cell BK274.out 3).trans rfl; have hcz36_4 : w35.cell? ⟨gb274, 4, none⟩ = some (.int .i64 a0_4) := (blk_cell BK274.out 4).trans rfl; have hcz36_5 : w35.cell? ⟨gb274, 5, none⟩ = some (.int .i64 a0_5) := (blk_cell BK274.out 5).trans rfl; have hcz36_6 : w35.cell? ⟨gb274, 6, none⟩ = some (.slice A0_6 l0_6.length c0_6) := (blk_cell BK274.out 6).trans rfl; have hfz36_0 := blk_frozen BK274.out 0; have hfz36_1 := blk_frozen BK274.out 1; have hfz36_2 := blk_frozen BK274.out 2; have hfz36_3 := blk_frozen BK274.out 3; have hfz36_4 := blk_frozen BK274.out 4; have hfz36_5 := blk_frozen BK274.out 5; have hfz36_6 := blk_frozen BK274.out 6) | ((with_reducible refine gate_callee (f := 18) rfl ?_); refine goesL_ (some 15) rfl rfl Try.func18 (by kernel_rfl) rfl #[.agg #[.string a0_0, .string a0_1, .int .i64 a0_2, .int .i64 a0_3, .int .i64 a0_4, .int .i64 a0_5, .slice A0_6 l0_6.length c0_6]] rfl qgchangepointof_5 ?_; (with_reducible refine (series_Check.calls k a0_0 a0_1 a0_2 a0_3 a0_4 a0_5 _ _ l0_6 t275 _ ?side1 ?side2 A3.out).mono ?_); (case side1 => exact qgchangepointof_4); (case side2 => exact HC0_6.out); rintro e w37 ⟨rfl, hb⟩; refine ⟨_, rfl, ?_⟩; have n0_ := Aside0.mk (blk_below (g := gb274) (o := .cells #[.string a0_0, .string a0_1, .int .i64 a0_2, .int .i64 a0_3, .int .i64 a0_4, .int .i64 a0_5, .slice A0_6 l0_6.length c0_6] 28 (0, 0)) qgchangepointof_1 hb); have n1_ := Aside0.mk (below_step qgchangepointof_0 hb); clear BK274; clear HB; have BK274 := n0_; have HB := n1_; clear n0_ n1_; (try clear hb); (try clear hb2); (try clear hk); (try clear hi); have hcz38_0 : w37.cell? ⟨gb274, 0, none⟩ = some (.string a0_0) := (blk_cell BK274.out 0).trans rfl; have hcz38_1 : w37.cell? ⟨gb274, 1, none⟩ = some (.string a0_1) := (blk_cell BK274.out 1).trans rfl; have hcz38_2 : w37.cell? ⟨gb274, 2, none⟩ = some (.int .i64 a0_2) := (blk_cell BK274.out 2).trans rfl; have hcz38_3 : w37.cell? ⟨gb274, 3, none⟩ = some (.int .i64 a0_3) := (blk_cell BK274.out 3).trans rfl; have hcz38_4 : w37.cell? ⟨gb274, 4, none⟩ = some (.int .i64 a0_4) := (blk_cell BK274.out 4).trans rfl; have hcz38_5 : w37.cell? ⟨gb274, 5, none⟩ = some (.int .i64 a0_5) := (blk_cell BK274.out 5).trans rfl; have hcz38_6 : w37.cell? ⟨gb274, 6, none⟩ = some (.slice A0_6 l0_6.length c0_6) := (blk_cell BK274.out 6).trans rfl; have hfz38_0 := blk_frozen BK274.out 0; have hfz38_1 := blk_frozen BK274.out 1; have hfz38_2 := blk_frozen BK274.out 2; have hfz38_3 := blk_frozen BK274.out 3; have hfz38_4 := blk_frozen BK274.out 4; have hfz38_5 := blk_frozen BK274.out 5; have hfz38_6 := blk_frozen BK274.out 6) | ((with_reducible refine gate_callee (f := 19) rfl ?_); refine goesL_ (some 22) rfl rfl Try.func19 (by kernel_rfl) rfl #[.slice A0_6 l0_6.length c0_6, .int .i64 a1] rfl qgchangepointof_5 ?_; (with_reducible refine (segmentation_Check.calls k _ _ l0_6 a1 t276 _ ?side1 ?side2 A5.out).mono ?_); (case side1 => exact qgchangepointof_4); (case side2 => exact HC0_6.out); rintro e w' ⟨rfl, ⟨nd, rfl⟩⟩; refine ⟨_, rfl, ?_⟩; (try (rw [drewN_self w37]; generalize hq_ : World.drewN w37 _ = w37; have n0_ : Aside0 (w37.heap[gb274]? = some (.cells #[.string a0_0, .string a0_1, .int .i64 a0_2, .int .i64 a0_3, .int .i64 a0_4, .int .i64 a0_5, .slice A0_6 l0_6.length c0_6] 28 (0, 0))) := ⟨by rw [← hq_]; exact qgchangepointof_1⟩; have n1_ : Aside0 (Below w.heap.size w w37) := ⟨by rw [← hq_]; exact qgchangepointof_0⟩; clear BK274 HB hq_; have BK274 := n0_; have HB := n1_; clear n0_ n1_; have hcz39_0 : w37.cell? ⟨gb274, 0, none⟩ = some (.string a0_0) := (blk_cell BK274.out 0).trans rfl; have hfz39_0 := blk_frozen BK274.out 0; have hcz39_1 : w37.cell? ⟨gb274, 1, none⟩ = some (.string a0_1) := (blk_cell BK274.out 1).trans rfl; have hfz39_1 := blk_frozen BK274.out 1; have hcz39_2 : w37.cell? ⟨gb274, 2, none⟩ = some (.int .i64 a0_2) := (blk_cell BK274.out 2).trans rfl; have hfz39_2 := blk_frozen BK274.out 2; have hcz39_3 : w37.cell? ⟨gb274, 3, none⟩ = some (.int .i64 a0_3) := (blk_cell BK274.out 3).trans rfl; have hfz39_3 := blk_frozen BK274.out 3; have hcz39_4 : w37.cell? ⟨gb274, 4, none⟩ = some (.int .i64 a0_4) := (blk_cell BK274.out 4).trans rfl; have hfz39_4 := blk_frozen BK274.out 4; have hcz39_5 : w37.cell? ⟨gb274, 5, none⟩ = some (.int .i64 a0_5) := (blk_cell BK274.out 5).trans rfl; have hfz39_5 := blk_frozen BK274.out 5; have hcz39_6 : w37.cell? ⟨gb274, 6, none⟩ = some (.slice A0_6 l0_6.length c0_6) := (blk_cell BK274.out 6).trans rfl; have hfz39_6 := blk_frozen BK274.out 6))) | ((with_reducible refine gate_callee (f := 16) rfl ?_); refine goesL_ (some 30) rfl rfl Try.func16 (by kernel_rfl) rfl #[.slice A0_6 l0_6.length c0_6, .int .i64 a1] rfl qgchangepointof_5 ?_; (with_reducible refine (segmentation_Best.calls k _ _ l0_6 a1 t277 t280 t281 _ ?side1 ?side2 A7.out).mono ?_); (case side1 => exact qgchangepointof_4); (case side2 => exact HC0_6.out); rintro e w40 ⟨v278, rfl, ho0, hb⟩; refine ⟨_, rfl, ?_⟩; have n0_ := Aside0.mk (Kd.R_lower ho0 (below_size qgchangepointof_0)); have n1_ := Aside0.mk (blk_below (g := gb274) (o := .cells #[.string a0_0, .string a0_1, .int .i64 a0_2, .int .i64 a0_3, .int .i64 a0_4, .int .i64 a0_5, .slice A0_6 l0_6.length c0_6] 28 (0, 0)) qgchangepointof_1 hb); have n2_ := Aside0.mk (below_step qgchangepointof_0 hb); clear BK274; clear HB; have HO279 := n0_; have BK274 := n1_; have HB := n2_; clear n0_ n1_ n2_; (try clear hb); (try clear hb2); (try clear hk); (try clear hi); (try clear ho0)) | ((with_reducible refine gate_dst (N := 8) rfl ?_); refine box_event ?hg (N := 8) ?hd (cs := #[.slice none 0 0, .int .i64 0]) (t := 35) ?hr ?_; (case hd => rfl); (case hg => rfl); (case hr => first | (go_simp; done) | (go_simp; rfl)); intro gb282 hg w41 hbox hb; have n0_ := Aside0.mk (Kd.R_below qgchangepointof_13 hb); have n1_ := Aside0.mk (blk_below (g := gb274) (o := .cells #[.string a0_0, .string a0_1, .int .i64 a0_2, .int .i64 a0_3, .int .i64 a0_4, .int .i64 a0_5, .slice A0_6 l0_6.length c0_6] 28 (0, 0)) qgchangepointof_1 hb); have n2_ := Aside0.mk (below_step qgchangepointof_0 hb); have n3_ := Aside0.mk (hbox); have n4_ := Aside0.mk ((by rw [hg]; exact (below_size qgchangepointof_0) : w.heap.size ≤ gb282)); have n5_ := Aside0.mk ((by rw [hg]; exact (below_size qgchangepointof_0) : w.heap.size ≤ gb282)); have n6_ := Aside0.mk ((by rw [hg]; exact Nat.ne_of_lt (blk_lt (g := gb274) (o := .cells #[.string a0_0, .string a0_1, .int .i64 a0_2, .int .i64 a0_3, .int .i64 a0_4, .int .i64 a0_5, .slice A0_6 l0_6.length c0_6] 28 (0, 0)) qgchangepointof_1) : gb274 ≠ gb282)); have n7_ := Aside0.mk ((by rw [hg]; exact Nat.ne_of_gt (blk_lt (g := gb274) (o := .cells #[.string a0_0, .string a0_1, .int .i64 a0_2, .int .i64 a0_3, .int .i64 a0_4, .int .i64 a0_5, .slice A0_6 l0_6.length c0_6] 28 (0, 0)) qgchangepointof_1) : gb282 ≠ gb274)); clear HO279; clear BK274; clear HB; have HO279 := n0_; have BK274 := n1_; have HB := n2_; have BK282 := n3_; have GW282 := n4_; have GE282 := n5_; have NB274_282 := n6_; have NB282_274 := n7_; clear n0_ n1_ n2_ n3_ n4_ n5_ n6_ n7_; clear hb hbox hg; obtain ⟨Ao42, co42, eo42⟩ := Kd.R_slice HO279.out; subst eo42; have hnb43 := NB282_274.out; have hnc43 := NB274_282.out; have hcz44_0 : w41.cell? ⟨gb282, 0, none⟩ = some (.slice none 0 0) := (blk_cell BK282.out 0).trans rfl; have hcz44_1 : w41.cell? ⟨gb282, 1, none⟩ = some (.int .i64 0) := (blk_cell BK282.out 1).trans rfl; have hfz44_0 := blk_frozen BK282.out 0; have hfz44_1 := blk_frozen BK282.out 1; have hcz45_0 : w41.cell? ⟨gb274, 0, none⟩ = some (.string a0_0) := (blk_cell BK274.out 0).trans rfl; have hcz45_1 : w41.cell? ⟨gb274, 1, none⟩ = some (.string a0_1) := (blk_cell BK274.out 1).trans rfl; have hcz45_2 : w41.cell? ⟨gb274, 2, none⟩ = some (.int .i64 a0_2) := (blk_cell BK274.out 2).trans rfl; have hcz45_3 : w41.cell? ⟨gb274, 3, none⟩ = some (.int .i64 a0_3) := (blk_cell BK274.out 3).trans rfl; have hcz45_4 : w41.cell? ⟨gb274, 4, none⟩ = some (.int .i64 a0_4) := (blk_cell BK274.out 4).trans rfl; have hcz45_5 : w41.cell? ⟨gb274, 5, none⟩ = some (.int .i64 a0_5) := (blk_cell BK274.out 5).trans rfl; have hcz45_6 : w41.cell? ⟨gb274, 6, none⟩ = some (.slice A0_6 l0_6.length c0_6) := (blk_cell BK274.out 6).trans rfl; have hfz45_0 := blk_frozen BK274.out 0; have hfz45_1 := blk_frozen BK274.out 1; have hfz45_2 := blk_frozen BK274.out 2; have hfz45_3 := blk_frozen BK274.out 3; have hfz45_4 := blk_frozen BK274.out 4; have hfz45_5 := blk_frozen BK274.out 5; have hfz45_6 := blk_frozen BK274.out 6) | ((with_reducible refine gate_callee (f := 17) rfl ?_); refine goesL_ (some 41) rfl rfl Try.func17 (by kernel_rfl) rfl #[.slice A0_6 l0_6.length c0_6, .slice Ao42 t277.length co42] rfl qgchangepointof_5 ?_; (with_reducible refine (segmentation_Levels.calls k _ _ l0_6 _ _ t277 t283 t284 _ ?side1 ?side2 ?side3 ?side4 A9.out).mono ?_); (case side1 => exact Kd.C_below HR0_6.out qgchangepointof_2); (case side2 => exact HC0_6.out); (case side3 => refine (Kd.R_reads' (e := 3) (base := w.heap.size) (ok := fun k_ => True) (n := t277.length) (c := co42) ?_).2.2; exact qgchangepointof_7); (case side4 => exact (Kd.R_reads' HO279.out).2.1); rintro e w46 ⟨v285, rfl, ho0, hb⟩; refine ⟨_, rfl, ?_⟩; have n0_ := Aside0.mk (Kd.R_elder' qgchangepointof_7 (Kd.R_base ho0) hb); have n1_ := Aside0.mk (Kd.R_lower (Kd.R_new' ho0 (Kd.R_lt qgchangepointof_7)) (below_size qgchangepointof_2)); have n2_ := Aside0.mk (blk_below (g := gb274) (o := .cells #[.string a0_0, .string a0_1, .int .i64 a0_2, .int .i64 a0_3, .int .i64 a0_4, .int .i64 a0_5, .slice A0_6 l0_6.length c0_6] 28 (0, 0)) qgchangepointof_9 hb); have n3_ := Aside0.mk (blk_below (g := gb282) (o := .cells #[.slice Ao42 t277.length co42, .int .i64 t280] 35 (0, 0)) (by (with_reducible repeat (first | refine blk_drewN ?_ _ | refine blk_drew ?_ | refine blk_alloc ?_ _)); refine blk_put (cs := #[.slice Ao42 t277.length co42, .int .i64 0]) ?_ 1 _ rfl; (with_reducible repeat (first | refine blk_drewN ?_ _ | refine blk_drew ?_ | refine blk_alloc ?_ _)); refine blk_put (cs := #[.slice none 0 0, .int .i64 0]) ?_ 0 _ rfl; (with_reducible repeat (first | refine blk_drewN ?_ _ | refine blk_drew ?_ | refine blk_alloc ?_ _)); exact BK282.out) hb); have n4_ := Aside0.mk (below_step qgchangepointof_2 hb); clear HO279; clear BK274; clear BK282; clear HB; have HO279 := n0_; have HO286 := n1_; have BK274 := n2_; have BK282 := n3_; have HB := n4_; clear n0_ n1_ n2_ n3_ n4_; (try clear hb); (try clear hb2); (try clear hk); (try clear hi); (try clear ho0)))
  go_ret2
  exact ⟨_, qgchangepointof_11, qgchangepointof_8, qgchangepointof_2⟩
 rw [if_pos c10] at H
 have c10b0 : (t284 == 0) = true := beq_iff_eq.mpr c10
 have c10b1 : (t284 != 0) = false := bne_eq_false_iff_eq.mpr c10
 clear c10
 have H' := Aside0.mk H
 clear H
 go_enter Try.func15, Try.ntmps15
 go_wp2_with (first | ((with_reducible refine gate_dst (N := 2) rfl ?_); refine box_event ?hg (N := 2) ?hd (cs := #[.string a0_0, .string a0_1, .int .i64 a0_2, .int .i64 a0_3, .int .i64 a0_4, .int .i64 a0_5, .slice A0_6 l0_6.length c0_6]) (t := 28) ?hr ?_; (case hd => rfl); (case hg => rfl); (case hr => first | (go_simp; done) | (go_simp; rfl)); intro gb274 hg w11 hbox hb; have n0_ := Aside0.mk (below_step qgchangepointof_3 hb); have n1_ := Aside0.mk (hbox); have n2_ := Aside0.mk ((by rw [hg]; exact (below_size qgchangepointof_3) : w.heap.size ≤ gb274)); have n3_ := Aside0.mk ((by rw [hg]; exact (below_size qgchangepointof_3) : w.heap.size ≤ gb274)); clear HB; have HB := n0_; have BK274 := n1_; have GW274 := n2_; have GE274 := n3_; clear n0_ n1_ n2_ n3_; clear hb hbox hg; have hcz12_0 : w11.cell? ⟨gb274, 0, none⟩ = some (.string a0_0) := (blk_cell BK274.out 0).trans rfl; have hcz12_1 : w11.cell? ⟨gb274, 1, none⟩ = some (.string a0_1) := (blk_cell BK274.out 1).trans rfl; have hcz12_2 : w11.cell? ⟨gb274, 2, none⟩ = some (.int .i64 a0_2) := (blk_cell BK274.out 2).trans rfl; have hcz12_3 : w11.cell? ⟨gb274, 3, none⟩ = some (.int .i64 a0_3) := (blk_cell BK274.out 3).trans rfl; have hcz12_4 : w11.cell? ⟨gb274, 4, none⟩ = some (.int .i64 a0_4) := (blk_cell BK274.out 4).trans rfl; have hcz12_5 : w11.cell? ⟨gb274, 5, none⟩ = some (.int .i64 a0_5) := (blk_cell BK274.out 5).trans rfl; have hcz12_6 : w11.cell? ⟨gb274, 6, none⟩ = some (.slice A0_6 l0_6.length c0_6) := (blk_cell BK274.out 6).trans rfl; have hfz12_0 := blk_frozen BK274.out 0; have hfz12_1 := blk_frozen BK274.out 1; have hfz12_2 := blk_frozen BK274.out 2; have hfz12_3 := blk_frozen BK274.out 3; have hfz12_4 := blk_frozen BK274.out 4; have hfz12_5 := blk_frozen BK274.out 5; have hfz12_6 := blk_frozen BK274.out 6) | ((with_reducible refine gate_callee (f := 18) rfl ?_); refine goesL_ (some 15) rfl rfl Try.func18 (by kernel_rfl) rfl #[.agg #[.string a0_0, .string a0_1, .int .i64 a0_2, .int .i64 a0_3, .int .i64 a0_4, .int .i64 a0_5, .slice A0_6 l0_6.length c0_6]] rfl qgchangepointof_5 ?_; (with_reducible refine (series_Check.calls k a0_0 a0_1 a0_2 a0_3 a0_4 a0_5 _ _ l0_6 t275 _ ?side1 ?side2 A3.out).mono ?_); (case side1 => exact qgchangepointof_4); (case side2 => exact HC0_6.out); rintro e w13 ⟨rfl, hb⟩; refine ⟨_, rfl, ?_⟩; have n0_ := Aside0.mk (blk_below (g := gb274) (o := .cells #[.string a0_0, .string a0_1, .int .i64 a0_2, .int .i64 a0_3, .int .i64 a0_4, .int .i64 a0_5, .slice A0_6 l0_6.length c0_6] 28 (0, 0)) qgchangepointof_1 hb); have n1_ := Aside0.mk (below_step qgchangepointof_0 hb); clear BK274; clear HB; have BK274 := n0_; have HB := n1_; clear n0_ n1_; (try clear hb); (try clear hb2); (try clear hk); (try clear hi); have hcz14_0 : w13.cell? ⟨gb274, 0, none⟩ = some (.string a0_0) := (blk_cell BK274.out 0).trans rfl; have hcz14_1 : w13.cell? ⟨gb274, 1, none⟩ = some (.string a0_1) := (blk_cell BK274.out 1).trans rfl; have hcz14_2 : w13.cell? ⟨gb274, 2, none⟩ = some (.int .i64 a0_2) := (blk_cell BK274.out 2).trans rfl; have hcz14_3 : w13.cell? ⟨gb274, 3, none⟩ = some (.int .i64 a0_3) := (blk_cell BK274.out 3).trans rfl; have hcz14_4 : w13.cell? ⟨gb274, 4, none⟩ = some (.int .i64 a0_4) := (blk_cell BK274.out 4).trans rfl; have hcz14_5 : w13.cell? ⟨gb274, 5, none⟩ = some (.int .i64 a0_5) := (blk_cell BK274.out 5).trans rfl; have hcz14_6 : w13.cell? ⟨gb274, 6, none⟩ = some (.slice A0_6 l0_6.length c0_6) := (blk_cell BK274.out 6).trans rfl; have hfz14_0 := blk_frozen BK274.out 0; have hfz14_1 := blk_frozen BK274.out 1; have hfz14_2 := blk_frozen BK274.out 2; have hfz14_3 := blk_frozen BK274.out 3; have hfz14_4 := blk_frozen BK274.out 4; have hfz14_5 := blk_frozen BK274.out 5; have hfz14_6 := blk_frozen BK274.out 6) | ((with_reducible refine gate_callee (f := 19) rfl ?_); refine goesL_ (some 22) rfl rfl Try.func19 (by kernel_rfl) rfl #[.slice A0_6 l0_6.length c0_6, .int .i64 a1] rfl qgchangepointof_5 ?_; (with_reducible refine (segmentation_Check.calls k _ _ l0_6 a1 t276 _ ?side1 ?side2 A5.out).mono ?_); (case side1 => exact qgchangepointof_4); (case side2 => exact HC0_6.out); rintro e w' ⟨rfl, ⟨nd, rfl⟩⟩; refine ⟨_, rfl, ?_⟩; (try (rw [drewN_self w13]; generalize hq_ : World.drewN w13 _ = w13; have n0_ : Aside0 (w13.heap[gb274]? = some (.cells #[.string a0_0, .string a0_1, .int .i64 a0_2, .int .i64 a0_3, .int .i64 a0_4, .int .i64 a0_5, .slice A0_6 l0_6.length c0_6] 28 (0, 0))) := ⟨by rw [← hq_]; exact qgchangepointof_1⟩; have n1_ : Aside0 (Below w.heap.size w w13) := ⟨by rw [← hq_]; exact qgchangepointof_0⟩; clear BK274 HB hq_; have BK274 := n0_; have HB := n1_; clear n0_ n1_; have hcz15_0 : w13.cell? ⟨gb274, 0, none⟩ = some (.string a0_0) := (blk_cell BK274.out 0).trans rfl; have hfz15_0 := blk_frozen BK274.out 0; have hcz15_1 : w13.cell? ⟨gb274, 1, none⟩ = some (.string a0_1) := (blk_cell BK274.out 1).trans rfl; have hfz15_1 := blk_frozen BK274.out 1; have hcz15_2 : w13.cell? ⟨gb274, 2, none⟩ = some (.int .i64 a0_2) := (blk_cell BK274.out 2).trans rfl; have hfz15_2 := blk_frozen BK274.out 2; have hcz15_3 : w13.cell? ⟨gb274, 3, none⟩ = some (.int .i64 a0_3) := (blk_cell BK274.out 3).trans rfl; have hfz15_3 := blk_frozen BK274.out 3; have hcz15_4 : w13.cell? ⟨gb274, 4, none⟩ = some (.int .i64 a0_4) := (blk_cell BK274.out 4).trans rfl; have hfz15_4 := blk_frozen BK274.out 4; have hcz15_5 : w13.cell? ⟨gb274, 5, none⟩ = some (.int .i64 a0_5) := (blk_cell BK274.out 5).trans rfl; have hfz15_5 := blk_frozen BK274.out 5; have hcz15_6 : w13.cell? ⟨gb274, 6, none⟩ = some (.slice A0_6 l0_6.length c0_6) := (blk_cell BK274.out 6).trans rfl; have hfz15_6 := blk_frozen BK274.out 6))) | ((with_reducible refine gate_callee (f := 16) rfl ?_); refine goesL_ (some 30) rfl rfl Try.func16 (by kernel_rfl) rfl #[.slice A0_6 l0_6.length c0_6, .int .i64 a1] rfl qgchangepointof_5 ?_; (with_reducible refine (segmentation_Best.calls k _ _ l0_6 a1 t277 t280 t281 _ ?side1 ?side2 A7.out).mono ?_); (case side1 => exact qgchangepointof_4); (case side2 => exact HC0_6.out); rintro e w16 ⟨v278, rfl, ho0, hb⟩; refine ⟨_, rfl, ?_⟩; have n0_ := Aside0.mk (Kd.R_lower ho0 (below_size qgchangepointof_0)); have n1_ := Aside0.mk (blk_below (g := gb274) (o := .cells #[.string a0_0, .string a0_1, .int .i64 a0_2, .int .i64 a0_3, .int .i64 a0_4, .int .i64 a0_5, .slice A0_6 l0_6.length c0_6] 28 (0, 0)) qgchangepointof_1 hb); have n2_ := Aside0.mk (below_step qgchangepointof_0 hb); clear BK274; clear HB; have HO279 := n0_; have BK274 := n1_; have HB := n2_; clear n0_ n1_ n2_; (try clear hb); (try clear hb2); (try clear hk); (try clear hi); (try clear ho0)) | ((with_reducible refine gate_dst (N := 8) rfl ?_); refine box_event ?hg (N := 8) ?hd (cs := #[.slice none 0 0, .int .i64 0]) (t := 35) ?hr ?_; (case hd => rfl); (case hg => rfl); (case hr => first | (go_simp; done) | (go_simp; rfl)); intro gb282 hg w17 hbox hb; have n0_ := Aside0.mk (Kd.R_below qgchangepointof_13 hb); have n1_ := Aside0.mk (blk_below (g := gb274) (o := .cells #[.string a0_0, .string a0_1, .int .i64 a0_2, .int .i64 a0_3, .int .i64 a0_4, .int .i64 a0_5, .slice A0_6 l0_6.length c0_6] 28 (0, 0)) qgchangepointof_1 hb); have n2_ := Aside0.mk (below_step qgchangepointof_0 hb); have n3_ := Aside0.mk (hbox); have n4_ := Aside0.mk ((by rw [hg]; exact (below_size qgchangepointof_0) : w.heap.size ≤ gb282)); have n5_ := Aside0.mk ((by rw [hg]; exact (below_size qgchangepointof_0) : w.heap.size ≤ gb282)); have n6_ := Aside0.mk ((by rw [hg]; exact Nat.ne_of_lt (blk_lt (g := gb274) (o := .cells #[.string a0_0, .string a0_1, .int .i64 a0_2, .int .i64 a0_3, .int .i64 a0_4, .int .i64 a0_5, .slice A0_6 l0_6.length c0_6] 28 (0, 0)) qgchangepointof_1) : gb274 ≠ gb282)); have n7_ := Aside0.mk ((by rw [hg]; exact Nat.ne_of_gt (blk_lt (g := gb274) (o := .cells #[.string a0_0, .string a0_1, .int .i64 a0_2, .int .i64 a0_3, .int .i64 a0_4, .int .i64 a0_5, .slice A0_6 l0_6.length c0_6] 28 (0, 0)) qgchangepointof_1) : gb282 ≠ gb274)); clear HO279; clear BK274; clear HB; have HO279 := n0_; have BK274 := n1_; have HB := n2_; have BK282 := n3_; have GW282 := n4_; have GE282 := n5_; have NB274_282 := n6_; have NB282_274 := n7_; clear n0_ n1_ n2_ n3_ n4_ n5_ n6_ n7_; clear hb hbox hg; obtain ⟨Ao18, co18, eo18⟩ := Kd.R_slice HO279.out; subst eo18; have hnb19 := NB282_274.out; have hnc19 := NB274_282.out; have hcz20_0 : w17.cell? ⟨gb282, 0, none⟩ = some (.slice none 0 0) := (blk_cell BK282.out 0).trans rfl; have hcz20_1 : w17.cell? ⟨gb282, 1, none⟩ = some (.int .i64 0) := (blk_cell BK282.out 1).trans rfl; have hfz20_0 := blk_frozen BK282.out 0; have hfz20_1 := blk_frozen BK282.out 1; have hcz21_0 : w17.cell? ⟨gb274, 0, none⟩ = some (.string a0_0) := (blk_cell BK274.out 0).trans rfl; have hcz21_1 : w17.cell? ⟨gb274, 1, none⟩ = some (.string a0_1) := (blk_cell BK274.out 1).trans rfl; have hcz21_2 : w17.cell? ⟨gb274, 2, none⟩ = some (.int .i64 a0_2) := (blk_cell BK274.out 2).trans rfl; have hcz21_3 : w17.cell? ⟨gb274, 3, none⟩ = some (.int .i64 a0_3) := (blk_cell BK274.out 3).trans rfl; have hcz21_4 : w17.cell? ⟨gb274, 4, none⟩ = some (.int .i64 a0_4) := (blk_cell BK274.out 4).trans rfl; have hcz21_5 : w17.cell? ⟨gb274, 5, none⟩ = some (.int .i64 a0_5) := (blk_cell BK274.out 5).trans rfl; have hcz21_6 : w17.cell? ⟨gb274, 6, none⟩ = some (.slice A0_6 l0_6.length c0_6) := (blk_cell BK274.out 6).trans rfl; have hfz21_0 := blk_frozen BK274.out 0; have hfz21_1 := blk_frozen BK274.out 1; have hfz21_2 := blk_frozen BK274.out 2; have hfz21_3 := blk_frozen BK274.out 3; have hfz21_4 := blk_frozen BK274.out 4; have hfz21_5 := blk_frozen BK274.out 5; have hfz21_6 := blk_frozen BK274.out 6) | ((with_reducible refine gate_callee (f := 17) rfl ?_); refine goesL_ (some 41) rfl rfl Try.func17 (by kernel_rfl) rfl #[.slice A0_6 l0_6.length c0_6, .slice Ao18 t277.length co18] rfl qgchangepointof_5 ?_; (with_reducible refine (segmentation_Levels.calls k _ _ l0_6 _ _ t277 t283 t284 _ ?side1 ?side2 ?side3 ?side4 A9.out).mono ?_); (case side1 => exact Kd.C_below HR0_6.out qgchangepointof_2); (case side2 => exact HC0_6.out); (case side3 => refine (Kd.R_reads' (e := 3) (base := w.heap.size) (ok := fun k_ => True) (n := t277.length) (c := co18) ?_).2.2; exact qgchangepointof_6); (case side4 => exact (Kd.R_reads' HO279.out).2.1); rintro e w22 ⟨v285, rfl, ho0, hb⟩; refine ⟨_, rfl, ?_⟩; have n0_ := Aside0.mk (Kd.R_elder' qgchangepointof_6 (Kd.R_base ho0) hb); have n1_ := Aside0.mk (Kd.R_lower (Kd.R_new' ho0 (Kd.R_lt qgchangepointof_6)) (below_size qgchangepointof_2)); have n2_ := Aside0.mk (blk_below (g := gb274) (o := .cells #[.string a0_0, .string a0_1, .int .i64 a0_2, .int .i64 a0_3, .int .i64 a0_4, .int .i64 a0_5, .slice A0_6 l0_6.length c0_6] 28 (0, 0)) qgchangepointof_9 hb); have n3_ := Aside0.mk (blk_below (g := gb282) (o := .cells #[.slice Ao18 t277.length co18, .int .i64 t280] 35 (0, 0)) (by (with_reducible repeat (first | refine blk_drewN ?_ _ | refine blk_drew ?_ | refine blk_alloc ?_ _)); refine blk_put (cs := #[.slice Ao18 t277.length co18, .int .i64 0]) ?_ 1 _ rfl; (with_reducible repeat (first | refine blk_drewN ?_ _ | refine blk_drew ?_ | refine blk_alloc ?_ _)); refine blk_put (cs := #[.slice none 0 0, .int .i64 0]) ?_ 0 _ rfl; (with_reducible repeat (first | refine blk_drewN ?_ _ | refine blk_drew ?_ | refine blk_alloc ?_ _)); exact BK282.out) hb); have n4_ := Aside0.mk (below_step qgchangepointof_2 hb); clear HO279; clear BK274; clear BK282; clear HB; have HO279 := n0_; have HO286 := n1_; have BK274 := n2_; have BK282 := n3_; have HB := n4_; clear n0_ n1_ n2_ n3_ n4_; (try clear hb); (try clear hb2); (try clear hk); (try clear hi); (try clear ho0); have hcz23_0 : w22.cell? ⟨gb282, 0, none⟩ = some (.slice Ao18 t277.length co18) := (blk_cell BK282.out 0).trans rfl; have hcz23_1 : w22.cell? ⟨gb282, 1, none⟩ = some (.int .i64 t280) := (blk_cell BK282.out 1).trans rfl; have hfz23_0 := blk_frozen BK282.out 0; have hfz23_1 := blk_frozen BK282.out 1))
 go_loopg [11, 50] k (fun kq v11 v50 w' => ∃ (x11_1 : List (S41)) (x50_1 : Int), v50 = .int .i64 x50_1 ∧ Aside0 (changepoint_Of.l0 kq t283 x11_1 t277 (t277.length : Int) x50_1 a0_0 a0_1 a0_2 a0_3 a0_4 a0_5 l0_6 = some (r1, r2)) ∧ Aside0 (kq ≤ k) ∧ Aside0 (Kd.R (Kd.int .i64) 3 w' w.heap.size (fun k_ => some k_ ≠ ((.slice Ao18 t277.length co18) : Value).ownBlock ∧ some k_ ≠ ((.slice Ao18 t277.length co18) : Value).ownBlock) v285 t283) ∧ Aside0 (Kd.R k41 41 w' w.heap.size (fun _ => True) v11 x11_1) ∧ Aside0 (Kd.R (Kd.int .i64) 3 w' w.heap.size (fun k_ => some k_ ≠ (v285 : Value).ownBlock) (.slice Ao18 t277.length co18) t277) ∧ Aside0 (Kd.R (Kd.int .i64) 3 w' w.heap.size (fun k_ => some k_ ≠ (v285 : Value).ownBlock) (.slice Ao18 t277.length co18) t277) ∧ Aside0 (w'.heap[gb274]? = some (.cells #[.string a0_0, .string a0_1, .int .i64 a0_2, .int .i64 a0_3, .int .i64 a0_4, .int .i64 a0_5, (.slice A0_6 l0_6.length c0_6)] 28 (0, 0))) ∧ Aside0 (w'.heap[gb282]? = some (.cells #[(.slice Ao18 t277.length co18), .int .i64 t280] 35 (0, 0))) ∧ Aside0 (Below w.heap.size w w'))
 case atStart => exact ⟨(([] : List (S41))), (0), (by first | rfl | (simp; done) | (simp [*]; done)), H', ⟨Nat.le_refl _⟩, ⟨by (with_reducible repeat (first | apply Kd.R_alloc | apply Kd.R_drewN | apply Kd.R_drew)); exact Kd.R_mono HO286.out (fun _ hk => ⟨hk.2, hk.2⟩)⟩, ⟨qgchangepointof_8⟩, ⟨by (with_reducible repeat (first | apply Kd.R_alloc | apply Kd.R_drewN | apply Kd.R_drew)); exact Kd.R_mono HO279.out (fun _ hk => hk.2)⟩, ⟨by (with_reducible repeat (first | apply Kd.R_alloc | apply Kd.R_drewN | apply Kd.R_drew)); exact Kd.R_mono HO279.out (fun _ hk => hk.2)⟩, ⟨qgchangepointof_1⟩, ⟨qgchangepointof_12⟩, ⟨qgchangepointof_2⟩⟩
 clear H'
 try clear c1
 try clear p2
 try clear c4
 try clear c4b0
 try clear c4b1
 try clear c6
 try clear c6b0
 try clear c6b1
 try clear c8
 try clear c8b0
 try clear c8b1
 try clear c10
 try clear c10b0
 try clear c10b1
 try clear c15
 try clear c16
 try clear c17
 try clear c18
 try clear c19
 try clear hcz12_0
 try clear hcz12_1
 try clear hcz12_2
 try clear hcz12_3
 try clear hcz12_4
 try clear hcz12_5
 try clear hcz12_6
 try clear hcz14_0
 try clear hcz14_1
 try clear hcz14_2
 try clear hcz14_3
 try clear hcz14_4
 try clear hcz14_5
 try clear hcz14_6
 try clear hcz15_0
 try clear hcz15_1
 try clear hcz15_2
 try clear hcz15_3
 try clear hcz15_4
 try clear hcz15_5
 try clear hcz15_6
 try clear hcz20_0
 try clear hcz20_1
 try clear hcz21_0
 try clear hcz21_1
 try clear hcz21_2
 try clear hcz21_3
 try clear hcz21_4
 try clear hcz21_5
 try clear hcz21_6
 try clear hcz23_0
 try clear hcz23_1
 try clear hfz12_0
 try clear hfz12_1
 try clear hfz12_2
 try clear hfz12_3
 try clear hfz12_4
 try clear hfz12_5
 try clear hfz12_6
 try clear hfz14_0
 try clear hfz14_1
 try clear hfz14_2
 try clear hfz14_3
 try clear hfz14_4
 try clear hfz14_5
 try clear hfz14_6
 try clear hfz15_0
 try clear hfz15_1
 try clear hfz15_2
 try clear hfz15_3
 try clear hfz15_4
 try clear hfz15_5
 try clear hfz15_6
 try clear hfz20_0
 try clear hfz20_1
 try clear hfz21_0
 try clear hfz21_1
 try clear hfz21_2
 try clear hfz21_3
 try clear hfz21_4
 try clear hfz21_5
 try clear hfz21_6
 try clear hfz23_0
 try clear hfz23_1
 obtain ⟨x11_1, x50_1, rfl, HA, HK1, HO_10, HO_11, HO_48, HO_283000, BK274, BK282, HB⟩ := hrel
 cases gk with
 | zero => exact absurd HA.out (by simp [changepoint_Of.l0])
 | succ k1 =>
  have H := HA.out
  clear HA
  simp only [changepoint_Of.l0] at H
  by_cases c24 : x50_1 < (t277.length : Int)
  rotate_left
  ·rw [if_neg c24] at H
   have c24b0 : decide (x50_1 < (t277.length : Int)) = false := decide_eq_false c24
   clear c24
   simp only [Option.some.injEq, Prod.mk.injEq] at H
   obtain ⟨rfl, rfl⟩ := H
   go_wp2
   go_ret2
   exact ⟨_, qgchangepointof_11, qgchangepointof_10, qgchangepointof_2⟩
  rw [if_pos c24] at H
  have c24b0 : decide (x50_1 < (t277.length : Int)) = true := decide_eq_true c24
  clear c24
  by_cases c25 : 0 ≤ x50_1
  rotate_left
  ·rw [if_neg c25] at H
   exact absurd H (by simp)
  rw [if_pos c25] at H
  have c25b0 : decide (0 ≤ x50_1) = true := decide_eq_true c25
  clear c25
  by_cases c26 : x50_1 < (t277.length : Int)
  rotate_left
  ·rw [if_neg c26] at H
   exact absurd H (by simp)
  rw [if_pos c26] at H
  have c26b0 : decide (x50_1 < (t277.length : Int)) = true := decide_eq_true c26
  clear c26
  by_cases c27 : x50_1 < (t283.length : Int)
  rotate_left
  ·rw [if_neg c27] at H
   exact absurd H (by simp)
  rw [if_pos c27] at H
  have c27b0 : decide (x50_1 < (t283.length : Int)) = true := decide_eq_true c27
  clear c27
  obtain ⟨ji28, hji28⟩ : ∃ j_ : Int, (wrap64 (x50_1 + 1)) = j_ := ⟨_, rfl⟩
  replace H : (if 0 ≤ (ji28) then (if (ji28) < (t283.length : Int) then (if x11_1.length < 5864062014805 then (changepoint_Of.l0 k1 t283 (x11_1 ++ [(⟨wrap64 (a0_5 + (rd t277 x50_1)), rd t283 x50_1, rd t283 (ji28)⟩ : S41)]) t277 (t277.length : Int) ji28 a0_0 a0_1 a0_2 a0_3 a0_4 a0_5 l0_6) else (none)) else (none)) else (none)) = some (r1, r2) := by first | (rw [hji28] at H; exact H) | (simp only [hji28] at H ⊢; exact H)
  have hji28w : (IntKind.i64.wrap (x50_1 + 1)) = ji28 := (i64_w _).trans hji28
  by_cases c29 : 0 ≤ (ji28)
  rotate_left
  ·rw [if_neg c29] at H
   exact absurd H (by simp)
  rw [if_pos c29] at H
  have c29b0 : decide (0 ≤ (ji28)) = true := decide_eq_true c29
  clear c29
  by_cases c30 : (ji28) < (t283.length : Int)
  rotate_left
  ·rw [if_neg c30] at H
   exact absurd H (by simp)
  rw [if_pos c30] at H
  have c30b0 : decide ((ji28) < (t283.length : Int)) = true := decide_eq_true c30
  clear c30
  by_cases c31 : x11_1.length < 5864062014805
  rotate_left
  ·rw [if_neg c31] at H
   exact absurd H (by simp)
  rw [if_pos c31] at H
  have LMc31 := Aside0.mk c31
  clear c31
  obtain ⟨y290, hy290⟩ : ∃ y_ : List (S41), y_ = (x11_1 ++ [(⟨wrap64 (a0_5 + (rd t277 x50_1)), rd t283 x50_1, rd t283 (ji28)⟩ : S41)]) := ⟨_, rfl⟩
  replace H : (changepoint_Of.l0 k1 t283 y290 t277 (t277.length : Int) ji28 a0_0 a0_1 a0_2 a0_3 a0_4 a0_5 l0_6) = some (r1, r2) := by first | (rw [hy290]; with_reducible exact H) | (have H2_ := (Option.bind_some _ _).symm.trans H; rw [hy290]; with_reducible exact H2_) | (have H2_ := (Option.bind_some _ _).symm.trans H; with_reducible exact H2_) | with_reducible exact H | (rw [hy290]; exact H) | exact H
  have Ny290 := Aside0.mk hy290
  clear hy290
  have H' := Aside0.mk H
  clear H
  have p287 : 0 ≤ (x50_1 : Int) := of_decide_eq_true qgchangepointof_14
  have q287 : x50_1 < (t277.length : Int) := of_decide_eq_true qgchangepointof_14
  obtain ⟨ad287, e287, hx287_0⟩ := Kd.at_int (Kd.R_reads' HO_48.out).2.2 x50_1 p287 q287
  cases e287
  replace p287 := eq_true p287
  replace q287 := eq_true q287
  try go_wp2
  have n0_ := Aside0.mk (Kd.R_drew HO_10.out)
  have n1_ := Aside0.mk (Kd.R_drew HO_11.out)
  have n2_ := Aside0.mk (Kd.R_drew HO_48.out)
  have n3_ := Aside0.mk (Kd.R_drew HO_283000.out)
  have n4_ := Aside0.mk (blk_drew BK274.out)
  have n5_ := Aside0.mk (blk_drew BK282.out)
  have n6_ := Aside0.mk (below_drew1 HB.out)
  clear HO_10
  clear HO_11
  clear HO_48
  clear HO_283000
  clear BK274
  clear BK282
  clear HB
  have HO_10 := n0_
  have HO_11 := n1_
  have HO_48 := n2_
  have HO_283000 := n3_
  have BK274 := n4_
  have BK282 := n5_
  have HB := n6_
  clear n0_ n1_ n2_ n3_ n4_ n5_ n6_
  obtain ⟨Ao33, co33, eo33⟩ := Kd.R_slice HO_10.out
  (first | subst eo33 | (injection eo33 with f1_ f2_ f3_; have f4_ := f1_.symm; have f5_ := f3_.symm; clear f1_ f2_ f3_; subst f4_; subst f5_))
  have p288 : 0 ≤ (x50_1 : Int) := of_decide_eq_true qgchangepointof_14
  have q288 : x50_1 < (t283.length : Int) := of_decide_eq_true qgchangepointof_14
  obtain ⟨ad288, e288, hx288_0⟩ := Kd.at_int (Kd.R_reads' HO_10.out).2.2 x50_1 p288 q288
  cases e288
  replace p288 := eq_true p288
  replace q288 := eq_true q288
  have p289 : 0 ≤ ((ji28) : Int) := of_decide_eq_true qgchangepointof_14
  have q289 : (ji28) < (t283.length : Int) := of_decide_eq_true qgchangepointof_14
  obtain ⟨ad289, e289, hx289_0⟩ := Kd.at_int (Kd.R_reads' HO_10.out).2.2 (ji28) p289 q289
  obtain rfl : ad288 = ad289 := (by injection e289)
  replace p289 := eq_true p289
  replace q289 := eq_true q289
  refine start_ (n := 18) (S := fun w' => w'.cell? ⟨gb274, 0, none⟩ = some (.string a0_0) ∧ w'.cell? ⟨gb274, 1, none⟩ = some (.string a0_1) ∧ w'.cell? ⟨gb274, 2, none⟩ = some (.int .i64 a0_2) ∧ w'.cell? ⟨gb274, 3, none⟩ = some (.int .i64 a0_3) ∧ w'.cell? ⟨gb274, 4, none⟩ = some (.int .i64 a0_4) ∧ w'.cell? ⟨gb274, 5, none⟩ = some (.int .i64 a0_5) ∧ w'.cell? ⟨gb274, 6, none⟩ = some (.slice A0_6 l0_6.length c0_6) ∧ w'.cell? (ad288.add (x50_1).toNat) = some (.int .i64 (rd t283 x50_1)) ∧ w'.cell? (ad288.add ((ji28)).toNat) = some (.int .i64 (rd t283 (ji28)))) (ds := [15, 16]) A10522_0 (by kernel_rfl) rfl rfl ⟨(blk_cell BK274.out 0).trans rfl, (blk_cell BK274.out 1).trans rfl, (blk_cell BK274.out 2).trans rfl, (blk_cell BK274.out 3).trans rfl, (blk_cell BK274.out 4).trans rfl, (blk_cell BK274.out 5).trans rfl, (blk_cell BK274.out 6).trans rfl, hx288_0, hx289_0⟩ (fun hHeld => ?_); refine with_tabW changepoint_Of.tab17 changepoint_Of.bits17 (fun HT_ HW_ => ?_)
  generalize wr.drew = w32 at HO_10 HO_11 HO_48 HO_283000 BK274 BK282 HB hx288_0 hx289_0 hHeld ⊢
  refine pA_ 0 55 A10522_1 HT_ ?_
  refine pA_ 1 56 A10522_2 HT_ ?_
  refine pA_ 3 58 A10522_3 HT_ ?_
  refine pA_ 5 60 A10522_4 HT_ ?_
  refine pA_ 6 61 A10522_5 HT_ ?_
  refine pA_ 7 62 A10522_6 HT_ ?_
  refine pA_ 9 64 A10522_7 HT_ ?_
  refine pA_ 10 65 A10522_8 HT_ ?_
  refine pA_ 11 66 A10522_9 HT_ ?_
  refine pA_ 12 67 A10522_10 HT_ ?_
  refine take_ (i := 2) (N := some 57) (v := ?_) (a' := ?_) A10522_11 rfl rfl (take_ofW HT_.out HW_.out (by kernel_rfl)) (fun _ _ _ h => h) (Or.inl ⟨by rfl, ?_⟩) hHeld ?_ ?_
  rotate_left
  ·rintro w' ⟨s0, s1, s2, s3, s4, s5, s6, s7, s8⟩
   go_simp
   with_reducible rfl
  rotate_left
  ·simp only [Act.put, List.setIfInBounds_toArray, List.set_cons_zero, List.set_cons_succ, i64_w, i32_w]
   rfl
  refine pA_ 4 59 A10522_12 HT_ ?_
  refine take_ (i := 8) (N := some 63) (v := ?_) (a' := ?_) A10522_13 rfl rfl (take_ofW HT_.out HW_.out (by kernel_rfl)) (fun _ _ _ h => h) (Or.inl ⟨by rfl, ?_⟩) hHeld ?_ ?_
  rotate_left
  ·rintro w' ⟨s0, s1, s2, s3, s4, s5, s6, s7, s8⟩
   go_simp
   with_reducible rfl
  rotate_left
  ·simp only [Act.put, List.setIfInBounds_toArray, List.set_cons_zero, List.set_cons_succ, i64_w, i32_w]
   rfl
  refine take_ (i := 13) (N := some 68) (v := ?_) (a' := ?_) A10522_14 rfl rfl (take_ofW HT_.out HW_.out (by kernel_rfl)) (fun _ _ _ h => h) (Or.inl ⟨by rfl, ?_⟩) hHeld ?_ ?_
  rotate_left
  ·rintro w' ⟨s0, s1, s2, s3, s4, s5, s6, s7, s8⟩
   go_simp
   with_reducible rfl
  rotate_left
  ·simp only [Act.put, List.setIfInBounds_toArray, List.set_cons_zero, List.set_cons_succ, i64_w, i32_w]
   rfl
  refine pA_ 14 69 A10522_15 HT_ ?_
  refine last_ (i := 15) (N := some 70) A10522_16 rfl rfl (one_of HT_.out (by kernel_rfl)) (by decide) (fun K hK => ?_)
  refine value_ (w1 := ?_) (v := ?_) (by rfl) rfl ?_ ?_
  rotate_left 2
  ·go_simp
   constructor
   ·rfl
   ·rfl
  refine hK.out _ _ ?_
  clear hK K
  refine norm_ (a' := ?_) ?_ ?_
  rotate_left
  ·show Act.put _ (some 70) _ = _
   simp only [Act.put, List.setIfInBounds_toArray, List.set_cons_zero, List.set_cons_succ, i64_w, i32_w]
   rfl
  refine last_ (i := 16) (N := some 71) A10522_17 rfl rfl (one_of HT_.out (by kernel_rfl)) (by decide) (fun K hK => ?_)
  refine Kd.R_append_step k41 (w0 := w) w.heap.size (by rfl) (.tmp 55) (.tmp 70) 30 41 (.agg #[(.int .i64 0), (.int .i64 0), (.int .i64 0)]) 24 rfl Try.underlying30 info41 rfl (by decide) (by omega) u11 x11_1 (⟨wrap64 (a0_5 + (rd t277 x50_1)), rd t283 x50_1, rd t283 (ji28)⟩ : S41) [.int .i64 (wrap64 (a0_5 + (rd t277 x50_1))), .int .i64 (rd t283 x50_1), .int .i64 (rd t283 (ji28))] (fun _ => True) (fun _ => False) rfl rfl ?aP (fun _ hk => hk.elim) ?aF ?aO ?aB ?aS ?aL ?_
  (case aP => exact k41_mkM _ _ _ (⟨wrap64 (a0_5 + (rd t277 x50_1)), rd t283 x50_1, rd t283 (ji28)⟩ : S41))
  (case aB => exact qgchangepointof_2)
  (case aF => exact (fun _ _ => trivial))
  (case aO => exact qgchangepointof_10)
  (case aS => exact (below_size qgchangepointof_2))
  (case aL => have := LMc31.out; omega)
  intro v291 w34 ho hb hg hat
  rw [← Ny290.out] at ho
  have n0_ := Aside0.mk (Kd.R_over' (by (with_reducible repeat (first | apply Kd.R_alloc | apply Kd.R_drewN | apply Kd.R_drew)); exact HO_10.out) (Kd.R_typed qgchangepointof_10) (by decide) hg)
  have n1_ := Aside0.mk (Kd.R_over' (by (with_reducible repeat (first | apply Kd.R_alloc | apply Kd.R_drewN | apply Kd.R_drew)); exact HO_48.out) (Kd.R_typed qgchangepointof_10) (by decide) hg)
  have n2_ := Aside0.mk (Kd.R_over' (by (with_reducible repeat (first | apply Kd.R_alloc | apply Kd.R_drewN | apply Kd.R_drew)); exact HO_283000.out) (Kd.R_typed qgchangepointof_10) (by decide) hg)
  have n3_ := Aside0.mk (blk_grown (g := gb274) (o := .cells #[.string a0_0, .string a0_1, .int .i64 a0_2, .int .i64 a0_3, .int .i64 a0_4, .int .i64 a0_5, .slice A0_6 l0_6.length c0_6] 28 (0, 0)) qgchangepointof_1 hg (Kd.R_ne HO_11.out BK274.out (by decide)))
  have n4_ := Aside0.mk (blk_grown (g := gb282) (o := .cells #[.slice (some ad287) t277.length co18, .int .i64 t280] 35 (0, 0)) qgchangepointof_12 hg (Kd.R_ne HO_11.out BK282.out (by decide)))
  have n5_ := Aside0.mk (hb)
  have n6_ := Aside0.mk (ho)
  clear HO_10
  clear HO_48
  clear HO_283000
  clear BK274
  clear BK282
  clear HB
  clear HO_11
  have HO_10 := n0_
  have HO_48 := n1_
  have HO_283000 := n2_
  have BK274 := n3_
  have BK282 := n4_
  have HB := n5_
  have HO292 := n6_
  clear n0_ n1_ n2_ n3_ n4_ n5_ n6_
  clear ho hb hg hat
  refine hK.out _ _ ?_
  clear hK K
  refine norm_ (a' := ?_) ?_ ?_
  rotate_left
  ·show Act.put _ (some 71) _ = _
   simp only [Act.put, List.setIfInBounds_toArray, List.set_cons_zero, List.set_cons_succ, i64_w, i32_w]
   rfl
  refine pA_ 17 11 A10522_18 HT_ ?_
  refine done_ (done_of HT_.out (by kernel_rfl)) ?_
  try go_wp2
  go_roundg k1
  case measure => have := HK1.out; omega
  case rel => exact ⟨(y290), (ji28), (by first | rfl | (simp; done) | (simp only [← hji28] <;> (first | rfl | simp)) | (simp [*]; done)), H', ⟨by have := HK1.out; omega⟩, ⟨by (with_reducible repeat (first | apply Kd.R_alloc | apply Kd.R_drewN | apply Kd.R_drew)); exact HO_10.out⟩, ⟨by (with_reducible repeat (first | apply Kd.R_alloc | apply Kd.R_drewN | apply Kd.R_drew)); exact HO292.out⟩, ⟨by (with_reducible repeat (first | apply Kd.R_alloc | apply Kd.R_drewN | apply Kd.R_drew)); exact HO_48.out⟩, ⟨by (with_reducible repeat (first | apply Kd.R_alloc | apply Kd.R_drewN | apply Kd.R_drew)); exact HO_283000.out⟩, ⟨qgchangepointof_1⟩, ⟨qgchangepointof_12⟩, ⟨qgchangepointof_2⟩⟩

end Go.Proofs.Ytcjgmofgfblmnaa.Q
