-- Laid by myprint.py (a program of this session's, over the kit's printer and with functions proved by hand)
import Derived.Test.YtcjgmofgfblmnaaTy
import Derived.Test.YtcjgmofgfblmnaaQgBase
import Derived.Test.YtcjgmofgfblmnaaQgSeries
import Derived.Test.YtcjgmofgfblmnaaHd
namespace Go.Proofs.Ytcjgmofgfblmnaa.Q
open Go.RowKit Go.Proofs.YtcjgmofgfblmnaaW.PrintWords Go.Proofs.YtcjgmofgfblmnaaW.PrintLast Go.Proofs.YtcjgmofgfblmnaaW.PrintMore
attribute [local go_sem] max2_int min2_int max_two min_two max_three min_three max_four min_four   -- for this text's walks alone
set_option linter.unusedVariables false
set_option linter.unusedSimpArgs false

attribute [local go_sem high] eqA41 eqA58
theorem qgclu_0 {p : Prop} (h : p := by first | (with_reducible assumption) | assumption) : p := h
theorem qgclu_1 {p : Prop} (h : p := by repeat (first | (with_reducible first | exact HB.out | apply below_alloc | apply pw_below_drewN | apply below_drew1) | exact HB.out)) : p := h
theorem qgclu_2 {p : Prop} (h : p := by (with_reducible repeat (first | apply Kd.R_alloc | apply Kd.R_drewN | apply Kd.R_drew)); exact HO_27.out) : p := h
theorem qgclu_3 {p : Prop} (h : p := by (with_reducible repeat (first | apply Kd.S_alloc | apply Kd.S_drewN | apply Kd.S_drew)); exact Kd.S_mono HO_8.out (fun k_ hk => ⟨hk, fun e_ => e_⟩)) : p := h
theorem qgclu_4 {p : Prop} (h : p := by first | exact rfl | exact ⟨_, rfl, Kd.R_nil _ _ _ _ _⟩) : p := h
theorem qgclu_5 {p : Prop} (h : p := by (with_reducible repeat (first | apply Kd.S_alloc | apply Kd.S_drewN | apply Kd.S_drew)); exact HO_8.out) : p := h
theorem qgclu_6 {p : Prop} (h : p := by exact (fun k_ hk => .inr ⟨Kd.fresh' (Kd.R_lt qgclu_2) k_ hk, hk⟩)) : p := h
theorem qgclu_7 {p : Prop} (h : p := by repeat (first | exact (Kd.C_below HR0.out qgclu_1) | (with_reducible refine Kd.C_alloc ?_ _) | (with_reducible refine Kd.C_drewN ?_ _) | (with_reducible refine Kd.C_drew ?_))) : p := h
theorem qgclu_8 {p : Prop} (h : p := by repeat (first | exact (Kd.C_below HR0.out HB.out) | (with_reducible refine Kd.C_alloc ?_ _) | (with_reducible refine Kd.C_drewN ?_ _) | (with_reducible refine Kd.C_drew ?_))) : p := h
theorem qgclu_9 {p : Prop} (h : p := by first | rfl | (simp; done) | (simp [*]; done)) : p := h
theorem qgclu_10 {p : Prop} (h : p := by first | exact Kd.S_nil _ _ _ _ _ | exact Kd.N_nil _ _ _ _ _ | exact Kd.V_nil _ _ _ _ _ | exact Kd.Q_nil _ _ _ _ _ | exact Kd.R_nil _ _ _ _ _) : p := h
theorem qgclu_11 {p : Prop} (h : p := by (with_reducible repeat (first | apply Kd.R_alloc | apply Kd.R_drewN | apply Kd.R_drew)); exact Kd.R_mono UU29.out (fun _ hk => .inl hk)) : p := h
theorem qgclu_12 {p : Prop} (h : p := by (with_reducible repeat (first | apply Kd.R_alloc | apply Kd.R_drewN | apply Kd.R_drew)); exact Kd.R_mono UU50.out (fun _ hk => .inl hk)) : p := h
theorem qgclu_13 {p : Prop} (h : p := by (with_reducible repeat (first | apply Kd.R_alloc | apply Kd.R_drewN | apply Kd.R_drew)); exact Kd.R_mono UU58.out (fun _ hk => .inl hk)) : p := h
theorem qgclu_14 {p : Prop} (h : p := by (with_reducible repeat (first | apply Kd.R_alloc | apply Kd.R_drewN | apply Kd.R_drew)); exact HL361_0.out) : p := h
theorem qgclu_15 {p : Prop} (h : p := by (with_reducible repeat (first | apply Kd.R_alloc | apply Kd.R_drewN | apply Kd.R_drew)); exact HL362_0.out) : p := h
theorem qgclu_16 {p : Prop} (h : p := by repeat (first | exact HH29.out | refine Kd.H_alloc ?_ _ | refine Kd.H_drewN ?_ _ | refine Kd.H_drew ?_)) : p := h
theorem qgclu_17 {p : Prop} (h : p := by repeat (first | exact HH50.out | refine Kd.H_alloc ?_ _ | refine Kd.H_drewN ?_ _ | refine Kd.H_drew ?_)) : p := h
theorem qgclu_18 {p : Prop} (h : p := by repeat (first | exact HH58.out | refine Kd.H_alloc ?_ _ | refine Kd.H_drewN ?_ _ | refine Kd.H_drew ?_)) : p := h
theorem qgclu_19 {p : Prop} (h : p := by first | (go_simp; done) | (go_simp; rfl)) : p := h
theorem qgclu_20 {p : Prop} (h : p := by first | exact q356 | exact of_decide_eq_true qgclu_0 | (have e_ := (Kd.S_reads' HO355.out).1; omega)) : p := h
theorem qgclu_21 {p : Prop} (h : p := by first | exact q367 | exact of_decide_eq_true qgclu_0 | (have e_ := (Kd.S_reads' HO366.out).1; omega)) : p := h
theorem qgclu_22 {p : Prop} (h : p := by repeat (first | (with_reducible exact HR361_0.out) | (with_reducible refine Kd.C_alloc ?_ _) | (with_reducible refine Kd.C_drewN ?_ _) | (with_reducible refine Kd.C_drew ?_) | exact HR361_0.out)) : p := h
theorem qgclu_23 {p : Prop} (h : p := by exact (fun k_ hk => Kd.fresh' (Kd.R_lt qgclu_2) k_ hk)) : p := h
theorem qgclu_24 {p : Prop} (h : p := by first | rfl | (simp [errW_none, errW_some] <;> rfl) | (simp [*, errW_none, errW_some] <;> rfl)) : p := h
theorem qgclu_25 {p : Prop} (h : p := by exact (below_size qgclu_1)) : p := h
/-! ### changepoint_Clusters_1: function 49 -/
def changepoint_Clusters_1.f (a0 : Int) : Option (Bool) := if a0 < 0 then (some true) else (some (decide (a0 > 1048576)))
set_option maxHeartbeats 8000000 in
set_option maxRecDepth 100000 in
theorem changepoint_Clusters_1.calls (a0 : Int) (r : Bool) (w : World) (h : changepoint_Clusters_1.f a0 = some r) :
  Calls Try.prog 49 #[.int .i64 a0] w fun e w' => e = .returned (.bool r) ∧ Drawn0 w w' := by
 have H : (if a0 < 0 then (some true) else (some (decide (a0 > 1048576)))) = some r := h
 clear h
 by_cases c2 : a0 < 0
 ·rw [if_pos c2] at H
  have c2b0 : decide (a0 < 0) = true := decide_eq_true c2
  clear c2
  obtain rfl := Option.some.inj H
  go_enter Try.func49, Try.ntmps49
  go_wp2
  go_ret
  exact ⟨qgclu_9, by repeat (first | exact Drawn0.refl _ | apply Drawn0.step)⟩
 rw [if_neg c2] at H
 have c2b0 : decide (a0 < 0) = false := decide_eq_false c2
 clear c2
 obtain rfl := Option.some.inj H
 go_enter Try.func49, Try.ntmps49
 go_wp2
 go_ret
 exact ⟨qgclu_9, by repeat (first | exact Drawn0.refl _ | apply Drawn0.step)⟩

/-! ### slices_Compact_int_int: function 52 -/
def slices_Compact_int_int.f (l0 : List Int) : Option (List Int) := some (Lib.compact l0)
theorem slices_Compact_int_int.calls (P0_ : Nat → Prop) (u9000_ : Value) (l0 : List Int) (r : List Int) (w0 w : World) (hB : Below w0.heap.size w0 w) (ho0 : Kd.R (Kd.int .i64) 3 w w0.heap.size P0_ u9000_ l0) (h : slices_Compact_int_int.f l0 = some r) :
  Calls Try.prog 52 #[u9000_] w fun e w' => ∃ v0_ : Value, e = .returned (v0_) ∧ Kd.R (Kd.int .i64) 3 w' w0.heap.size (fun k_ => (P0_ k_ ∨ w.heap.size ≤ k_)) v0_ r ∧ Below w0.heap.size w0 w' ∧ Kept w w' (fun k_ => P0_ k_) := by
 unfold slices_Compact_int_int.f at h
 cases h
 exact HandD.compact_calls P0_ u9000_ l0 w0 w hB ho0

def slices_ContainsFunc_off.f (l0 : List Int) : Option Bool := some (l0.any HandD.off)
theorem slices_ContainsFunc_off.calls (A0 : Option Addr) (c0 : Nat) (l0 : List Int) (r : Bool) (w : World) (hr0 : Kd.C (Kd.int .i64) w A0 l0.length l0) (hc0 : l0.length ≤ c0) (h : slices_ContainsFunc_off.f l0 = some r) :
    Calls Try.prog 42 #[.slice A0 l0.length c0, .func (.func 49) #[] #[]] w fun e w' => e = .returned (.bool r) ∧ Drawn0 w w' := by
  unfold slices_ContainsFunc_off.f at h
  cases h
  exact HandD.contains_calls A0 c0 l0 w hr0 hc0
/-! ### changepoint_Clusters: function 27 -/
mutual
def changepoint_Clusters.j0 : Nat → List Int → Int → Bool → Option ((List (List Int)) × Int)
 | 0, _, _, _ => none
 | k + 1, x0, x1, x21 => if x21 = true then (some (([] : List (List Int)), 2)) else ((slices_Clone_int_int.f x0).bind fun t345 => ((slices_Sort_int_int.f t345).bind fun t348 => ((slices_Compact_int_int.f t348).bind fun t349 => (changepoint_Clusters.l0 k x1 ([] : List (List Int)) t349 (t349.length : Int) 0))))
def changepoint_Clusters.l0 : Nat → Int → List (List Int) → List Int → Int → Int → Option ((List (List Int)) × Int)
 | 0, _, _, _, _, _ => none
 | k + 1, x1, x8, x27, x28, x29 => if x29 < x28 then (if 0 ≤ x29 then (if x29 < (x27.length : Int) then (if x29 = 0 then (if x8.length < 5864062014805 then ((some (x8 ++ [[]] : List (List Int))).bind fun y353 => (if 0 ≤ (wrap64 ((y353.length : Int) - 1)) then (if (wrap64 ((y353.length : Int) - 1)) < (y353.length : Int) then (if (rd_L2 y353 (wrap64 ((y353.length : Int) - 1))).length < 17592186044416 then (changepoint_Clusters.l0 k x1 (y353.set ((wrap64 ((y353.length : Int) - 1)) : Int).toNat ((rd_L2 y353 (wrap64 ((y353.length : Int) - 1))) ++ [rd x27 x29])) x27 x28 (wrap64 (x29 + 1))) else (none)) else (none)) else (none))) else (none)) else (if 0 ≤ (wrap64 ((x8.length : Int) - 1)) then (if (wrap64 ((x8.length : Int) - 1)) < (x8.length : Int) then (if 0 ≤ (wrap64 (((rd_L2 x8 (wrap64 ((x8.length : Int) - 1))).length : Int) - 1)) then (if (wrap64 (((rd_L2 x8 (wrap64 ((x8.length : Int) - 1))).length : Int) - 1)) < ((rd_L2 x8 (wrap64 ((x8.length : Int) - 1))).length : Int) then (if (wrap64 ((rd x27 x29) - (rd (rd_L2 x8 (wrap64 ((x8.length : Int) - 1))) (wrap64 (((rd_L2 x8 (wrap64 ((x8.length : Int) - 1))).length : Int) - 1))))) > x1 then (if x8.length < 5864062014805 then ((some (x8 ++ [[]] : List (List Int))).bind fun y364 => (if 0 ≤ (wrap64 ((y364.length : Int) - 1)) then (if (wrap64 ((y364.length : Int) - 1)) < (y364.length : Int) then (if (rd_L2 y364 (wrap64 ((y364.length : Int) - 1))).length < 17592186044416 then (changepoint_Clusters.l0 k x1 (y364.set ((wrap64 ((y364.length : Int) - 1)) : Int).toNat ((rd_L2 y364 (wrap64 ((y364.length : Int) - 1))) ++ [rd x27 x29])) x27 x28 (wrap64 (x29 + 1))) else (none)) else (none)) else (none))) else (none)) else (if (rd_L2 x8 (wrap64 ((x8.length : Int) - 1))).length < 17592186044416 then (changepoint_Clusters.l0 k x1 (x8.set ((wrap64 ((x8.length : Int) - 1)) : Int).toNat ((rd_L2 x8 (wrap64 ((x8.length : Int) - 1))) ++ [rd x27 x29])) x27 x28 (wrap64 (x29 + 1))) else (none))) else (none)) else (none)) else (none)) else (none))) else (none)) else (none)) else (some (x8, 0))
end
def changepoint_Clusters.f (k : Nat) (l0 : List Int) (a1 : Int) : Option ((List (List Int)) × Int) := if (l0.length : Int) > 1024 then (some (([] : List (List Int)), 6)) else ((changepoint_Clusters_1.f a1).bind fun t343 => (if t343 = true then (changepoint_Clusters.j0 k l0 a1 true) else ((slices_ContainsFunc_off.f l0).bind fun t344 => (changepoint_Clusters.j0 k l0 a1 t344))))
theorem changepoint_Clusters.mono_l : ∀ k, (∀ y0 y1 y2, LeO (changepoint_Clusters.j0 k y0 y1 y2) (changepoint_Clusters.j0 (k + 1) y0 y1 y2)) ∧ (∀ y0 y1 y2 y3 y4, LeO (changepoint_Clusters.l0 k y0 y1 y2 y3 y4) (changepoint_Clusters.l0 (k + 1) y0 y1 y2 y3 y4))
 | 0 => ⟨fun _ _ _ r h => by simp [changepoint_Clusters.j0] at h, fun _ _ _ _ _ r h => by simp [changepoint_Clusters.l0] at h⟩
 | k + 1 => by
  obtain ⟨ih0, ih1⟩ := changepoint_Clusters.mono_l k
  refine ⟨?_, ?_⟩
  ·intro y0 y1 y2
   unfold changepoint_Clusters.j0
   repeat' first
   | (with_reducible exact ih0 _ _ _)
   | (with_reducible exact ih1 _ _ _ _ _)
   | (with_reducible exact LeO.refl _)
   | (with_reducible exact LeO.none _)
   | (with_reducible refine LeO.ite ?_ ?_)
   | (with_reducible refine LeO.bind ?_ (fun _ => ?_))
   | exact ih0 _ _ _
   | exact ih1 _ _ _ _ _
   | exact LeO.none _
   | refine LeO.ite ?_ ?_
   | refine LeO.bind ?_ (fun _ => ?_)
  ·intro y0 y1 y2 y3 y4
   unfold changepoint_Clusters.l0
   repeat' first
   | (with_reducible exact ih0 _ _ _)
   | (with_reducible exact ih1 _ _ _ _ _)
   | (with_reducible exact LeO.refl _)
   | (with_reducible exact LeO.none _)
   | (with_reducible refine LeO.ite ?_ ?_)
   | (with_reducible refine LeO.bind ?_ (fun _ => ?_))
   | exact ih0 _ _ _
   | exact ih1 _ _ _ _ _
   | exact LeO.none _
   | refine LeO.ite ?_ ?_
   | refine LeO.bind ?_ (fun _ => ?_)
theorem changepoint_Clusters.mono : ∀ a0 a1 k, LeO (changepoint_Clusters.f k a0 a1) (changepoint_Clusters.f (k + 1) a0 a1) := by
 intro a0 a1 k
 obtain ⟨ih0, ih1⟩ := changepoint_Clusters.mono_l k
 unfold changepoint_Clusters.f
 repeat' first
   | (with_reducible exact ih0 _ _ _)
   | (with_reducible exact ih1 _ _ _ _ _)
   | (with_reducible exact LeO.refl _)
   | (with_reducible exact LeO.none _)
   | (with_reducible refine LeO.ite ?_ ?_)
   | (with_reducible refine LeO.bind ?_ (fun _ => ?_))
   | exact ih0 _ _ _
   | exact ih1 _ _ _ _ _
   | exact LeO.none _
   | refine LeO.ite ?_ ?_
   | refine LeO.bind ?_ (fun _ => ?_)
set_option maxHeartbeats 8000000 in
set_option maxRecDepth 100000 in
theorem changepoint_Clusters.calls (k : Nat) (A0 : Option Addr) (c0 : Nat) (l0 : List Int) (a1 : Int) (r1 : List (List Int)) (r2 : Int) (w : World) (hr0 : Kd.C (Kd.int .i64) w A0 l0.length l0) (hc0 : l0.length ≤ c0) (h : changepoint_Clusters.f k l0 a1 = some (r1, r2)) :
  Calls Try.prog 27 #[.slice A0 l0.length c0, .int .i64 a1] w fun e w' => ∃ v0_ : Value, e = .returned (.tuple #[v0_, .int .i64 r2]) ∧ Kd.S (Kd.slice 3 (Kd.int .i64)) 26 w' w.heap.size (fun _ => True) v0_ r1 ∧ Below w.heap.size w w' := by
 have HR0 := Aside0.mk hr0
 have HC0 := Aside0.mk hc0
 clear hr0 hc0
 have HB := Aside0.mk (Below.refl w.heap.size w)
 have H : (if (l0.length : Int) > 1024 then (some (([] : List (List Int)), 6)) else ((changepoint_Clusters_1.f a1).bind fun t343 => (if t343 = true then (changepoint_Clusters.j0 k l0 a1 true) else ((slices_ContainsFunc_off.f l0).bind fun t344 => (changepoint_Clusters.j0 k l0 a1 t344))))) = some (r1, r2) := h
 clear h
 by_cases c3 : (l0.length : Int) > 1024
 ·rw [if_pos c3] at H
  have c3b0 : decide (1024 < (l0.length : Int)) = true := decide_eq_true c3
  have c3b1 : decide (1024 < l0.length) = true := decide_eq_true (by omega)
  clear c3
  simp only [Option.some.injEq, Prod.mk.injEq] at H
  obtain ⟨rfl, rfl⟩ := H
  go_enter Try.func27, Try.ntmps27
  go_wp2
  repeat (go_quiet (fail); try go_wp2)
  go_ret2
  exact ⟨_, qgclu_24, qgclu_10, qgclu_1⟩
 rw [if_neg c3] at H
 have c3b0 : decide (1024 < (l0.length : Int)) = false := decide_eq_false c3
 have c3b1 : decide (1024 < l0.length) = false := decide_eq_false (by omega)
 clear c3
 have HC4 := Aside0.mk H
 clear H
 go_enter Try.func27, Try.ntmps27
 go_upto_region 4 with (fail)
 repeat (go_quiet (fail); go_upto_region 4 with (fail))
 go_cut [21] (fun v21 wc => ∃ (kq : Nat) (x21_3 : Bool), v21 = .bool x21_3 ∧ Aside0 (changepoint_Clusters.j0 kq l0 a1 x21_3 = some (r1, r2)) ∧ Aside0 (kq ≤ k) ∧ Aside0 (Below w.heap.size w wc))
 case first =>
  have H := HC4.out
  clear HC4
  replace H := Option.bind_eq_some_iff.mp H
  obtain ⟨t343, A50, H⟩ := H
  replace H : (if t343 = true then (changepoint_Clusters.j0 k l0 a1 true) else ((slices_ContainsFunc_off.f l0).bind fun t344 => (changepoint_Clusters.j0 k l0 a1 t344))) = some (r1, r2) := H
  have A5 := Aside0.mk A50
  clear A50
  by_cases c6 : t343 = true
  ·subst c6
   have H1 : (changepoint_Clusters.j0 k l0 a1 true) = some (r1, r2) := by rw [if_pos rfl] at H; exact H
   clear H
   have H := H1
   clear H1
   have H' := Aside0.mk H
   clear H
   go_wp2_with (first | (go_at_call 49; (with_reducible refine (changepoint_Clusters_1.calls a1 true _ A5.out).mono ?_); rintro e w' ⟨rfl, ⟨nd, rfl⟩⟩; (try first | exact ⟨rfl, _, World.drewN_drewN _ _ _⟩ | exact ⟨rfl, _, Eq.trans (World.drewN_drewN _ _ _) (congrArg (World.drewN _) (Nat.add_assoc _ _ _))⟩)))
   repeat (go_quiet (first | (go_at_call 49; (with_reducible refine (changepoint_Clusters_1.calls a1 true _ A5.out).mono ?_); rintro e w' ⟨rfl, ⟨nd, rfl⟩⟩; (try first | exact ⟨rfl, _, World.drewN_drewN _ _ _⟩ | exact ⟨rfl, _, Eq.trans (World.drewN_drewN _ _ _) (congrArg (World.drewN _) (Nat.add_assoc _ _ _))⟩))); try go_wp2_with (first | (go_at_call 49; (with_reducible refine (changepoint_Clusters_1.calls a1 true _ A5.out).mono ?_); rintro e w' ⟨rfl, ⟨nd, rfl⟩⟩; (try first | exact ⟨rfl, _, World.drewN_drewN _ _ _⟩ | exact ⟨rfl, _, Eq.trans (World.drewN_drewN _ _ _) (congrArg (World.drewN _) (Nat.add_assoc _ _ _))⟩))))
   go_meet
   case rel => exact ⟨_, (true), qgclu_9, H', ⟨by first | omega | exact Nat.le_refl _⟩, ⟨qgclu_1⟩⟩
  replace c6 := Bool.eq_false_iff.mpr c6
  subst c6
  have H1 : ((slices_ContainsFunc_off.f l0).bind fun t344 => (changepoint_Clusters.j0 k l0 a1 t344)) = some (r1, r2) := by rw [if_neg (show ¬ (false = true) by decide)] at H; exact H
  clear H
  have H := H1
  clear H1
  replace H := Option.bind_eq_some_iff.mp H
  obtain ⟨t344, A70, H⟩ := H
  replace H : (changepoint_Clusters.j0 k l0 a1 t344) = some (r1, r2) := H
  have A7 := Aside0.mk A70
  clear A70
  have H' := Aside0.mk H
  clear H
  go_wp2_with (first | (go_at_call 49; (with_reducible refine (changepoint_Clusters_1.calls a1 false _ A5.out).mono ?_); rintro e w' ⟨rfl, ⟨nd, rfl⟩⟩; (try first | exact ⟨rfl, _, World.drewN_drewN _ _ _⟩ | exact ⟨rfl, _, Eq.trans (World.drewN_drewN _ _ _) (congrArg (World.drewN _) (Nat.add_assoc _ _ _))⟩)) | (go_at_call 42; (with_reducible refine (slices_ContainsFunc_off.calls _ _ l0 t344 _ ?side1 ?side2 A7.out).mono ?_); (case side1 => exact qgclu_7); (case side2 => exact HC0.out); rintro e w' ⟨rfl, ⟨nd, rfl⟩⟩; (try first | exact ⟨rfl, _, World.drewN_drewN _ _ _⟩ | exact ⟨rfl, _, Eq.trans (World.drewN_drewN _ _ _) (congrArg (World.drewN _) (Nat.add_assoc _ _ _))⟩)))
  repeat (go_quiet (first | (go_at_call 49; (with_reducible refine (changepoint_Clusters_1.calls a1 false _ A5.out).mono ?_); rintro e w' ⟨rfl, ⟨nd, rfl⟩⟩; (try first | exact ⟨rfl, _, World.drewN_drewN _ _ _⟩ | exact ⟨rfl, _, Eq.trans (World.drewN_drewN _ _ _) (congrArg (World.drewN _) (Nat.add_assoc _ _ _))⟩)) | (go_at_call 42; (with_reducible refine (slices_ContainsFunc_off.calls _ _ l0 t344 _ ?side1 ?side2 A7.out).mono ?_); (case side1 => exact qgclu_7); (case side2 => exact HC0.out); rintro e w' ⟨rfl, ⟨nd, rfl⟩⟩; (try first | exact ⟨rfl, _, World.drewN_drewN _ _ _⟩ | exact ⟨rfl, _, Eq.trans (World.drewN_drewN _ _ _) (congrArg (World.drewN _) (Nat.add_assoc _ _ _))⟩))); try go_wp2_with (first | (go_at_call 49; (with_reducible refine (changepoint_Clusters_1.calls a1 false _ A5.out).mono ?_); rintro e w' ⟨rfl, ⟨nd, rfl⟩⟩; (try first | exact ⟨rfl, _, World.drewN_drewN _ _ _⟩ | exact ⟨rfl, _, Eq.trans (World.drewN_drewN _ _ _) (congrArg (World.drewN _) (Nat.add_assoc _ _ _))⟩)) | (go_at_call 42; (with_reducible refine (slices_ContainsFunc_off.calls _ _ l0 t344 _ ?side1 ?side2 A7.out).mono ?_); (case side1 => exact qgclu_7); (case side2 => exact HC0.out); rintro e w' ⟨rfl, ⟨nd, rfl⟩⟩; (try first | exact ⟨rfl, _, World.drewN_drewN _ _ _⟩ | exact ⟨rfl, _, Eq.trans (World.drewN_drewN _ _ _) (congrArg (World.drewN _) (Nat.add_assoc _ _ _))⟩))))
  go_meet
  case rel => exact ⟨_, (t344), qgclu_9, H', ⟨by first | omega | exact Nat.le_refl _⟩, ⟨qgclu_1⟩⟩
 clear HC4
 try clear c2
 try clear p2
 try clear c3
 try clear c3b0
 try clear c3b1
 try clear c6
 obtain ⟨kq, x21_3, rfl, HA, HJ3, HB⟩ := hcut
 cases kq with
 | zero => exact absurd HA.out (by simp [changepoint_Clusters.j0])
 | succ kj3 =>
  have H := HA.out
  clear HA
  simp only [changepoint_Clusters.j0] at H
  by_cases c8 : x21_3 = true
  ·subst c8
   have H1 : (some (([] : List (List Int)), 2)) = some (r1, r2) := by rw [if_pos rfl] at H; exact H
   clear H
   have H := H1
   clear H1
   simp only [Option.some.injEq, Prod.mk.injEq] at H
   obtain ⟨rfl, rfl⟩ := H
   go_wp2
   repeat (go_quiet (fail); try go_wp2)
   go_ret2
   exact ⟨_, qgclu_24, qgclu_10, qgclu_1⟩
  replace c8 := Bool.eq_false_iff.mpr c8
  subst c8
  have H1 : ((slices_Clone_int_int.f l0).bind fun t345 => ((slices_Sort_int_int.f t345).bind fun t348 => ((slices_Compact_int_int.f t348).bind fun t349 => (changepoint_Clusters.l0 kj3 a1 ([] : List (List Int)) t349 (t349.length : Int) 0)))) = some (r1, r2) := by rw [if_neg (show ¬ (false = true) by decide)] at H; exact H
  clear H
  have H := H1
  clear H1
  replace H := Option.bind_eq_some_iff.mp H
  obtain ⟨t345, A90, H⟩ := H
  replace H : ((slices_Sort_int_int.f t345).bind fun t348 => ((slices_Compact_int_int.f t348).bind fun t349 => (changepoint_Clusters.l0 kj3 a1 ([] : List (List Int)) t349 (t349.length : Int) 0))) = some (r1, r2) := H
  have A9 := Aside0.mk A90
  clear A90
  replace H := Option.bind_eq_some_iff.mp H
  obtain ⟨t348, A100, H⟩ := H
  replace H : ((slices_Compact_int_int.f t348).bind fun t349 => (changepoint_Clusters.l0 kj3 a1 ([] : List (List Int)) t349 (t349.length : Int) 0)) = some (r1, r2) := H
  have A10 := Aside0.mk A100
  clear A100
  replace H := Option.bind_eq_some_iff.mp H
  obtain ⟨t349, A110, H⟩ := H
  replace H : (changepoint_Clusters.l0 kj3 a1 ([] : List (List Int)) t349 (t349.length : Int) 0) = some (r1, r2) := H
  have A11 := Aside0.mk A110
  clear A110
  have H' := Aside0.mk H
  clear H
  go_wp2_with (first | (go_at_call 50; (with_reducible refine (slices_Clone_int_int.calls _ _ l0 t345 _ ?side1 ?side2 A9.out).mono ?_); (case side1 => exact qgclu_8); (case side2 => exact HC0.out); rintro e w12 ⟨v346, rfl, ho0, hb⟩; have n0_ := Aside0.mk (Kd.R_lower ho0 (below_size qgclu_1)); have n1_ := Aside0.mk (below_step qgclu_1 hb); clear HB; have HO347 := n0_; have HB := n1_; clear n0_ n1_; (try clear hb); (try clear hb2); (try clear hk); (try clear hi); (try clear ho0); obtain ⟨Ao13, co13, eo13⟩ := Kd.R_slice HO347.out; subst eo13) | (go_at_call 51; (with_reducible refine (slices_Sort_int_int.calls (fun k_ => some k_ = (.slice Ao13 t345.length co13 : Value).ownBlock) (.slice Ao13 t345.length co13) t345 t348 w _ ?side1 ?side2 A10.out).mono ?_); (case side1 => exact qgclu_1); (case side2 => exact Kd.R_tight rfl HO347.out); rintro e w14 ⟨rfl, hy0, hb, hkp⟩; have n0_ := Aside0.mk (Kd.R_reok rfl hy0 (fun k_ e_ => HO347.out.1 k_ e_)); have n1_ := Aside0.mk (hb); clear HO347; clear HB; have HO347 := n0_; have HB := n1_; clear n0_ n1_; (try clear hb); (try clear hkp); (try clear hy0)) | (go_at_call 52; (with_reducible refine (slices_Compact_int_int.calls (fun k_ => some k_ = (.slice Ao13 t345.length co13 : Value).ownBlock) (.slice Ao13 t345.length co13) t348 t349 w _ ?side1 ?side2 A11.out).mono ?_); (case side1 => exact qgclu_1); (case side2 => exact Kd.R_tight rfl HO347.out); rintro e w15 ⟨v350, rfl, ho0, hb, hkp⟩; have n0_ := Aside0.mk (Kd.R_mono (ok' := fun k_ => True) ho0 (fun k_ hk_ => trivial)); have n1_ := Aside0.mk (hb); clear HB; clear HO347; have HO351 := n0_; have HB := n1_; clear n0_ n1_; (try clear hb); (try clear hkp); (try clear ho0); obtain ⟨Ao16, co16, eo16⟩ := Kd.R_slice HO351.out; subst eo16))
  repeat (go_quiet (first | (go_at_call 50; (with_reducible refine (slices_Clone_int_int.calls _ _ l0 t345 _ ?side1 ?side2 A9.out).mono ?_); (case side1 => exact qgclu_8); (case side2 => exact HC0.out); rintro e w12 ⟨v346, rfl, ho0, hb⟩; have n0_ := Aside0.mk (Kd.R_lower ho0 (below_size qgclu_1)); have n1_ := Aside0.mk (below_step qgclu_1 hb); clear HB; have HO347 := n0_; have HB := n1_; clear n0_ n1_; (try clear hb); (try clear hb2); (try clear hk); (try clear hi); (try clear ho0); obtain ⟨Ao13, co13, eo13⟩ := Kd.R_slice HO347.out; subst eo13) | (go_at_call 51; (with_reducible refine (slices_Sort_int_int.calls (fun k_ => some k_ = (.slice Ao13 t345.length co13 : Value).ownBlock) (.slice Ao13 t345.length co13) t345 t348 w _ ?side1 ?side2 A10.out).mono ?_); (case side1 => exact qgclu_1); (case side2 => exact Kd.R_tight rfl HO347.out); rintro e w14 ⟨rfl, hy0, hb, hkp⟩; have n0_ := Aside0.mk (Kd.R_reok rfl hy0 (fun k_ e_ => HO347.out.1 k_ e_)); have n1_ := Aside0.mk (hb); clear HO347; clear HB; have HO347 := n0_; have HB := n1_; clear n0_ n1_; (try clear hb); (try clear hkp); (try clear hy0)) | (go_at_call 52; (with_reducible refine (slices_Compact_int_int.calls (fun k_ => some k_ = (.slice Ao13 t345.length co13 : Value).ownBlock) (.slice Ao13 t345.length co13) t348 t349 w _ ?side1 ?side2 A11.out).mono ?_); (case side1 => exact qgclu_1); (case side2 => exact Kd.R_tight rfl HO347.out); rintro e w15 ⟨v350, rfl, ho0, hb, hkp⟩; have n0_ := Aside0.mk (Kd.R_mono (ok' := fun k_ => True) ho0 (fun k_ hk_ => trivial)); have n1_ := Aside0.mk (hb); clear HB; clear HO347; have HO351 := n0_; have HB := n1_; clear n0_ n1_; (try clear hb); (try clear hkp); (try clear ho0); obtain ⟨Ao16, co16, eo16⟩ := Kd.R_slice HO351.out; subst eo16)); try go_wp2_with (first | (go_at_call 50; (with_reducible refine (slices_Clone_int_int.calls _ _ l0 t345 _ ?side1 ?side2 A9.out).mono ?_); (case side1 => exact qgclu_8); (case side2 => exact HC0.out); rintro e w12 ⟨v346, rfl, ho0, hb⟩; have n0_ := Aside0.mk (Kd.R_lower ho0 (below_size qgclu_1)); have n1_ := Aside0.mk (below_step qgclu_1 hb); clear HB; have HO347 := n0_; have HB := n1_; clear n0_ n1_; (try clear hb); (try clear hb2); (try clear hk); (try clear hi); (try clear ho0); obtain ⟨Ao13, co13, eo13⟩ := Kd.R_slice HO347.out; subst eo13) | (go_at_call 51; (with_reducible refine (slices_Sort_int_int.calls (fun k_ => some k_ = (.slice Ao13 t345.length co13 : Value).ownBlock) (.slice Ao13 t345.length co13) t345 t348 w _ ?side1 ?side2 A10.out).mono ?_); (case side1 => exact qgclu_1); (case side2 => exact Kd.R_tight rfl HO347.out); rintro e w14 ⟨rfl, hy0, hb, hkp⟩; have n0_ := Aside0.mk (Kd.R_reok rfl hy0 (fun k_ e_ => HO347.out.1 k_ e_)); have n1_ := Aside0.mk (hb); clear HO347; clear HB; have HO347 := n0_; have HB := n1_; clear n0_ n1_; (try clear hb); (try clear hkp); (try clear hy0)) | (go_at_call 52; (with_reducible refine (slices_Compact_int_int.calls (fun k_ => some k_ = (.slice Ao13 t345.length co13 : Value).ownBlock) (.slice Ao13 t345.length co13) t348 t349 w _ ?side1 ?side2 A11.out).mono ?_); (case side1 => exact qgclu_1); (case side2 => exact Kd.R_tight rfl HO347.out); rintro e w15 ⟨v350, rfl, ho0, hb, hkp⟩; have n0_ := Aside0.mk (Kd.R_mono (ok' := fun k_ => True) ho0 (fun k_ hk_ => trivial)); have n1_ := Aside0.mk (hb); clear HB; clear HO347; have HO351 := n0_; have HB := n1_; clear n0_ n1_; (try clear hb); (try clear hkp); (try clear ho0); obtain ⟨Ao16, co16, eo16⟩ := Kd.R_slice HO351.out; subst eo16)))
  go_loopg [8, 29] kj3 (fun kq v8 v29 w' => ∃ (x8_2 : List (List Int)) (x29_2 : Int), v29 = .int .i64 x29_2 ∧ Aside0 (changepoint_Clusters.l0 kq a1 x8_2 t349 (t349.length : Int) x29_2 = some (r1, r2)) ∧ Aside0 (kq ≤ kj3) ∧ Aside0 (Kd.S (Kd.slice 3 (Kd.int .i64)) 26 w' w.heap.size (fun k_ => some k_ ≠ ((.slice Ao16 t349.length co16) : Value).ownBlock) v8 x8_2) ∧ Aside0 (Kd.R (Kd.int .i64) 3 w' w.heap.size (fun _ => True) (.slice Ao16 t349.length co16) t349) ∧ Aside0 (Below w.heap.size w w'))
  case atStart => exact ⟨(([] : List (List Int))), (0), qgclu_9, H', ⟨Nat.le_refl _⟩, ⟨qgclu_10⟩, ⟨by (with_reducible repeat (first | apply Kd.R_alloc | apply Kd.R_drewN | apply Kd.R_drew)); exact HO351.out⟩, ⟨qgclu_1⟩⟩
  clear H'
  try clear c2
  try clear p2
  try clear c3
  try clear c3b0
  try clear c3b1
  try clear c6
  try clear c8
  try clear p2
  obtain ⟨x8_2, x29_2, rfl, HA, HK2, HO_8, HO_27, HB⟩ := hrel
  cases gk with
  | zero => exact absurd HA.out (by simp [changepoint_Clusters.l0])
  | succ k2 =>
   have H := HA.out
   clear HA
   simp only [changepoint_Clusters.l0] at H
   by_cases c17 : x29_2 < (t349.length : Int)
   rotate_left
   ·rw [if_neg c17] at H
    have c17b0 : decide (x29_2 < (t349.length : Int)) = false := decide_eq_false c17
    clear c17
    simp only [Option.some.injEq, Prod.mk.injEq] at H
    obtain ⟨rfl, rfl⟩ := H
    go_wp2
    repeat (go_quiet (fail); try go_wp2)
    go_ret2
    exact ⟨_, qgclu_24, by (with_reducible repeat (first | apply Kd.S_alloc | apply Kd.S_drewN | apply Kd.S_drew)); exact Kd.S_mono HO_8.out (fun _ hk => trivial), qgclu_1⟩
   rw [if_pos c17] at H
   have c17b0 : decide (x29_2 < (t349.length : Int)) = true := decide_eq_true c17
   clear c17
   by_cases c18 : 0 ≤ x29_2
   rotate_left
   ·rw [if_neg c18] at H
    exact absurd H (by simp)
   rw [if_pos c18] at H
   have c18b0 : decide (0 ≤ x29_2) = true := decide_eq_true c18
   clear c18
   by_cases c19 : x29_2 < (t349.length : Int)
   rotate_left
   ·rw [if_neg c19] at H
    exact absurd H (by simp)
   rw [if_pos c19] at H
   have c19b0 : decide (x29_2 < (t349.length : Int)) = true := decide_eq_true c19
   clear c19
   by_cases c20 : x29_2 = 0
   ·rw [if_pos c20] at H
    have c20b0 : (x29_2 == 0) = true := beq_iff_eq.mpr c20
    have c20b1 : (x29_2 != 0) = false := bne_eq_false_iff_eq.mpr c20
    clear c20
    by_cases c21 : x8_2.length < 5864062014805
    rotate_left
    ·rw [if_neg c21] at H
     exact absurd H (by simp)
    rw [if_pos c21] at H
    have LMc21 := Aside0.mk c21
    clear c21
    obtain ⟨y353, hy353⟩ : ∃ y_ : List (List Int), y_ = (x8_2 ++ [[]]) := ⟨_, rfl⟩
    replace H : (if 0 ≤ (wrap64 ((y353.length : Int) - 1)) then (if (wrap64 ((y353.length : Int) - 1)) < (y353.length : Int) then (if (rd_L2 y353 (wrap64 ((y353.length : Int) - 1))).length < 17592186044416 then (changepoint_Clusters.l0 k2 a1 (y353.set ((wrap64 ((y353.length : Int) - 1)) : Int).toNat ((rd_L2 y353 (wrap64 ((y353.length : Int) - 1))) ++ [rd t349 x29_2])) t349 (t349.length : Int) (wrap64 (x29_2 + 1))) else (none)) else (none)) else (none)) = some (r1, r2) := by first | (rw [hy353]; with_reducible exact H) | (have H2_ := (Option.bind_some _ _).symm.trans H; rw [hy353]; with_reducible exact H2_) | (have H2_ := (Option.bind_some _ _).symm.trans H; with_reducible exact H2_) | with_reducible exact H | (rw [hy353]; exact H) | exact H
    have Ny353 := Aside0.mk hy353
    clear hy353
    obtain ⟨ji22, hji22⟩ : ∃ j_ : Int, (wrap64 ((y353.length : Int) - 1)) = j_ := ⟨_, rfl⟩
    replace H : (if 0 ≤ (ji22) then (if (ji22) < (y353.length : Int) then (if (rd_L2 y353 (ji22)).length < 17592186044416 then (changepoint_Clusters.l0 k2 a1 (y353.set ((ji22) : Int).toNat ((rd_L2 y353 (ji22)) ++ [rd t349 x29_2])) t349 (t349.length : Int) (wrap64 (x29_2 + 1))) else (none)) else (none)) else (none)) = some (r1, r2) := by first | (rw [hji22] at H; exact H) | (simp only [hji22] at H ⊢; exact H)
    have hji22w : (IntKind.i64.wrap ((y353.length : Int) - 1)) = ji22 := (i64_w _).trans hji22
    by_cases c23 : 0 ≤ (ji22)
    rotate_left
    ·rw [if_neg c23] at H
     exact absurd H (by simp)
    rw [if_pos c23] at H
    have c23b0 : decide (0 ≤ (ji22)) = true := decide_eq_true c23
    clear c23
    by_cases c24 : (ji22) < (y353.length : Int)
    rotate_left
    ·rw [if_neg c24] at H
     exact absurd H (by simp)
    rw [if_pos c24] at H
    have c24b0 : decide ((ji22) < (y353.length : Int)) = true := decide_eq_true c24
    clear c24
    by_cases c25 : (rd_L2 y353 (ji22)).length < 17592186044416
    rotate_left
    ·rw [if_neg c25] at H
     exact absurd H (by simp)
    rw [if_pos c25] at H
    have LMc25 := Aside0.mk c25
    clear c25
    obtain ⟨y357, hy357⟩ : ∃ y_ : List Int, y_ = ((rd_L2 y353 (ji22)) ++ [rd t349 x29_2]) := ⟨_, rfl⟩
    replace H : (changepoint_Clusters.l0 k2 a1 (y353.set ((ji22) : Int).toNat y357) t349 (t349.length : Int) (wrap64 (x29_2 + 1))) = some (r1, r2) := by first | (rw [hy357]; with_reducible exact H) | (have H2_ := (Option.bind_some _ _).symm.trans H; rw [hy357]; with_reducible exact H2_) | (have H2_ := (Option.bind_some _ _).symm.trans H; with_reducible exact H2_) | with_reducible exact H | (rw [hy357]; exact H) | exact H
    have Ny357 := Aside0.mk hy357
    clear hy357
    obtain ⟨y360, hy360⟩ : ∃ y_ : List (List Int), y_ = (y353.set ((ji22) : Int).toNat y357) := ⟨_, rfl⟩
    replace H : (changepoint_Clusters.l0 k2 a1 y360 t349 (t349.length : Int) (wrap64 (x29_2 + 1))) = some (r1, r2) := by first | (rw [hy360]; with_reducible exact H) | (have H2_ := (Option.bind_some _ _).symm.trans H; rw [hy360]; with_reducible exact H2_) | (have H2_ := (Option.bind_some _ _).symm.trans H; with_reducible exact H2_) | with_reducible exact H | (rw [hy360]; exact H) | exact H
    have Ny360 := Aside0.mk hy360
    clear hy360
    have H' := Aside0.mk H
    clear H
    have p352 : 0 ≤ (x29_2 : Int) := of_decide_eq_true qgclu_0
    have q352 : x29_2 < (t349.length : Int) := of_decide_eq_true qgclu_0
    obtain ⟨ad352, e352, hx352_0⟩ := Kd.at_int (Kd.R_reads' HO_27.out).2.2 x29_2 p352 q352
    cases e352
    replace p352 := eq_true p352
    replace q352 := eq_true q352
    go_wp2
    go_quiet (fail)
    go_wp2_with (first | ((with_reducible refine gate_builtin (b := .append) (xs := #[.tmp 58, .tmp 59]) rfl ?_); (try (refine gate_guard (by rfl) ?_; dsimp only)); at_builtin; refine Kd.S_append (Kd.slice 3 (Kd.int .i64)) (w0 := w) w.heap.size rfl (.tmp 58) (.tmp 59) 65 26 (.slice none 0 0) 24 rfl Try.underlying65 info26 rfl (by decide) (by omega) u8 x8_2 [] [.slice none 0 0] (fun k_ => some k_ ≠ (.slice (some ad352) t349.length co16 : Value).ownBlock) (fun _ => False) rfl rfl ?aP (fun _ hk => hk.elim) ?aF ?aO ?aB ?aS ?aL ?_; (case aP => exact qgclu_4); (case aB => exact qgclu_1); (case aF => exact qgclu_23); (case aO => exact qgclu_3); (case aS => exact qgclu_25); (case aL => have := LMc21.out; omega); intro v354 w27 ho hb hg hat; rw [← Ny353.out] at ho; have n0_ := Aside0.mk (Kd.R_over' qgclu_2 (Kd.S_typed qgclu_5) (by decide) hg); have n1_ := Aside0.mk (hb); have n2_ := Aside0.mk (ho); clear HO_27; clear HB; clear HO_8; have HO_27 := n0_; have HB := n1_; have HO355 := n2_; clear n0_ n1_ n2_; clear ho hb hg hat; obtain ⟨Ao28, co28, eo28⟩ := Kd.S_slice HO355.out; subst eo28; have p356 : 0 ≤ ((ji22) : Int) := of_decide_eq_true qgclu_0; have q356 : (ji22) < (y353.length : Int) := of_decide_eq_true qgclu_0; obtain ⟨ad356, A356_0, c356_0, e356, hx356_0, hl356_0, hi356_0⟩ := at_L2 (Kd.S_reads' HO355.out).2.2 (ji22) p356 q356; cases e356; obtain ⟨ce356, hce356, hMe356, hcc356⟩ := Kd.S_get HO355.out [] (ji22) p356 qgclu_20; obtain ⟨ve356_0, rfl, ge356_0⟩ := hMe356; have hv356_0 := hcc356 0 _ rfl; rw [Nat.add_zero, show ((Kd.slice 3 (Kd.int .i64))).sz = 1 from rfl, Nat.mul_one] at hv356_0; replace hv356_0 := Option.some.inj (hv356_0.symm.trans hx356_0); rw [hv356_0] at ge356_0; have HL356_0 := Aside0.mk (show Kd.R (Kd.int .i64) 3 _ _ _ _ (rd_L2 y353 (ji22)) from ge356_0); clear hv356_0 ge356_0; have HX356_0 := Aside0.mk hx356_0; clear hcc356 hce356; have HR356_0 := Aside0.mk hi356_0; have HC356_0 := Aside0.mk hl356_0; clear hi356_0 hl356_0; replace p356 := eq_true p356; replace q356 := eq_true q356; obtain ⟨go29, co29, eo29, gb29, gl29, cl29, HG29⟩ := Kd.S_form HO355.out (by have h_ : ((ji22) : Int) < ((y353.length : Int) : Int) := of_decide_eq_true qgclu_0; have h2_ : 0 ≤ ((ji22) : Int) := (of_decide_eq_true qgclu_0); omega); (first | cases eo29 | (injection eo29 with ea_ en_ ec_; (first | subst ea_ | (injection ea_ with ea_; subst ea_)); subst ec_; clear en_)); have GB29 := Aside0.mk gb29; have GG29 := Aside0.mk HG29; clear gb29 gl29 HG29; (first | simp only [add_plain] at hx356_0 | skip); obtain ⟨oki29, ce29, hcl29, hM29, hcc29, _, _, hH29⟩ := Kd.S_elem HO355.out [] ((ji22) : Int) (of_decide_eq_true qgclu_0) (by have h_ : ((ji22) : Int) < ((y353.length : Int) : Int) := of_decide_eq_true qgclu_0; first | exact h_ | (have e_ := (Kd.S_reads' HO355.out).1; omega) | simpa using h_); obtain ⟨ve29_0, rfl, ge29_0⟩ := hM29; have hv29 := hcc29 0 _ rfl; have hX29 := HX356_0.out; (try simp only [add_plain] at hX29); (try simp only [Nat.add_zero] at hv29); (try rw [show ((Kd.slice 3 (Kd.int .i64))).sz = 1 from rfl, Nat.mul_one] at hv29); replace hv29 := Option.some.inj (hv29.symm.trans hX29); subst hv29; clear hX29 hcc29 hcl29; have UU29 := Aside0.mk (show Kd.R (Kd.int .i64) 3 _ w.heap.size oki29 (.slice A356_0 (rd_L2 y353 (ji22)).length c356_0) (rd_L2 y353 (ji22)) from ge29_0); have HH29 := Aside0.mk hH29; have HN29 := Aside0.mk (Kd.S_reads' HO355.out).1; clear hH29 ge29_0) | ((with_reducible refine gate_builtin (b := .append) (xs := #[.tmp 70, .tmp 72]) rfl ?_); (try (refine gate_guard (by rfl) ?_; dsimp only)); at_builtin; refine Kd.R_append (Kd.int .i64) (w0 := w) w.heap.size rfl (.tmp 70) (.tmp 72) 26 3 (.int .i64 0) 8 rfl Try.underlying26 info3 rfl (by decide) (by omega) (.slice A356_0 (rd_L2 y353 (ji22)).length c356_0) (rd_L2 y353 (ji22)) (rd t349 x29_2) [.int .i64 (rd t349 x29_2)] (fun k_ => oki29 k_ ∨ ((fun k_ => some k_ ≠ (.slice (some ad352) t349.length co16 : Value).ownBlock)) k_ ∧ w27.heap.size ≤ k_) (fun _ => False) rfl rfl ?aP (fun _ hk => hk.elim) ?aF ?aO ?aB ?aS ?aL ?_; (case aP => exact qgclu_4); (case aB => exact qgclu_1); (case aF => exact qgclu_6); (case aO => exact qgclu_11); (case aS => exact qgclu_25); (case aL => have := LMc25.out; omega); intro v358 w30 ho hb hg hat; rw [← Ny357.out] at ho; have n0_ := Aside0.mk (Kd.R_grown2 qgclu_2 rfl hg (fun k_ e_ => (HL356_0.out.1 k_ e_).1)); have n1_ := Aside0.mk (hb); have n2_ := Aside0.mk (Kd.H_grown (Kd.H_widen qgclu_16) hg (fun k_ e_ => .inl (UU29.out.1 k_ e_))); have n3_ := Aside0.mk (ho); clear HO_27; clear HB; clear HH29; clear HO355; clear UU29; clear HL356_0; have HO_27 := n0_; have HB := n1_; have HH29 := n2_; have HO359 := n3_; clear n0_ n1_ n2_ n3_; clear ho hb hg hat; have p26 : 0 ≤ ((ji22) : Int) := of_decide_eq_true qgclu_0; have q26 : ((ji22) : Int) < ((y353.length : Int) : Int) := of_decide_eq_true qgclu_0; replace p26 := eq_true p26; replace q26 := eq_true q26; obtain ⟨Ao33, co33, eo33⟩ := Kd.R_slice HO359.out; subst eo33; obtain ⟨_, _, hraw31, _, _, hcc31, _⟩ := Kd.H_raw HH29.out (of_decide_eq_true qgclu_0) (by have h_ : ((ji22) : Int) < ((y353.length : Int) : Int) := of_decide_eq_true qgclu_0; first | exact h_ | (have e_ := (HN29.out); omega) | simpa using h_); obtain ⟨_, hfr31⟩ := Kd.H_at HH29.out (of_decide_eq_true qgclu_0) (by have h_ : ((ji22) : Int) < ((y353.length : Int) : Int) := of_decide_eq_true qgclu_0; first | exact h_ | (have e_ := (HN29.out); omega) | simpa using h_); have hx31_0 := hcc31 0 _ rfl; have hf31_0 := hfr31 0; (try simp only [Nat.add_zero] at hx31_0 hf31_0); (try rw [show ((Kd.slice 3 (Kd.int .i64))).sz = 1 from rfl, Nat.mul_one] at hx31_0); (try rw [show ((Kd.slice 3 (Kd.int .i64))).sz = 1 from rfl, Nat.mul_one] at hf31_0); have HP31 := Kd.S_seg0 HH29.out (of_decide_eq_true qgclu_0) (by have h_ : ((ji22) : Int) < ((y353.length : Int) : Int) := of_decide_eq_true qgclu_0; first | exact h_ | (have e_ := (HN29.out); omega) | simpa using h_) (seg := [.slice Ao33 y357.length co33]) (j := 0) (show 1 ≤ 1 from by decide) (x' := y357) (Kd.M_row HO359.out) (fun _ hk => hk); (try simp only [show ((Kd.slice 3 (Kd.int .i64))).sz = 1 from rfl, Nat.mul_one, Nat.add_zero] at HP31); clear hcc31 hfr31) | ((with_reducible refine gate_store (t := 26) (p := 74) rfl ?_); (try (rw [drewN_self w30]; generalize hq_ : World.drewN w30 _ = w30; have n0_ := Aside0.mk (Kd.R_at hq_ HO_27.out); have n1_ := Aside0.mk (Kd.S_at hq_ HO355.out); have n2_ := Aside0.mk (below_at hq_ HB.out); clear hq_ HO_27 HO355 HB; have HO_27 := n0_; have HO355 := n1_; have HB := n2_; clear n0_ n1_ n2_; (try (obtain ⟨Ao33, co33, eo33⟩ := Kd.R_slice HO359.out)); (try (subst eo33)); (try (obtain ⟨_, _, hraw31, _, _, hcc31, _⟩ := Kd.H_raw HH29.out (of_decide_eq_true qgclu_0) (by have h_ : ((ji22) : Int) < ((y353.length : Int) : Int) := of_decide_eq_true qgclu_0; first | exact h_ | (have e_ := (HN29.out); omega) | simpa using h_))); (try (obtain ⟨_, hfr31⟩ := Kd.H_at HH29.out (of_decide_eq_true qgclu_0) (by have h_ : ((ji22) : Int) < ((y353.length : Int) : Int) := of_decide_eq_true qgclu_0; first | exact h_ | (have e_ := (HN29.out); omega) | simpa using h_))); (try (have hx31_0 := hcc31 0 _ rfl)); (try (have hf31_0 := hfr31 0)); (try (try simp only [Nat.add_zero] at hx31_0 hf31_0)); (try (try rw [show ((Kd.slice 3 (Kd.int .i64))).sz = 1 from rfl, Nat.mul_one] at hx31_0)); (try (try rw [show ((Kd.slice 3 (Kd.int .i64))).sz = 1 from rfl, Nat.mul_one] at hf31_0)); (try (have HP31 := Kd.S_seg0 HH29.out (of_decide_eq_true qgclu_0) (by have h_ : ((ji22) : Int) < ((y353.length : Int) : Int) := of_decide_eq_true qgclu_0; first | exact h_ | (have e_ := (HN29.out); omega) | simpa using h_) (seg := [.slice Ao33 y357.length co33]) (j := 0) (show 1 ≤ 1 from by decide) (x' := y357) (Kd.M_row HO359.out) (fun _ hk => hk))); (try (try simp only [show ((Kd.slice 3 (Kd.int .i64))).sz = 1 from rfl, Nat.mul_one, Nat.add_zero] at HP31)); (try (clear hcc31 hfr31)))); refine store_event (t := 26) (p := 74) (v := ?vo_w32) (w1 := (w30.setCell ⟨go29, ((ji22) : Int).toNat, none⟩ (.slice Ao33 y357.length co33))) ?hg ?ho ?hn ?hr ?_; (case ho => rfl); (case hg => rfl); (case hn => rfl); (case hr => exact qgclu_19); intro w32 hw; have hg : w30.grownBy w32 (some go29) := (by rw [hw]; exact HP31.2); have hp_ : Kd.S (Kd.slice 3 (Kd.int .i64)) 26 w32 w.heap.size (fun k_ => some k_ ≠ (.slice (some ad352) t349.length co16 : Value).ownBlock) (.slice (some ⟨go29, 0, none⟩) y353.length co28) y360 := (by rw [hw, Ny360.out]; exact HP31.1); clear HP31; have n0_ := Aside0.mk (Kd.R_over' (v := (.slice (some ⟨go29, 0, none⟩) y353.length co28)) qgclu_2 (Kd.R_typed hraw31) (by decide) hg); have n1_ := Aside0.mk ((by rw [hw]; exact below_set HB.out GB29.out : Below w.heap.size w w32)); have n2_ := Aside0.mk (hp_); clear HO_27; clear HB; clear HO359; clear HH29; have HO_27 := n0_; have HB := n1_; have HO355 := n2_; clear n0_ n1_ n2_; clear hg hw hp_ hraw31))
    go_roundg k2
    case measure => have := HJ3.out; have := HK2.out; omega
    case rel => exact ⟨(y360), (wrap64 (x29_2 + 1)), qgclu_9, H', ⟨by have := HJ3.out; have := HK2.out; omega⟩, ⟨by (with_reducible repeat (first | apply Kd.S_alloc | apply Kd.S_drewN | apply Kd.S_drew)); exact HO355.out⟩, ⟨qgclu_2⟩, ⟨qgclu_1⟩⟩
   rw [if_neg c20] at H
   have c20b0 : (x29_2 == 0) = false := beq_eq_false_iff_ne.mpr c20
   have c20b1 : (x29_2 != 0) = true := bne_iff_ne.mpr c20
   obtain ⟨ji34, hji34⟩ : ∃ j_ : Int, (wrap64 ((x8_2.length : Int) - 1)) = j_ := ⟨_, rfl⟩
   replace H : (if 0 ≤ (ji34) then (if (ji34) < (x8_2.length : Int) then (if 0 ≤ (wrap64 (((rd_L2 x8_2 (ji34)).length : Int) - 1)) then (if (wrap64 (((rd_L2 x8_2 (ji34)).length : Int) - 1)) < ((rd_L2 x8_2 (ji34)).length : Int) then (if (wrap64 ((rd t349 x29_2) - (rd (rd_L2 x8_2 (ji34)) (wrap64 (((rd_L2 x8_2 (ji34)).length : Int) - 1))))) > a1 then (if x8_2.length < 5864062014805 then ((some (x8_2 ++ [[]] : List (List Int))).bind fun y364 => (if 0 ≤ (wrap64 ((y364.length : Int) - 1)) then (if (wrap64 ((y364.length : Int) - 1)) < (y364.length : Int) then (if (rd_L2 y364 (wrap64 ((y364.length : Int) - 1))).length < 17592186044416 then (changepoint_Clusters.l0 k2 a1 (y364.set ((wrap64 ((y364.length : Int) - 1)) : Int).toNat ((rd_L2 y364 (wrap64 ((y364.length : Int) - 1))) ++ [rd t349 x29_2])) t349 (t349.length : Int) (wrap64 (x29_2 + 1))) else (none)) else (none)) else (none))) else (none)) else (if (rd_L2 x8_2 (ji34)).length < 17592186044416 then (changepoint_Clusters.l0 k2 a1 (x8_2.set ((ji34) : Int).toNat ((rd_L2 x8_2 (ji34)) ++ [rd t349 x29_2])) t349 (t349.length : Int) (wrap64 (x29_2 + 1))) else (none))) else (none)) else (none)) else (none)) else (none)) = some (r1, r2) := by first | (rw [hji34] at H; exact H) | (simp only [hji34] at H ⊢; exact H)
   have hji34w : (IntKind.i64.wrap ((x8_2.length : Int) - 1)) = ji34 := (i64_w _).trans hji34
   by_cases c35 : 0 ≤ (ji34)
   rotate_left
   ·rw [if_neg c35] at H
    exact absurd H (by simp)
   rw [if_pos c35] at H
   have c35b0 : decide (0 ≤ (ji34)) = true := decide_eq_true c35
   clear c35
   by_cases c36 : (ji34) < (x8_2.length : Int)
   rotate_left
   ·rw [if_neg c36] at H
    exact absurd H (by simp)
   rw [if_pos c36] at H
   have c36b0 : decide ((ji34) < (x8_2.length : Int)) = true := decide_eq_true c36
   clear c36
   obtain ⟨ji37, hji37⟩ : ∃ j_ : Int, (wrap64 (((rd_L2 x8_2 (ji34)).length : Int) - 1)) = j_ := ⟨_, rfl⟩
   replace H : (if 0 ≤ (ji37) then (if (ji37) < ((rd_L2 x8_2 (ji34)).length : Int) then (if (wrap64 ((rd t349 x29_2) - (rd (rd_L2 x8_2 (ji34)) (ji37)))) > a1 then (if x8_2.length < 5864062014805 then ((some (x8_2 ++ [[]] : List (List Int))).bind fun y364 => (if 0 ≤ (wrap64 ((y364.length : Int) - 1)) then (if (wrap64 ((y364.length : Int) - 1)) < (y364.length : Int) then (if (rd_L2 y364 (wrap64 ((y364.length : Int) - 1))).length < 17592186044416 then (changepoint_Clusters.l0 k2 a1 (y364.set ((wrap64 ((y364.length : Int) - 1)) : Int).toNat ((rd_L2 y364 (wrap64 ((y364.length : Int) - 1))) ++ [rd t349 x29_2])) t349 (t349.length : Int) (wrap64 (x29_2 + 1))) else (none)) else (none)) else (none))) else (none)) else (if (rd_L2 x8_2 (ji34)).length < 17592186044416 then (changepoint_Clusters.l0 k2 a1 (x8_2.set ((ji34) : Int).toNat ((rd_L2 x8_2 (ji34)) ++ [rd t349 x29_2])) t349 (t349.length : Int) (wrap64 (x29_2 + 1))) else (none))) else (none)) else (none)) = some (r1, r2) := by first | (rw [hji37] at H; exact H) | (simp only [hji37] at H ⊢; exact H)
   have hji37w : (IntKind.i64.wrap (((rd_L2 x8_2 (ji34)).length : Int) - 1)) = ji37 := (i64_w _).trans hji37
   by_cases c38 : 0 ≤ (ji37)
   rotate_left
   ·rw [if_neg c38] at H
    exact absurd H (by simp)
   rw [if_pos c38] at H
   have c38b0 : decide (0 ≤ (ji37)) = true := decide_eq_true c38
   clear c38
   by_cases c39 : (ji37) < ((rd_L2 x8_2 (ji34)).length : Int)
   rotate_left
   ·rw [if_neg c39] at H
    exact absurd H (by simp)
   rw [if_pos c39] at H
   have c39b0 : decide ((ji37) < ((rd_L2 x8_2 (ji34)).length : Int)) = true := decide_eq_true c39
   clear c39
   by_cases c40 : (wrap64 ((rd t349 x29_2) - (rd (rd_L2 x8_2 (ji34)) (ji37)))) > a1
   rotate_left
   ·rw [if_neg c40] at H
    have c40b0 : decide (a1 < (wrap64 ((rd t349 x29_2) - (rd (rd_L2 x8_2 (ji34)) (ji37))))) = false := decide_eq_false c40
    clear c40
    by_cases c55 : (rd_L2 x8_2 (ji34)).length < 17592186044416
    rotate_left
    ·rw [if_neg c55] at H
     exact absurd H (by simp)
    rw [if_pos c55] at H
    have LMc55 := Aside0.mk c55
    clear c55
    obtain ⟨y373, hy373⟩ : ∃ y_ : List Int, y_ = ((rd_L2 x8_2 (ji34)) ++ [rd t349 x29_2]) := ⟨_, rfl⟩
    replace H : (changepoint_Clusters.l0 k2 a1 (x8_2.set ((ji34) : Int).toNat y373) t349 (t349.length : Int) (wrap64 (x29_2 + 1))) = some (r1, r2) := by first | (rw [hy373]; with_reducible exact H) | (have H2_ := (Option.bind_some _ _).symm.trans H; rw [hy373]; with_reducible exact H2_) | (have H2_ := (Option.bind_some _ _).symm.trans H; with_reducible exact H2_) | with_reducible exact H | (rw [hy373]; exact H) | exact H
    have Ny373 := Aside0.mk hy373
    clear hy373
    obtain ⟨y376, hy376⟩ : ∃ y_ : List (List Int), y_ = (x8_2.set ((ji34) : Int).toNat y373) := ⟨_, rfl⟩
    replace H : (changepoint_Clusters.l0 k2 a1 y376 t349 (t349.length : Int) (wrap64 (x29_2 + 1))) = some (r1, r2) := by first | (rw [hy376]; with_reducible exact H) | (have H2_ := (Option.bind_some _ _).symm.trans H; rw [hy376]; with_reducible exact H2_) | (have H2_ := (Option.bind_some _ _).symm.trans H; with_reducible exact H2_) | with_reducible exact H | (rw [hy376]; exact H) | exact H
    have Ny376 := Aside0.mk hy376
    clear hy376
    have H' := Aside0.mk H
    clear H
    have p352 : 0 ≤ (x29_2 : Int) := of_decide_eq_true qgclu_0
    have q352 : x29_2 < (t349.length : Int) := of_decide_eq_true qgclu_0
    obtain ⟨ad352, e352, hx352_0⟩ := Kd.at_int (Kd.R_reads' HO_27.out).2.2 x29_2 p352 q352
    cases e352
    replace p352 := eq_true p352
    replace q352 := eq_true q352
    obtain ⟨Ao57, co57, eo57⟩ := Kd.S_slice HO_8.out
    subst eo57
    have p361 : 0 ≤ ((ji34) : Int) := of_decide_eq_true qgclu_0
    have q361 : (ji34) < (x8_2.length : Int) := of_decide_eq_true qgclu_0
    obtain ⟨ad361, A361_0, c361_0, e361, hx361_0, hl361_0, hi361_0⟩ := at_L2 (Kd.S_reads' HO_8.out).2.2 (ji34) p361 q361
    cases e361
    obtain ⟨ce361, hce361, hMe361, hcc361⟩ := Kd.S_get HO_8.out [] (ji34) p361 (by first | exact q361 | exact of_decide_eq_true qgclu_0 | (have e_ := (Kd.S_reads' HO_8.out).1; omega))
    obtain ⟨ve361_0, rfl, ge361_0⟩ := hMe361
    have hv361_0 := hcc361 0 _ rfl
    rw [Nat.add_zero, show ((Kd.slice 3 (Kd.int .i64))).sz = 1 from rfl, Nat.mul_one] at hv361_0
    replace hv361_0 := Option.some.inj (hv361_0.symm.trans hx361_0)
    rw [hv361_0] at ge361_0
    have HL361_0 := Aside0.mk (show Kd.R (Kd.int .i64) 3 _ _ _ _ (rd_L2 x8_2 (ji34)) from ge361_0)
    clear hv361_0 ge361_0
    have HX361_0 := Aside0.mk hx361_0
    clear hcc361 hce361
    have HR361_0 := Aside0.mk hi361_0
    have HC361_0 := Aside0.mk hl361_0
    clear hi361_0 hl361_0
    replace p361 := eq_true p361
    replace q361 := eq_true q361
    have p362 : 0 ≤ ((ji34) : Int) := of_decide_eq_true qgclu_0
    have q362 : (ji34) < (x8_2.length : Int) := of_decide_eq_true qgclu_0
    obtain ⟨ad362, A362_0, c362_0, e362, hx362_0, hl362_0, hi362_0⟩ := at_L2 (Kd.S_reads' HO_8.out).2.2 (ji34) p362 q362
    obtain rfl : ad361 = ad362 := (by injection e362)
    obtain ⟨ce362, hce362, hMe362, hcc362⟩ := Kd.S_get HO_8.out [] (ji34) p362 (by first | exact q362 | exact of_decide_eq_true qgclu_0 | (have e_ := (Kd.S_reads' HO_8.out).1; omega))
    obtain ⟨ve362_0, rfl, ge362_0⟩ := hMe362
    have hv362_0 := hcc362 0 _ rfl
    rw [Nat.add_zero, show ((Kd.slice 3 (Kd.int .i64))).sz = 1 from rfl, Nat.mul_one] at hv362_0
    replace hv362_0 := Option.some.inj (hv362_0.symm.trans hx362_0)
    rw [hv362_0] at ge362_0
    have HL362_0 := Aside0.mk (show Kd.R (Kd.int .i64) 3 _ _ _ _ (rd_L2 x8_2 (ji34)) from ge362_0)
    clear hv362_0 ge362_0
    have HX362_0 := Aside0.mk hx362_0
    clear hcc362 hce362
    have HR362_0 := Aside0.mk hi362_0
    have HC362_0 := Aside0.mk hl362_0
    clear hi362_0 hl362_0
    replace p362 := eq_true p362
    replace q362 := eq_true q362
    have ea_ := Option.some.inj (hx361_0.symm.trans hx362_0)
    injection ea_ with ea_ en_ ec_
    subst ea_
    subst ec_
    clear en_
    have p363 : 0 ≤ ((ji37) : Int) := of_decide_eq_true qgclu_0
    have q363 : (ji37) < ((rd_L2 x8_2 (ji34)).length : Int) := of_decide_eq_true qgclu_0
    obtain ⟨ad363, e363, hx363_0⟩ := Kd.at_int qgclu_22 (ji37) p363 q363
    cases e363
    replace p363 := eq_true p363
    replace q363 := eq_true q363
    have p372 : 0 ≤ ((ji34) : Int) := of_decide_eq_true qgclu_0
    have q372 : (ji34) < (x8_2.length : Int) := of_decide_eq_true qgclu_0
    obtain ⟨ad372, A372_0, c372_0, e372, hx372_0, hl372_0, hi372_0⟩ := at_L2 (Kd.S_reads' HO_8.out).2.2 (ji34) p372 q372
    obtain rfl : ad361 = ad372 := (by injection e372)
    obtain ⟨ce372, hce372, hMe372, hcc372⟩ := Kd.S_get HO_8.out [] (ji34) p372 (by first | exact q372 | exact of_decide_eq_true qgclu_0 | (have e_ := (Kd.S_reads' HO_8.out).1; omega))
    obtain ⟨ve372_0, rfl, ge372_0⟩ := hMe372
    have hv372_0 := hcc372 0 _ rfl
    rw [Nat.add_zero, show ((Kd.slice 3 (Kd.int .i64))).sz = 1 from rfl, Nat.mul_one] at hv372_0
    replace hv372_0 := Option.some.inj (hv372_0.symm.trans hx372_0)
    rw [hv372_0] at ge372_0
    have HL372_0 := Aside0.mk (show Kd.R (Kd.int .i64) 3 _ _ _ _ (rd_L2 x8_2 (ji34)) from ge372_0)
    clear hv372_0 ge372_0
    have HX372_0 := Aside0.mk hx372_0
    clear hcc372 hce372
    have HR372_0 := Aside0.mk hi372_0
    have HC372_0 := Aside0.mk hl372_0
    clear hi372_0 hl372_0
    replace p372 := eq_true p372
    replace q372 := eq_true q372
    have ea_ := Option.some.inj (hx361_0.symm.trans hx372_0)
    injection ea_ with ea_ en_ ec_
    subst ea_
    subst ec_
    clear en_
    obtain ⟨go58, co58, eo58, gb58, gl58, cl58, HG58⟩ := Kd.S_form HO_8.out (by have h_ : ((ji34) : Int) < ((x8_2.length : Int) : Int) := of_decide_eq_true qgclu_0; have h2_ : 0 ≤ ((ji34) : Int) := (of_decide_eq_true qgclu_0); omega)
    (first | cases eo58 | (injection eo58 with ea_ en_ ec_; (first | subst ea_ | (injection ea_ with ea_; subst ea_)); subst ec_; clear en_))
    have GB58 := Aside0.mk gb58
    have GG58 := Aside0.mk HG58
    clear gb58 gl58 HG58
    (first | simp only [add_plain] at hx361_0 | skip)
    (first | simp only [add_plain] at hx362_0 | skip)
    (first | simp only [add_plain] at hx372_0 | skip)
    obtain ⟨oki58, ce58, hcl58, hM58, hcc58, _, _, hH58⟩ := Kd.S_elem HO_8.out [] ((ji34) : Int) (of_decide_eq_true qgclu_0) (by have h_ : ((ji34) : Int) < ((x8_2.length : Int) : Int) := of_decide_eq_true qgclu_0; first | exact h_ | (have e_ := (Kd.S_reads' HO_8.out).1; omega) | simpa using h_)
    obtain ⟨ve58_0, rfl, ge58_0⟩ := hM58
    have hv58 := hcc58 0 _ rfl
    have hX58 := HX372_0.out
    (try simp only [add_plain] at hX58)
    (try simp only [Nat.add_zero] at hv58)
    (try rw [show ((Kd.slice 3 (Kd.int .i64))).sz = 1 from rfl, Nat.mul_one] at hv58)
    replace hv58 := Option.some.inj (hv58.symm.trans hX58)
    subst hv58
    clear hX58 hcc58 hcl58
    have UU58 := Aside0.mk (show Kd.R (Kd.int .i64) 3 _ w.heap.size oki58 (.slice (some ad363) (rd_L2 x8_2 (ji34)).length c361_0) (rd_L2 x8_2 (ji34)) from ge58_0)
    have HH58 := Aside0.mk hH58
    have HN58 := Aside0.mk (Kd.S_reads' HO_8.out).1
    clear hH58 ge58_0
    go_wp2
    go_quiet (fail)
    go_wp2_with (first | ((with_reducible refine gate_builtin (b := .append) (xs := #[.tmp 70, .tmp 72]) rfl ?_); (try (refine gate_guard (by rfl) ?_; dsimp only)); at_builtin; refine Kd.R_append (Kd.int .i64) (w0 := w) w.heap.size rfl (.tmp 70) (.tmp 72) 26 3 (.int .i64 0) 8 rfl Try.underlying26 info3 rfl (by decide) (by omega) (.slice (some ad363) (rd_L2 x8_2 (ji34)).length c361_0) (rd_L2 x8_2 (ji34)) (rd t349 x29_2) [.int .i64 (rd t349 x29_2)] (fun k_ => oki58 k_ ∨ ((fun k_ => some k_ ≠ (.slice (some ad352) t349.length co16 : Value).ownBlock)) k_ ∧ wr.heap.size ≤ k_) (fun _ => False) rfl rfl ?aP (fun _ hk => hk.elim) ?aF ?aO ?aB ?aS ?aL ?_; (case aP => exact qgclu_4); (case aB => exact qgclu_1); (case aF => exact qgclu_6); (case aO => exact qgclu_13); (case aS => exact qgclu_25); (case aL => have := LMc55.out; omega); intro v374 w59 ho hb hg hat; rw [← Ny373.out] at ho; have n0_ := Aside0.mk (Kd.R_grown2 qgclu_2 rfl hg (fun k_ e_ => (HL372_0.out.1 k_ e_).1)); have n1_ := Aside0.mk (hb); have n2_ := Aside0.mk (Kd.H_grown (Kd.H_widen qgclu_18) hg (fun k_ e_ => .inl (UU58.out.1 k_ e_))); have n3_ := Aside0.mk (ho); clear HO_27; clear HB; clear HH58; clear HO_8; clear UU58; clear HL361_0; clear HL362_0; clear HL372_0; have HO_27 := n0_; have HB := n1_; have HH58 := n2_; have HO375 := n3_; clear n0_ n1_ n2_ n3_; clear ho hb hg hat; have p56 : 0 ≤ ((ji34) : Int) := of_decide_eq_true qgclu_0; have q56 : ((ji34) : Int) < ((x8_2.length : Int) : Int) := of_decide_eq_true qgclu_0; replace p56 := eq_true p56; replace q56 := eq_true q56; obtain ⟨Ao62, co62, eo62⟩ := Kd.R_slice HO375.out; subst eo62; obtain ⟨_, _, hraw60, _, _, hcc60, _⟩ := Kd.H_raw HH58.out (of_decide_eq_true qgclu_0) (by have h_ : ((ji34) : Int) < ((x8_2.length : Int) : Int) := of_decide_eq_true qgclu_0; first | exact h_ | (have e_ := (HN58.out); omega) | simpa using h_); obtain ⟨_, hfr60⟩ := Kd.H_at HH58.out (of_decide_eq_true qgclu_0) (by have h_ : ((ji34) : Int) < ((x8_2.length : Int) : Int) := of_decide_eq_true qgclu_0; first | exact h_ | (have e_ := (HN58.out); omega) | simpa using h_); have hx60_0 := hcc60 0 _ rfl; have hf60_0 := hfr60 0; (try simp only [Nat.add_zero] at hx60_0 hf60_0); (try rw [show ((Kd.slice 3 (Kd.int .i64))).sz = 1 from rfl, Nat.mul_one] at hx60_0); (try rw [show ((Kd.slice 3 (Kd.int .i64))).sz = 1 from rfl, Nat.mul_one] at hf60_0); have HP60 := Kd.S_seg0 HH58.out (of_decide_eq_true qgclu_0) (by have h_ : ((ji34) : Int) < ((x8_2.length : Int) : Int) := of_decide_eq_true qgclu_0; first | exact h_ | (have e_ := (HN58.out); omega) | simpa using h_) (seg := [.slice Ao62 y373.length co62]) (j := 0) (show 1 ≤ 1 from by decide) (x' := y373) (Kd.M_row HO375.out) (fun _ hk => hk); (try simp only [show ((Kd.slice 3 (Kd.int .i64))).sz = 1 from rfl, Nat.mul_one, Nat.add_zero] at HP60); clear hcc60 hfr60) | ((with_reducible refine gate_store (t := 26) (p := 74) rfl ?_); (try (rw [drewN_self w59]; generalize hq_ : World.drewN w59 _ = w59; have n0_ := Aside0.mk (Kd.R_at hq_ HO_27.out); have n1_ := Aside0.mk (Kd.S_at hq_ HO_8.out); have n2_ := Aside0.mk (below_at hq_ HB.out); clear hq_ HO_27 HO_8 HB; have HO_27 := n0_; have HO_8 := n1_; have HB := n2_; clear n0_ n1_ n2_; (try (obtain ⟨Ao62, co62, eo62⟩ := Kd.R_slice HO375.out)); (try (subst eo62)); (try (obtain ⟨_, _, hraw60, _, _, hcc60, _⟩ := Kd.H_raw HH58.out (of_decide_eq_true qgclu_0) (by have h_ : ((ji34) : Int) < ((x8_2.length : Int) : Int) := of_decide_eq_true qgclu_0; first | exact h_ | (have e_ := (HN58.out); omega) | simpa using h_))); (try (obtain ⟨_, hfr60⟩ := Kd.H_at HH58.out (of_decide_eq_true qgclu_0) (by have h_ : ((ji34) : Int) < ((x8_2.length : Int) : Int) := of_decide_eq_true qgclu_0; first | exact h_ | (have e_ := (HN58.out); omega) | simpa using h_))); (try (have hx60_0 := hcc60 0 _ rfl)); (try (have hf60_0 := hfr60 0)); (try (try simp only [Nat.add_zero] at hx60_0 hf60_0)); (try (try rw [show ((Kd.slice 3 (Kd.int .i64))).sz = 1 from rfl, Nat.mul_one] at hx60_0)); (try (try rw [show ((Kd.slice 3 (Kd.int .i64))).sz = 1 from rfl, Nat.mul_one] at hf60_0)); (try (have HP60 := Kd.S_seg0 HH58.out (of_decide_eq_true qgclu_0) (by have h_ : ((ji34) : Int) < ((x8_2.length : Int) : Int) := of_decide_eq_true qgclu_0; first | exact h_ | (have e_ := (HN58.out); omega) | simpa using h_) (seg := [.slice Ao62 y373.length co62]) (j := 0) (show 1 ≤ 1 from by decide) (x' := y373) (Kd.M_row HO375.out) (fun _ hk => hk))); (try (try simp only [show ((Kd.slice 3 (Kd.int .i64))).sz = 1 from rfl, Nat.mul_one, Nat.add_zero] at HP60)); (try (clear hcc60 hfr60)))); refine store_event (t := 26) (p := 74) (v := ?vo_w61) (w1 := (w59.setCell ⟨go58, ((ji34) : Int).toNat, none⟩ (.slice Ao62 y373.length co62))) ?hg ?ho ?hn ?hr ?_; (case ho => rfl); (case hg => rfl); (case hn => rfl); (case hr => exact qgclu_19); intro w61 hw; have hg : w59.grownBy w61 (some go58) := (by rw [hw]; exact HP60.2); have hp_ : Kd.S (Kd.slice 3 (Kd.int .i64)) 26 w61 w.heap.size (fun k_ => some k_ ≠ (.slice (some ad352) t349.length co16 : Value).ownBlock) (.slice (some ⟨go58, 0, none⟩) x8_2.length co57) y376 := (by rw [hw, Ny376.out]; exact HP60.1); clear HP60; have n0_ := Aside0.mk (Kd.R_over' (v := (.slice (some ⟨go58, 0, none⟩) x8_2.length co57)) qgclu_2 (Kd.R_typed hraw60) (by decide) hg); have n1_ := Aside0.mk ((by rw [hw]; exact below_set HB.out GB58.out : Below w.heap.size w w61)); have n2_ := Aside0.mk (hp_); clear HO_27; clear HB; clear HO375; clear HH58; have HO_27 := n0_; have HB := n1_; have HO_8 := n2_; clear n0_ n1_ n2_; clear hg hw hp_ hraw60))
    go_roundg k2
    case measure => have := HJ3.out; have := HK2.out; omega
    case rel => exact ⟨(y376), (wrap64 (x29_2 + 1)), qgclu_9, H', ⟨by have := HJ3.out; have := HK2.out; omega⟩, ⟨qgclu_5⟩, ⟨qgclu_2⟩, ⟨qgclu_1⟩⟩
   rw [if_pos c40] at H
   have c40b0 : decide (a1 < (wrap64 ((rd t349 x29_2) - (rd (rd_L2 x8_2 (ji34)) (ji37))))) = true := decide_eq_true c40
   clear c40
   by_cases c41 : x8_2.length < 5864062014805
   rotate_left
   ·rw [if_neg c41] at H
    exact absurd H (by simp)
   rw [if_pos c41] at H
   have LMc41 := Aside0.mk c41
   clear c41
   obtain ⟨y364, hy364⟩ : ∃ y_ : List (List Int), y_ = (x8_2 ++ [[]]) := ⟨_, rfl⟩
   replace H : (if 0 ≤ (wrap64 ((y364.length : Int) - 1)) then (if (wrap64 ((y364.length : Int) - 1)) < (y364.length : Int) then (if (rd_L2 y364 (wrap64 ((y364.length : Int) - 1))).length < 17592186044416 then (changepoint_Clusters.l0 k2 a1 (y364.set ((wrap64 ((y364.length : Int) - 1)) : Int).toNat ((rd_L2 y364 (wrap64 ((y364.length : Int) - 1))) ++ [rd t349 x29_2])) t349 (t349.length : Int) (wrap64 (x29_2 + 1))) else (none)) else (none)) else (none)) = some (r1, r2) := by first | (rw [hy364]; with_reducible exact H) | (have H2_ := (Option.bind_some _ _).symm.trans H; rw [hy364]; with_reducible exact H2_) | (have H2_ := (Option.bind_some _ _).symm.trans H; with_reducible exact H2_) | with_reducible exact H | (rw [hy364]; exact H) | exact H
   have Ny364 := Aside0.mk hy364
   clear hy364
   obtain ⟨ji42, hji42⟩ : ∃ j_ : Int, (wrap64 ((y364.length : Int) - 1)) = j_ := ⟨_, rfl⟩
   replace H : (if 0 ≤ (ji42) then (if (ji42) < (y364.length : Int) then (if (rd_L2 y364 (ji42)).length < 17592186044416 then (changepoint_Clusters.l0 k2 a1 (y364.set ((ji42) : Int).toNat ((rd_L2 y364 (ji42)) ++ [rd t349 x29_2])) t349 (t349.length : Int) (wrap64 (x29_2 + 1))) else (none)) else (none)) else (none)) = some (r1, r2) := by first | (rw [hji42] at H; exact H) | (simp only [hji42] at H ⊢; exact H)
   have hji42w : (IntKind.i64.wrap ((y364.length : Int) - 1)) = ji42 := (i64_w _).trans hji42
   by_cases c43 : 0 ≤ (ji42)
   rotate_left
   ·rw [if_neg c43] at H
    exact absurd H (by simp)
   rw [if_pos c43] at H
   have c43b0 : decide (0 ≤ (ji42)) = true := decide_eq_true c43
   clear c43
   by_cases c44 : (ji42) < (y364.length : Int)
   rotate_left
   ·rw [if_neg c44] at H
    exact absurd H (by simp)
   rw [if_pos c44] at H
   have c44b0 : decide ((ji42) < (y364.length : Int)) = true := decide_eq_true c44
   clear c44
   by_cases c45 : (rd_L2 y364 (ji42)).length < 17592186044416
   rotate_left
   ·rw [if_neg c45] at H
    exact absurd H (by simp)
   rw [if_pos c45] at H
   have LMc45 := Aside0.mk c45
   clear c45
   obtain ⟨y368, hy368⟩ : ∃ y_ : List Int, y_ = ((rd_L2 y364 (ji42)) ++ [rd t349 x29_2]) := ⟨_, rfl⟩
   replace H : (changepoint_Clusters.l0 k2 a1 (y364.set ((ji42) : Int).toNat y368) t349 (t349.length : Int) (wrap64 (x29_2 + 1))) = some (r1, r2) := by first | (rw [hy368]; with_reducible exact H) | (have H2_ := (Option.bind_some _ _).symm.trans H; rw [hy368]; with_reducible exact H2_) | (have H2_ := (Option.bind_some _ _).symm.trans H; with_reducible exact H2_) | with_reducible exact H | (rw [hy368]; exact H) | exact H
   have Ny368 := Aside0.mk hy368
   clear hy368
   obtain ⟨y371, hy371⟩ : ∃ y_ : List (List Int), y_ = (y364.set ((ji42) : Int).toNat y368) := ⟨_, rfl⟩
   replace H : (changepoint_Clusters.l0 k2 a1 y371 t349 (t349.length : Int) (wrap64 (x29_2 + 1))) = some (r1, r2) := by first | (rw [hy371]; with_reducible exact H) | (have H2_ := (Option.bind_some _ _).symm.trans H; rw [hy371]; with_reducible exact H2_) | (have H2_ := (Option.bind_some _ _).symm.trans H; with_reducible exact H2_) | with_reducible exact H | (rw [hy371]; exact H) | exact H
   have Ny371 := Aside0.mk hy371
   clear hy371
   have H' := Aside0.mk H
   clear H
   have p352 : 0 ≤ (x29_2 : Int) := of_decide_eq_true qgclu_0
   have q352 : x29_2 < (t349.length : Int) := of_decide_eq_true qgclu_0
   obtain ⟨ad352, e352, hx352_0⟩ := Kd.at_int (Kd.R_reads' HO_27.out).2.2 x29_2 p352 q352
   cases e352
   replace p352 := eq_true p352
   replace q352 := eq_true q352
   obtain ⟨Ao47, co47, eo47⟩ := Kd.S_slice HO_8.out
   subst eo47
   have p361 : 0 ≤ ((ji34) : Int) := of_decide_eq_true qgclu_0
   have q361 : (ji34) < (x8_2.length : Int) := of_decide_eq_true qgclu_0
   obtain ⟨ad361, A361_0, c361_0, e361, hx361_0, hl361_0, hi361_0⟩ := at_L2 (Kd.S_reads' HO_8.out).2.2 (ji34) p361 q361
   cases e361
   obtain ⟨ce361, hce361, hMe361, hcc361⟩ := Kd.S_get HO_8.out [] (ji34) p361 (by first | exact q361 | exact of_decide_eq_true qgclu_0 | (have e_ := (Kd.S_reads' HO_8.out).1; omega))
   obtain ⟨ve361_0, rfl, ge361_0⟩ := hMe361
   have hv361_0 := hcc361 0 _ rfl
   rw [Nat.add_zero, show ((Kd.slice 3 (Kd.int .i64))).sz = 1 from rfl, Nat.mul_one] at hv361_0
   replace hv361_0 := Option.some.inj (hv361_0.symm.trans hx361_0)
   rw [hv361_0] at ge361_0
   have HL361_0 := Aside0.mk (show Kd.R (Kd.int .i64) 3 _ _ _ _ (rd_L2 x8_2 (ji34)) from ge361_0)
   clear hv361_0 ge361_0
   have HX361_0 := Aside0.mk hx361_0
   clear hcc361 hce361
   have HR361_0 := Aside0.mk hi361_0
   have HC361_0 := Aside0.mk hl361_0
   clear hi361_0 hl361_0
   replace p361 := eq_true p361
   replace q361 := eq_true q361
   have p362 : 0 ≤ ((ji34) : Int) := of_decide_eq_true qgclu_0
   have q362 : (ji34) < (x8_2.length : Int) := of_decide_eq_true qgclu_0
   obtain ⟨ad362, A362_0, c362_0, e362, hx362_0, hl362_0, hi362_0⟩ := at_L2 (Kd.S_reads' HO_8.out).2.2 (ji34) p362 q362
   obtain rfl : ad361 = ad362 := (by injection e362)
   obtain ⟨ce362, hce362, hMe362, hcc362⟩ := Kd.S_get HO_8.out [] (ji34) p362 (by first | exact q362 | exact of_decide_eq_true qgclu_0 | (have e_ := (Kd.S_reads' HO_8.out).1; omega))
   obtain ⟨ve362_0, rfl, ge362_0⟩ := hMe362
   have hv362_0 := hcc362 0 _ rfl
   rw [Nat.add_zero, show ((Kd.slice 3 (Kd.int .i64))).sz = 1 from rfl, Nat.mul_one] at hv362_0
   replace hv362_0 := Option.some.inj (hv362_0.symm.trans hx362_0)
   rw [hv362_0] at ge362_0
   have HL362_0 := Aside0.mk (show Kd.R (Kd.int .i64) 3 _ _ _ _ (rd_L2 x8_2 (ji34)) from ge362_0)
   clear hv362_0 ge362_0
   have HX362_0 := Aside0.mk hx362_0
   clear hcc362 hce362
   have HR362_0 := Aside0.mk hi362_0
   have HC362_0 := Aside0.mk hl362_0
   clear hi362_0 hl362_0
   replace p362 := eq_true p362
   replace q362 := eq_true q362
   have ea_ := Option.some.inj (hx361_0.symm.trans hx362_0)
   injection ea_ with ea_ en_ ec_
   subst ea_
   subst ec_
   clear en_
   have p363 : 0 ≤ ((ji37) : Int) := of_decide_eq_true qgclu_0
   have q363 : (ji37) < ((rd_L2 x8_2 (ji34)).length : Int) := of_decide_eq_true qgclu_0
   obtain ⟨ad363, e363, hx363_0⟩ := Kd.at_int qgclu_22 (ji37) p363 q363
   cases e363
   replace p363 := eq_true p363
   replace q363 := eq_true q363
   go_wp2
   go_quiet (fail)
   go_wp2_with (first | ((with_reducible refine gate_builtin (b := .append) (xs := #[.tmp 58, .tmp 59]) rfl ?_); (try (refine gate_guard (by rfl) ?_; dsimp only)); at_builtin; refine Kd.S_append (Kd.slice 3 (Kd.int .i64)) (w0 := w) w.heap.size rfl (.tmp 58) (.tmp 59) 65 26 (.slice none 0 0) 24 rfl Try.underlying65 info26 rfl (by decide) (by omega) (.slice (some ad361) x8_2.length co47) x8_2 [] [.slice none 0 0] (fun k_ => some k_ ≠ (.slice (some ad352) t349.length co16 : Value).ownBlock) (fun _ => False) rfl rfl ?aP (fun _ hk => hk.elim) ?aF ?aO ?aB ?aS ?aL ?_; (case aP => exact qgclu_4); (case aB => exact qgclu_1); (case aF => exact qgclu_23); (case aO => exact qgclu_3); (case aS => exact qgclu_25); (case aL => have := LMc41.out; omega); intro v365 w48 ho hb hg hat; rw [← Ny364.out] at ho; have n0_ := Aside0.mk (Kd.R_over' qgclu_2 (Kd.S_typed qgclu_5) (by decide) hg); have n1_ := Aside0.mk (Kd.R_after (ok := (fun k_ => some k_ ≠ (.slice (some ad352) t349.length co16 : Value).ownBlock)) qgclu_14 hg hat); have n2_ := Aside0.mk (Kd.R_after (ok := (fun k_ => some k_ ≠ (.slice (some ad352) t349.length co16 : Value).ownBlock)) qgclu_15 hg hat); have n3_ := Aside0.mk (hb); have n4_ := Aside0.mk (ho); clear HO_27; clear HL361_0; clear HL362_0; clear HB; clear HO_8; have HO_27 := n0_; have HL361_0 := n1_; have HL362_0 := n2_; have HB := n3_; have HO366 := n4_; clear n0_ n1_ n2_ n3_ n4_; clear ho hb hg hat; obtain ⟨Ao49, co49, eo49⟩ := Kd.S_slice HO366.out; subst eo49; have p367 : 0 ≤ ((ji42) : Int) := of_decide_eq_true qgclu_0; have q367 : (ji42) < (y364.length : Int) := of_decide_eq_true qgclu_0; obtain ⟨ad367, A367_0, c367_0, e367, hx367_0, hl367_0, hi367_0⟩ := at_L2 (Kd.S_reads' HO366.out).2.2 (ji42) p367 q367; cases e367; obtain ⟨ce367, hce367, hMe367, hcc367⟩ := Kd.S_get HO366.out [] (ji42) p367 qgclu_21; obtain ⟨ve367_0, rfl, ge367_0⟩ := hMe367; have hv367_0 := hcc367 0 _ rfl; rw [Nat.add_zero, show ((Kd.slice 3 (Kd.int .i64))).sz = 1 from rfl, Nat.mul_one] at hv367_0; replace hv367_0 := Option.some.inj (hv367_0.symm.trans hx367_0); rw [hv367_0] at ge367_0; have HL367_0 := Aside0.mk (show Kd.R (Kd.int .i64) 3 _ _ _ _ (rd_L2 y364 (ji42)) from ge367_0); clear hv367_0 ge367_0; have HX367_0 := Aside0.mk hx367_0; clear hcc367 hce367; have HR367_0 := Aside0.mk hi367_0; have HC367_0 := Aside0.mk hl367_0; clear hi367_0 hl367_0; replace p367 := eq_true p367; replace q367 := eq_true q367; obtain ⟨go50, co50, eo50, gb50, gl50, cl50, HG50⟩ := Kd.S_form HO366.out (by have h_ : ((ji42) : Int) < ((y364.length : Int) : Int) := of_decide_eq_true qgclu_0; have h2_ : 0 ≤ ((ji42) : Int) := (of_decide_eq_true qgclu_0); omega); (first | cases eo50 | (injection eo50 with ea_ en_ ec_; (first | subst ea_ | (injection ea_ with ea_; subst ea_)); subst ec_; clear en_)); have GB50 := Aside0.mk gb50; have GG50 := Aside0.mk HG50; clear gb50 gl50 HG50; (first | simp only [add_plain] at hx367_0 | skip); obtain ⟨oki50, ce50, hcl50, hM50, hcc50, _, _, hH50⟩ := Kd.S_elem HO366.out [] ((ji42) : Int) (of_decide_eq_true qgclu_0) (by have h_ : ((ji42) : Int) < ((y364.length : Int) : Int) := of_decide_eq_true qgclu_0; first | exact h_ | (have e_ := (Kd.S_reads' HO366.out).1; omega) | simpa using h_); obtain ⟨ve50_0, rfl, ge50_0⟩ := hM50; have hv50 := hcc50 0 _ rfl; have hX50 := HX367_0.out; (try simp only [add_plain] at hX50); (try simp only [Nat.add_zero] at hv50); (try rw [show ((Kd.slice 3 (Kd.int .i64))).sz = 1 from rfl, Nat.mul_one] at hv50); replace hv50 := Option.some.inj (hv50.symm.trans hX50); subst hv50; clear hX50 hcc50 hcl50; have UU50 := Aside0.mk (show Kd.R (Kd.int .i64) 3 _ w.heap.size oki50 (.slice A367_0 (rd_L2 y364 (ji42)).length c367_0) (rd_L2 y364 (ji42)) from ge50_0); have HH50 := Aside0.mk hH50; have HN50 := Aside0.mk (Kd.S_reads' HO366.out).1; clear hH50 ge50_0) | ((with_reducible refine gate_builtin (b := .append) (xs := #[.tmp 70, .tmp 72]) rfl ?_); (try (refine gate_guard (by rfl) ?_; dsimp only)); at_builtin; refine Kd.R_append (Kd.int .i64) (w0 := w) w.heap.size rfl (.tmp 70) (.tmp 72) 26 3 (.int .i64 0) 8 rfl Try.underlying26 info3 rfl (by decide) (by omega) (.slice A367_0 (rd_L2 y364 (ji42)).length c367_0) (rd_L2 y364 (ji42)) (rd t349 x29_2) [.int .i64 (rd t349 x29_2)] (fun k_ => oki50 k_ ∨ ((fun k_ => some k_ ≠ (.slice (some ad352) t349.length co16 : Value).ownBlock)) k_ ∧ w48.heap.size ≤ k_) (fun _ => False) rfl rfl ?aP (fun _ hk => hk.elim) ?aF ?aO ?aB ?aS ?aL ?_; (case aP => exact qgclu_4); (case aB => exact qgclu_1); (case aF => exact qgclu_6); (case aO => exact qgclu_12); (case aS => exact qgclu_25); (case aL => have := LMc45.out; omega); intro v369 w51 ho hb hg hat; rw [← Ny368.out] at ho; have n0_ := Aside0.mk (Kd.R_grown2 qgclu_2 rfl hg (fun k_ e_ => (HL367_0.out.1 k_ e_).1)); have n1_ := Aside0.mk (hb); have n2_ := Aside0.mk (Kd.H_grown (Kd.H_widen qgclu_17) hg (fun k_ e_ => .inl (UU50.out.1 k_ e_))); have n3_ := Aside0.mk (ho); clear HO_27; clear HB; clear HH50; clear HO366; clear UU50; clear HL361_0; clear HL362_0; clear HL367_0; have HO_27 := n0_; have HB := n1_; have HH50 := n2_; have HO370 := n3_; clear n0_ n1_ n2_ n3_; clear ho hb hg hat; have p46 : 0 ≤ ((ji42) : Int) := of_decide_eq_true qgclu_0; have q46 : ((ji42) : Int) < ((y364.length : Int) : Int) := of_decide_eq_true qgclu_0; replace p46 := eq_true p46; replace q46 := eq_true q46; obtain ⟨Ao54, co54, eo54⟩ := Kd.R_slice HO370.out; subst eo54; obtain ⟨_, _, hraw52, _, _, hcc52, _⟩ := Kd.H_raw HH50.out (of_decide_eq_true qgclu_0) (by have h_ : ((ji42) : Int) < ((y364.length : Int) : Int) := of_decide_eq_true qgclu_0; first | exact h_ | (have e_ := (HN50.out); omega) | simpa using h_); obtain ⟨_, hfr52⟩ := Kd.H_at HH50.out (of_decide_eq_true qgclu_0) (by have h_ : ((ji42) : Int) < ((y364.length : Int) : Int) := of_decide_eq_true qgclu_0; first | exact h_ | (have e_ := (HN50.out); omega) | simpa using h_); have hx52_0 := hcc52 0 _ rfl; have hf52_0 := hfr52 0; (try simp only [Nat.add_zero] at hx52_0 hf52_0); (try rw [show ((Kd.slice 3 (Kd.int .i64))).sz = 1 from rfl, Nat.mul_one] at hx52_0); (try rw [show ((Kd.slice 3 (Kd.int .i64))).sz = 1 from rfl, Nat.mul_one] at hf52_0); have HP52 := Kd.S_seg0 HH50.out (of_decide_eq_true qgclu_0) (by have h_ : ((ji42) : Int) < ((y364.length : Int) : Int) := of_decide_eq_true qgclu_0; first | exact h_ | (have e_ := (HN50.out); omega) | simpa using h_) (seg := [.slice Ao54 y368.length co54]) (j := 0) (show 1 ≤ 1 from by decide) (x' := y368) (Kd.M_row HO370.out) (fun _ hk => hk); (try simp only [show ((Kd.slice 3 (Kd.int .i64))).sz = 1 from rfl, Nat.mul_one, Nat.add_zero] at HP52); clear hcc52 hfr52) | ((with_reducible refine gate_store (t := 26) (p := 74) rfl ?_); (try (rw [drewN_self w51]; generalize hq_ : World.drewN w51 _ = w51; have n0_ := Aside0.mk (Kd.R_at hq_ HO_27.out); have n1_ := Aside0.mk (Kd.S_at hq_ HO366.out); have n2_ := Aside0.mk (below_at hq_ HB.out); clear hq_ HO_27 HO366 HB; have HO_27 := n0_; have HO366 := n1_; have HB := n2_; clear n0_ n1_ n2_; (try (obtain ⟨Ao54, co54, eo54⟩ := Kd.R_slice HO370.out)); (try (subst eo54)); (try (obtain ⟨_, _, hraw52, _, _, hcc52, _⟩ := Kd.H_raw HH50.out (of_decide_eq_true qgclu_0) (by have h_ : ((ji42) : Int) < ((y364.length : Int) : Int) := of_decide_eq_true qgclu_0; first | exact h_ | (have e_ := (HN50.out); omega) | simpa using h_))); (try (obtain ⟨_, hfr52⟩ := Kd.H_at HH50.out (of_decide_eq_true qgclu_0) (by have h_ : ((ji42) : Int) < ((y364.length : Int) : Int) := of_decide_eq_true qgclu_0; first | exact h_ | (have e_ := (HN50.out); omega) | simpa using h_))); (try (have hx52_0 := hcc52 0 _ rfl)); (try (have hf52_0 := hfr52 0)); (try (try simp only [Nat.add_zero] at hx52_0 hf52_0)); (try (try rw [show ((Kd.slice 3 (Kd.int .i64))).sz = 1 from rfl, Nat.mul_one] at hx52_0)); (try (try rw [show ((Kd.slice 3 (Kd.int .i64))).sz = 1 from rfl, Nat.mul_one] at hf52_0)); (try (have HP52 := Kd.S_seg0 HH50.out (of_decide_eq_true qgclu_0) (by have h_ : ((ji42) : Int) < ((y364.length : Int) : Int) := of_decide_eq_true qgclu_0; first | exact h_ | (have e_ := (HN50.out); omega) | simpa using h_) (seg := [.slice Ao54 y368.length co54]) (j := 0) (show 1 ≤ 1 from by decide) (x' := y368) (Kd.M_row HO370.out) (fun _ hk => hk))); (try (try simp only [show ((Kd.slice 3 (Kd.int .i64))).sz = 1 from rfl, Nat.mul_one, Nat.add_zero] at HP52)); (try (clear hcc52 hfr52)))); refine store_event (t := 26) (p := 74) (v := ?vo_w53) (w1 := (w51.setCell ⟨go50, ((ji42) : Int).toNat, none⟩ (.slice Ao54 y368.length co54))) ?hg ?ho ?hn ?hr ?_; (case ho => rfl); (case hg => rfl); (case hn => rfl); (case hr => exact qgclu_19); intro w53 hw; have hg : w51.grownBy w53 (some go50) := (by rw [hw]; exact HP52.2); have hp_ : Kd.S (Kd.slice 3 (Kd.int .i64)) 26 w53 w.heap.size (fun k_ => some k_ ≠ (.slice (some ad352) t349.length co16 : Value).ownBlock) (.slice (some ⟨go50, 0, none⟩) y364.length co49) y371 := (by rw [hw, Ny371.out]; exact HP52.1); clear HP52; have n0_ := Aside0.mk (Kd.R_over' (v := (.slice (some ⟨go50, 0, none⟩) y364.length co49)) qgclu_2 (Kd.R_typed hraw52) (by decide) hg); have n1_ := Aside0.mk ((by rw [hw]; exact below_set HB.out GB50.out : Below w.heap.size w w53)); have n2_ := Aside0.mk (hp_); clear HO_27; clear HB; clear HO370; clear HH50; have HO_27 := n0_; have HB := n1_; have HO366 := n2_; clear n0_ n1_ n2_; clear hg hw hp_ hraw52))
   go_roundg k2
   case measure => have := HJ3.out; have := HK2.out; omega
   case rel => exact ⟨(y371), (wrap64 (x29_2 + 1)), qgclu_9, H', ⟨by have := HJ3.out; have := HK2.out; omega⟩, ⟨by (with_reducible repeat (first | apply Kd.S_alloc | apply Kd.S_drewN | apply Kd.S_drew)); exact HO366.out⟩, ⟨qgclu_2⟩, ⟨qgclu_1⟩⟩

-- NOT PRINTED: function 28 (sleuthref05_Sorted)

end Go.Proofs.Ytcjgmofgfblmnaa.Q
