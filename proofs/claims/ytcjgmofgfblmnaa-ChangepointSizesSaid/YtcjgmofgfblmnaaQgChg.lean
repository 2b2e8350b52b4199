-- Laid by myprint.py (a program of this session's, over the kit's printer and with functions proved by hand)
import Derived.Test.YtcjgmofgfblmnaaTy
import Derived.Test.YtcjgmofgfblmnaaQgBase
namespace Go.Proofs.Ytcjgmofgfblmnaa.Q
open Go.RowKit Go.Proofs.YtcjgmofgfblmnaaW.PrintWords Go.Proofs.YtcjgmofgfblmnaaW.PrintLast Go.Proofs.YtcjgmofgfblmnaaW.PrintMore
attribute [local go_sem] max2_int min2_int max_two min_two max_three min_three max_four min_four   -- for this text's walks alone
set_option linter.unusedVariables false
set_option linter.unusedSimpArgs false

attribute [local go_sem high] eqA41 eqA58
theorem qgchg_0 {p : Prop} (h : p := by repeat (first | (with_reducible first | exact HB.out | apply below_alloc | apply pw_below_drewN | apply below_drew1) | exact HB.out)) : p := h
theorem qgchg_1 {p : Prop} (h : p := by first | rfl | (simp; done) | (simp [*]; done)) : p := h
theorem qgchg_2 {p : Prop} (h : p := by first | (with_reducible assumption) | assumption) : p := h
theorem qgchg_3 {p : Prop} (h : p := by (with_reducible repeat (first | apply Kd.R_alloc | apply Kd.R_drewN | apply Kd.R_drew)); exact HO_3.out) : p := h
theorem qgchg_4 {p : Prop} (h : p := by repeat (first | exact Drawn0.refl _ | apply Drawn0.step)) : p := h
/-! ### slices_Concat_int_int: function 45 -/
def slices_Concat_int_int.f (l0 : List (List Int)) : Option (List Int) := if l0.flatten.length < 17592186044416 ∧ 0 < l0.flatten.length then some l0.flatten else none
theorem slices_Concat_int_int.calls (A0 : Option Addr) (c0 : Nat) (l0 : List (List Int)) (r : List Int) (w : World) (hr0 : Kd.C (Kd.slice 3 (Kd.int .i64)) w A0 l0.length l0) (hc0 : l0.length ≤ c0) (h : slices_Concat_int_int.f l0 = some r) :
  Calls Try.prog 45 #[.slice A0 l0.length c0] w fun e w' => ∃ v0_ : Value, e = .returned (v0_) ∧ Kd.R (Kd.int .i64) 3 w' w.heap.size (fun _ => True) v0_ r ∧ Below w.heap.size w w' := by
 unfold slices_Concat_int_int.f at h
 split at h
 ·rename_i hc
  cases h
  exact HandC.concat_calls A0 c0 l0 w hr0 hc0 hc.1 hc.2
 ·cases h

/-! ### changepoint_ranks: function 44 -/
mutual
def changepoint_ranks.l0 : Nat → List Int → List Int → List Int → Int → Int → Option (List Int)
 | 0, _, _, _, _, _ => none
 | k + 1, x0, x3, x10, x11, x12 => if x12 < x11 then (if 0 ≤ x12 then (if x12 < (x10.length : Int) then (changepoint_ranks.l1 k x0 x3 (rd x10 x12) 0 0 x10 x11 x12 x0 (x0.length : Int) 0) else (none)) else (none)) else (some x3)
def changepoint_ranks.l1 : Nat → List Int → List Int → Int → Int → Int → List Int → Int → Int → List Int → Int → Int → Option (List Int)
 | 0, _, _, _, _, _, _, _, _, _, _, _ => none
 | k + 1, x0, x3, x5, x6, x7, x10, x11, x12, x16, x17, x18 => if x18 < x17 then (if 0 ≤ x18 then (if x18 < (x16.length : Int) then (if (rd x16 x18) < x5 then (changepoint_ranks.l1 k x0 x3 x5 (wrap64 (x6 + 1)) x7 x10 x11 x12 x16 x17 (wrap64 (x18 + 1))) else (if (rd x16 x18) = x5 then (changepoint_ranks.l1 k x0 x3 x5 x6 (wrap64 (x7 + 1)) x10 x11 x12 x16 x17 (wrap64 (x18 + 1))) else (changepoint_ranks.l1 k x0 x3 x5 x6 x7 x10 x11 x12 x16 x17 (wrap64 (x18 + 1))))) else (none)) else (none)) else (if x3.length < 17592186044416 then (changepoint_ranks.l0 k x0 (x3 ++ [wrap64 ((wrap64 ((wrap64 (2 * x6)) + x7)) + 1)]) x10 x11 (wrap64 (x12 + 1))) else (none))
end
def changepoint_ranks.f (k : Nat) (l0 : List Int) : Option (List Int) := changepoint_ranks.l0 k l0 ([] : List Int) l0 (l0.length : Int) 0
theorem changepoint_ranks.mono_l : ∀ k, (∀ y0 y1 y2 y3 y4, LeO (changepoint_ranks.l0 k y0 y1 y2 y3 y4) (changepoint_ranks.l0 (k + 1) y0 y1 y2 y3 y4)) ∧ (∀ y0 y1 y2 y3 y4 y5 y6 y7 y8 y9 y10, LeO (changepoint_ranks.l1 k y0 y1 y2 y3 y4 y5 y6 y7 y8 y9 y10) (changepoint_ranks.l1 (k + 1) y0 y1 y2 y3 y4 y5 y6 y7 y8 y9 y10))
 | 0 => ⟨fun _ _ _ _ _ r h => by simp [changepoint_ranks.l0] at h, fun _ _ _ _ _ _ _ _ _ _ _ r h => by simp [changepoint_ranks.l1] at h⟩
 | k + 1 => by
  obtain ⟨ih0, ih1⟩ := changepoint_ranks.mono_l k
  refine ⟨?_, ?_⟩
  ·intro y0 y1 y2 y3 y4
   unfold changepoint_ranks.l0
   repeat' first
   | (with_reducible exact ih0 _ _ _ _ _)
   | (with_reducible exact ih1 _ _ _ _ _ _ _ _ _ _ _)
   | (with_reducible exact LeO.refl _)
   | (with_reducible exact LeO.none _)
   | (with_reducible refine LeO.ite ?_ ?_)
   | (with_reducible refine LeO.bind ?_ (fun _ => ?_))
   | exact ih0 _ _ _ _ _
   | exact ih1 _ _ _ _ _ _ _ _ _ _ _
   | exact LeO.none _
   | refine LeO.ite ?_ ?_
   | refine LeO.bind ?_ (fun _ => ?_)
  ·intro y0 y1 y2 y3 y4 y5 y6 y7 y8 y9 y10
   unfold changepoint_ranks.l1
   repeat' first
   | (with_reducible exact ih0 _ _ _ _ _)
   | (with_reducible exact ih1 _ _ _ _ _ _ _ _ _ _ _)
   | (with_reducible exact LeO.refl _)
   | (with_reducible exact LeO.none _)
   | (with_reducible refine LeO.ite ?_ ?_)
   | (with_reducible refine LeO.bind ?_ (fun _ => ?_))
   | exact ih0 _ _ _ _ _
   | exact ih1 _ _ _ _ _ _ _ _ _ _ _
   | exact LeO.none _
   | refine LeO.ite ?_ ?_
   | refine LeO.bind ?_ (fun _ => ?_)
theorem changepoint_ranks.mono : ∀ a0 k, LeO (changepoint_ranks.f k a0) (changepoint_ranks.f (k + 1) a0) := by
 intro a0 k
 obtain ⟨ih0, ih1⟩ := changepoint_ranks.mono_l k
 unfold changepoint_ranks.f
 repeat' first
   | (with_reducible exact ih0 _ _ _ _ _)
   | (with_reducible exact ih1 _ _ _ _ _ _ _ _ _ _ _)
   | (with_reducible exact LeO.refl _)
   | (with_reducible exact LeO.none _)
   | (with_reducible refine LeO.ite ?_ ?_)
   | (with_reducible refine LeO.bind ?_ (fun _ => ?_))
   | exact ih0 _ _ _ _ _
   | exact ih1 _ _ _ _ _ _ _ _ _ _ _
   | exact LeO.none _
   | refine LeO.ite ?_ ?_
   | refine LeO.bind ?_ (fun _ => ?_)
set_option maxHeartbeats 8000000 in
set_option maxRecDepth 100000 in
theorem changepoint_ranks.calls (k : Nat) (A0 : Option Addr) (c0 : Nat) (l0 : List Int) (r : List Int) (w : World) (hr0 : Kd.C (Kd.int .i64) w A0 l0.length l0) (hc0 : l0.length ≤ c0) (h : changepoint_ranks.f k l0 = some r) :
  Calls Try.prog 44 #[.slice A0 l0.length c0] w fun e w' => ∃ v0_ : Value, e = .returned (v0_) ∧ Kd.R (Kd.int .i64) 3 w' w.heap.size (fun _ => True) v0_ r ∧ Below w.heap.size w w' := by
 have HR0 := Aside0.mk hr0
 have HC0 := Aside0.mk hc0
 clear hr0 hc0
 have HB := Aside0.mk (Below.refl w.heap.size w)
 have H : (changepoint_ranks.l0 k l0 ([] : List Int) l0 (l0.length : Int) 0) = some r := h
 clear h
 have H' := Aside0.mk H
 clear H
 go_enter Try.func44, Try.ntmps44
 go_wp2
 go_loopg [3, 12] k (fun kq v3 v12 w' => ∃ (x3_1 : List Int) (x12_1 : Int), v12 = .int .i64 x12_1 ∧ Aside0 (changepoint_ranks.l0 kq l0 x3_1 l0 (l0.length : Int) x12_1 = some r) ∧ Aside0 (kq ≤ k) ∧ Aside0 (Kd.R (Kd.int .i64) 3 w' w.heap.size (fun _ => True) v3 x3_1) ∧ Aside0 (Below w.heap.size w w'))
 case atStart => exact ⟨(([] : List Int)), (0), qgchg_1, H', ⟨Nat.le_refl _⟩, ⟨by first | exact Kd.R_nil _ _ _ _ _ | exact Kd.N_nil _ _ _ _ _ | exact Kd.V_nil _ _ _ _ _ | exact Kd.Q_nil _ _ _ _ _ | exact Kd.S_nil _ _ _ _ _⟩, ⟨qgchg_0⟩⟩
 clear H'
 obtain ⟨x3_1, x12_1, rfl, HA, HK1, HO_3, HB⟩ := hrel
 cases gk with
 | zero => exact absurd HA.out (by simp [changepoint_ranks.l0])
 | succ k1 =>
  have H := HA.out
  clear HA
  simp only [changepoint_ranks.l0] at H
  by_cases c2 : x12_1 < (l0.length : Int)
  rotate_left
  ·rw [if_neg c2] at H
   have c2b0 : decide (x12_1 < (l0.length : Int)) = false := decide_eq_false c2
   clear c2
   obtain rfl := Option.some.inj H
   go_wp2
   go_ret
   exact ⟨_, by first | rfl | (simp [errW_none, errW_some] <;> rfl) | (simp [*, errW_none, errW_some] <;> rfl), qgchg_3, qgchg_0⟩
  rw [if_pos c2] at H
  have c2b0 : decide (x12_1 < (l0.length : Int)) = true := decide_eq_true c2
  clear c2
  by_cases c3 : 0 ≤ x12_1
  rotate_left
  ·rw [if_neg c3] at H
   exact absurd H (by simp)
  rw [if_pos c3] at H
  have c3b0 : decide (0 ≤ x12_1) = true := decide_eq_true c3
  clear c3
  by_cases c4 : x12_1 < (l0.length : Int)
  rotate_left
  ·rw [if_neg c4] at H
   exact absurd H (by simp)
  rw [if_pos c4] at H
  have c4b0 : decide (x12_1 < (l0.length : Int)) = true := decide_eq_true c4
  clear c4
  have H' := Aside0.mk H
  clear H
  have p293 : 0 ≤ (x12_1 : Int) := of_decide_eq_true qgchg_2
  have q293 : x12_1 < (l0.length : Int) := of_decide_eq_true qgchg_2
  obtain ⟨ad293, e293, hx293_0⟩ := Kd.at_int HR0.out x12_1 p293 q293
  cases e293
  replace hx293_0 := (HB.out.cell (World.block_lt_of_cell? w _ hx293_0)).trans hx293_0
  replace p293 := eq_true p293
  replace q293 := eq_true q293
  go_wp2
  go_loopg [6, 7, 18] k1 (fun kq v6 v7 v18 w' => ∃ (x6_2 : Int) (x7_2 : Int) (x18_2 : Int), v6 = .int .i64 x6_2 ∧ v7 = .int .i64 x7_2 ∧ v18 = .int .i64 x18_2 ∧ Aside0 (changepoint_ranks.l1 kq l0 x3_1 (rd l0 x12_1) x6_2 x7_2 l0 (l0.length : Int) x12_1 l0 (l0.length : Int) x18_2 = some r) ∧ Aside0 (kq ≤ k1) ∧ Aside0 (Kd.R (Kd.int .i64) 3 w' w.heap.size (fun _ => True) u3 x3_1) ∧ Aside0 (Below w.heap.size w w'))
  case atStart => exact ⟨(0), (0), (0), qgchg_1, qgchg_1, qgchg_1, H', ⟨Nat.le_refl _⟩, ⟨qgchg_3⟩, ⟨qgchg_0⟩⟩
  clear H'
  try clear c2
  try clear c2b0
  try clear p2
  try clear q2
  try clear hx2
  try clear c3
  try clear c3b0
  try clear c4
  try clear c4b0
  try clear hx293_0
  try clear p293
  try clear q293
  obtain ⟨x6_2, x7_2, x18_2, rfl, rfl, rfl, HA, HK2, HO_3, HB⟩ := hrel
  cases gk with
  | zero => exact absurd HA.out (by simp [changepoint_ranks.l1])
  | succ k2 =>
   have H := HA.out
   clear HA
   simp only [changepoint_ranks.l1] at H
   by_cases c5 : x18_2 < (l0.length : Int)
   rotate_left
   ·rw [if_neg c5] at H
    have c5b0 : decide (x18_2 < (l0.length : Int)) = false := decide_eq_false c5
    clear c5
    by_cases c10 : x3_1.length < 17592186044416
    rotate_left
    ·rw [if_neg c10] at H
     exact absurd H (by simp)
    rw [if_pos c10] at H
    have LMc10 := Aside0.mk c10
    clear c10
    obtain ⟨y294, hy294⟩ : ∃ y_ : List Int, y_ = (x3_1 ++ [wrap64 ((wrap64 ((wrap64 (2 * x6_2)) + x7_2)) + 1)]) := ⟨_, rfl⟩
    replace H : (changepoint_ranks.l0 k2 l0 y294 l0 (l0.length : Int) (wrap64 (x12_1 + 1))) = some r := by first | (rw [hy294]; with_reducible exact H) | (have H2_ := (Option.bind_some _ _).symm.trans H; rw [hy294]; with_reducible exact H2_) | (have H2_ := (Option.bind_some _ _).symm.trans H; with_reducible exact H2_) | with_reducible exact H | (rw [hy294]; exact H) | exact H
    have Ny294 := Aside0.mk hy294
    clear hy294
    have H' := Aside0.mk H
    clear H
    go_wp2_with (first | ((with_reducible refine gate_builtin (b := .append) (xs := #[.tmp 35, .tmp 41]) rfl ?_); at_builtin; refine Kd.R_append (Kd.int .i64) (w0 := w) w.heap.size rfl (.tmp 35) (.tmp 41) 26 3 (.int .i64 0) 8 rfl Try.underlying26 info3 rfl (by decide) (by omega) u3 x3_1 (wrap64 ((wrap64 ((wrap64 (2 * x6_2)) + x7_2)) + 1)) [.int .i64 (wrap64 ((wrap64 ((wrap64 (2 * x6_2)) + x7_2)) + 1))] (fun _ => True) (fun _ => False) rfl rfl ?aP (fun _ hk => hk.elim) ?aF ?aO ?aB ?aS ?aL ?_; (case aP => exact rfl); (case aB => exact qgchg_0); (case aF => exact (fun _ _ => trivial)); (case aO => exact qgchg_3); (case aS => exact (below_size qgchg_0)); (case aL => have := LMc10.out; omega); intro v295 w11 ho hb hg hat; rw [← Ny294.out] at ho; have n0_ := Aside0.mk (hb); have n1_ := Aside0.mk (ho); clear HB; clear HO_3; have HB := n0_; have HO296 := n1_; clear n0_ n1_; clear ho hb hg hat))
    go_roundg k2
    case measure => have := HK1.out; have := HK2.out; omega
    case rel => exact ⟨(y294), (wrap64 (x12_1 + 1)), qgchg_1, H', ⟨by have := HK1.out; have := HK2.out; omega⟩, ⟨by (with_reducible repeat (first | apply Kd.R_alloc | apply Kd.R_drewN | apply Kd.R_drew)); exact HO296.out⟩, ⟨qgchg_0⟩⟩
   rw [if_pos c5] at H
   have c5b0 : decide (x18_2 < (l0.length : Int)) = true := decide_eq_true c5
   clear c5
   by_cases c6 : 0 ≤ x18_2
   rotate_left
   ·rw [if_neg c6] at H
    exact absurd H (by simp)
   rw [if_pos c6] at H
   have c6b0 : decide (0 ≤ x18_2) = true := decide_eq_true c6
   clear c6
   by_cases c7 : x18_2 < (l0.length : Int)
   rotate_left
   ·rw [if_neg c7] at H
    exact absurd H (by simp)
   rw [if_pos c7] at H
   have c7b0 : decide (x18_2 < (l0.length : Int)) = true := decide_eq_true c7
   clear c7
   by_cases c8 : (rd l0 x18_2) < (rd l0 x12_1)
   ·rw [if_pos c8] at H
    have c8b0 : decide ((rd l0 x18_2) < (rd l0 x12_1)) = true := decide_eq_true c8
    clear c8
    have H' := Aside0.mk H
    clear H
    have p297 : 0 ≤ (x18_2 : Int) := of_decide_eq_true qgchg_2
    have q297 : x18_2 < (l0.length : Int) := of_decide_eq_true qgchg_2
    obtain ⟨ad297, e297, hx297_0⟩ := Kd.at_int HR0.out x18_2 p297 q297
    obtain rfl : ad293 = ad297 := (by injection e297)
    replace hx297_0 := (HB.out.cell (World.block_lt_of_cell? w _ hx297_0)).trans hx297_0
    replace p297 := eq_true p297
    replace q297 := eq_true q297
    go_wp2
    go_roundg k2
    case measure => have := HK1.out; have := HK2.out; omega
    case rel => exact ⟨(wrap64 (x6_2 + 1)), (x7_2), (wrap64 (x18_2 + 1)), qgchg_1, qgchg_1, qgchg_1, H', ⟨by have := HK1.out; have := HK2.out; omega⟩, ⟨qgchg_3⟩, ⟨qgchg_0⟩⟩
   rw [if_neg c8] at H
   have c8b0 : decide ((rd l0 x18_2) < (rd l0 x12_1)) = false := decide_eq_false c8
   clear c8
   by_cases c9 : (rd l0 x18_2) = (rd l0 x12_1)
   rotate_left
   ·rw [if_neg c9] at H
    have c9b0 : ((rd l0 x18_2) == (rd l0 x12_1)) = false := beq_eq_false_iff_ne.mpr c9
    have c9b1 : ((rd l0 x18_2) != (rd l0 x12_1)) = true := bne_iff_ne.mpr c9
    have H' := Aside0.mk H
    clear H
    have p297 : 0 ≤ (x18_2 : Int) := of_decide_eq_true qgchg_2
    have q297 : x18_2 < (l0.length : Int) := of_decide_eq_true qgchg_2
    obtain ⟨ad297, e297, hx297_0⟩ := Kd.at_int HR0.out x18_2 p297 q297
    obtain rfl : ad293 = ad297 := (by injection e297)
    replace hx297_0 := (HB.out.cell (World.block_lt_of_cell? w _ hx297_0)).trans hx297_0
    replace p297 := eq_true p297
    replace q297 := eq_true q297
    go_wp2
    go_roundg k2
    case measure => have := HK1.out; have := HK2.out; omega
    case rel => exact ⟨(x6_2), (x7_2), (wrap64 (x18_2 + 1)), qgchg_1, qgchg_1, qgchg_1, H', ⟨by have := HK1.out; have := HK2.out; omega⟩, ⟨qgchg_3⟩, ⟨qgchg_0⟩⟩
   rw [if_pos c9] at H
   have c9b0 : ((rd l0 x18_2) == (rd l0 x12_1)) = true := beq_iff_eq.mpr c9
   have c9b1 : ((rd l0 x18_2) != (rd l0 x12_1)) = false := bne_eq_false_iff_eq.mpr c9
   clear c9
   have H' := Aside0.mk H
   clear H
   have p297 : 0 ≤ (x18_2 : Int) := of_decide_eq_true qgchg_2
   have q297 : x18_2 < (l0.length : Int) := of_decide_eq_true qgchg_2
   obtain ⟨ad297, e297, hx297_0⟩ := Kd.at_int HR0.out x18_2 p297 q297
   obtain rfl : ad293 = ad297 := (by injection e297)
   replace hx297_0 := (HB.out.cell (World.block_lt_of_cell? w _ hx297_0)).trans hx297_0
   replace p297 := eq_true p297
   replace q297 := eq_true q297
   go_wp2
   go_roundg k2
   case measure => have := HK1.out; have := HK2.out; omega
   case rel => exact ⟨(x6_2), (wrap64 (x7_2 + 1)), (wrap64 (x18_2 + 1)), qgchg_1, qgchg_1, qgchg_1, H', ⟨by have := HK1.out; have := HK2.out; omega⟩, ⟨qgchg_3⟩, ⟨qgchg_0⟩⟩

/-! ### changepoint_abs: function 46 -/
def changepoint_abs.f (a0 : Int) : Option (Int) := some (mx a0 (wrap64 (-a0)))
set_option maxHeartbeats 8000000 in
set_option maxRecDepth 100000 in
theorem changepoint_abs.calls (a0 : Int) (r : Int) (w : World) (h : changepoint_abs.f a0 = some r) :
  Calls Try.prog 46 #[.int .i64 a0] w fun e w' => e = .returned (.int .i64 r) ∧ Below w.heap.size w w' := by
 have HB := Aside0.mk (Below.refl w.heap.size w)
 have H : (some (mx a0 (wrap64 (-a0)))) = some r := h
 clear h
 obtain ⟨ji2, hji2⟩ : ∃ j_ : Int, (mx a0 (wrap64 (-a0))) = j_ := ⟨_, rfl⟩
 replace H : (some ji2) = some r := by first | (rw [hji2] at H; exact H) | (simp only [hji2] at H ⊢; exact H)
 have hji2_ : (if a0 < (wrap64 (-a0)) then (wrap64 (-a0)) else a0) = ji2 := hji2
 obtain rfl := Option.some.inj H
 go_enter Try.func46, Try.ntmps46
 go_wp2
 go_ret
 exact ⟨by first | rfl | (simp [errW_none, errW_some] <;> rfl) | (simp only [← hji2]; first | rfl | (simp [errW_none, errW_some] <;> rfl)) | (simp [*, errW_none, errW_some] <;> rfl), qgchg_0⟩

/-! ### changepoint_Direction: function 30 -/
def changepoint_Direction.f (a0_0 : Int) (a0_1 : Int) (a0_2 : Int) : Option (Int) := (cmp_Compare_int.f a0_2 a0_1).bind fun t299 => (some t299)
set_option maxHeartbeats 8000000 in
set_option maxRecDepth 100000 in
theorem changepoint_Direction.calls (a0_0 : Int) (a0_1 : Int) (a0_2 : Int) (r : Int) (w : World) (h : changepoint_Direction.f a0_0 a0_1 a0_2 = some r) :
  Calls Try.prog 30 #[.agg #[.int .i64 a0_0, .int .i64 a0_1, .int .i64 a0_2]] w fun e w' => e = .returned (.int .i64 r) ∧ Below w.heap.size w w' := by
 have hu41 := Try.underlying41
 have HB := Aside0.mk (Below.refl w.heap.size w)
 have H : ((cmp_Compare_int.f a0_2 a0_1).bind fun t299 => (some t299)) = some r := h
 clear h
 replace H := Option.bind_eq_some_iff.mp H
 obtain ⟨t299, A20, H⟩ := H
 replace H : (some t299) = some r := H
 have A2 := Aside0.mk A20
 clear A20
 obtain rfl := Option.some.inj H
 go_enter Try.func30, Try.ntmps30
 go_wp2_with (first | ((with_reducible refine gate_dst (N := 1) rfl ?_); refine box_event ?hg (N := 1) ?hd (cs := #[.int .i64 a0_0, .int .i64 a0_1, .int .i64 a0_2]) (t := 41) ?hr ?_; (case hd => rfl); (case hg => rfl); (case hr => first | (go_simp; done) | (go_simp; rfl)); intro gb298 hg w3 hbox hb; have n0_ := Aside0.mk (below_step qgchg_0 hb); have n1_ := Aside0.mk (hbox); have n2_ := Aside0.mk ((by rw [hg]; exact (below_size qgchg_0) : w.heap.size ≤ gb298)); have n3_ := Aside0.mk ((by rw [hg]; exact (below_size qgchg_0) : w.heap.size ≤ gb298)); clear HB; have HB := n0_; have BK298 := n1_; have GW298 := n2_; have GE298 := n3_; clear n0_ n1_ n2_ n3_; clear hb hbox hg; have hcz4_0 : w3.cell? ⟨gb298, 0, none⟩ = some (.int .i64 a0_0) := (blk_cell BK298.out 0).trans rfl; have hcz4_1 : w3.cell? ⟨gb298, 1, none⟩ = some (.int .i64 a0_1) := (blk_cell BK298.out 1).trans rfl; have hcz4_2 : w3.cell? ⟨gb298, 2, none⟩ = some (.int .i64 a0_2) := (blk_cell BK298.out 2).trans rfl; have hfz4_0 := blk_frozen BK298.out 0; have hfz4_1 := blk_frozen BK298.out 1; have hfz4_2 := blk_frozen BK298.out 2) | ((with_reducible refine gate_callee (f := 53) rfl ?_); refine goesL_ (some 7) rfl rfl Try.func53 (by kernel_rfl) rfl #[.int .i64 a0_2, .int .i64 a0_1] rfl (by (try simp only [List.map_toArray, List.map_cons, List.map_nil]); first | done | rfl | (simp only [List.length_drop, List.length_take]; rfl)) ?_; (with_reducible refine (cmp_Compare_int.calls a0_2 a0_1 t299 _ A2.out).mono ?_); rintro e w' ⟨rfl, ⟨nd, rfl⟩⟩; refine ⟨_, rfl, ?_⟩))
 go_ret
 exact ⟨by first | rfl | (simp [errW_none, errW_some] <;> rfl) | (simp [*, errW_none, errW_some] <;> rfl), by repeat (first | (with_reducible first | exact HB.out | apply below_alloc | apply pw_below_drewN | apply below_drew1 | refine below_set ?_ GE298.out) | exact HB.out)⟩

/-! ### cmp_Or_int: function 69 -/
def cmp_Or_int.l0 : Nat → Int → List Int → Int → Int → Option (Int)
 | 0, _, _, _, _ => none
 | k + 1, x3, x6, x7, x8 => if x8 < x7 then (if 0 ≤ x8 then (if x8 < (x6.length : Int) then (if (rd x6 x8) = x3 then (cmp_Or_int.l0 k x3 x6 x7 (wrap64 (x8 + 1))) else (some (rd x6 x8))) else (none)) else (none)) else (some x3)
def cmp_Or_int.f (k : Nat) (l0 : List Int) : Option (Int) := cmp_Or_int.l0 k 0 l0 (l0.length : Int) 0
theorem cmp_Or_int.mono_l : ∀ k, (∀ y0 y1 y2 y3, LeO (cmp_Or_int.l0 k y0 y1 y2 y3) (cmp_Or_int.l0 (k + 1) y0 y1 y2 y3))
 | 0 => fun _ _ _ _ r h => by simp [cmp_Or_int.l0] at h
 | k + 1 => by
  have ih0 := cmp_Or_int.mono_l k
  ·intro y0 y1 y2 y3
   unfold cmp_Or_int.l0
   repeat' first
   | (with_reducible exact ih0 _ _ _ _)
   | (with_reducible exact LeO.refl _)
   | (with_reducible exact LeO.none _)
   | (with_reducible refine LeO.ite ?_ ?_)
   | (with_reducible refine LeO.bind ?_ (fun _ => ?_))
   | exact ih0 _ _ _ _
   | exact LeO.none _
   | refine LeO.ite ?_ ?_
   | refine LeO.bind ?_ (fun _ => ?_)
theorem cmp_Or_int.mono : ∀ a0 k, LeO (cmp_Or_int.f k a0) (cmp_Or_int.f (k + 1) a0) := by
 intro a0 k
 have ih0 := cmp_Or_int.mono_l k
 unfold cmp_Or_int.f
 repeat' first
   | (with_reducible exact ih0 _ _ _ _)
   | (with_reducible exact LeO.refl _)
   | (with_reducible exact LeO.none _)
   | (with_reducible refine LeO.ite ?_ ?_)
   | (with_reducible refine LeO.bind ?_ (fun _ => ?_))
   | exact ih0 _ _ _ _
   | exact LeO.none _
   | refine LeO.ite ?_ ?_
   | refine LeO.bind ?_ (fun _ => ?_)
set_option maxHeartbeats 8000000 in
set_option maxRecDepth 100000 in
theorem cmp_Or_int.calls (k : Nat) (A0 : Option Addr) (c0 : Nat) (l0 : List Int) (r : Int) (w : World) (hr0 : Kd.C (Kd.int .i64) w A0 l0.length l0) (hc0 : l0.length ≤ c0) (h : cmp_Or_int.f k l0 = some r) :
  Calls Try.prog 69 #[.slice A0 l0.length c0] w fun e w' => e = .returned (.int .i64 r) ∧ Drawn0 w w' := by
 have HR0 := Aside0.mk hr0
 have HC0 := Aside0.mk hc0
 clear hr0 hc0
 have H : (cmp_Or_int.l0 k 0 l0 (l0.length : Int) 0) = some r := h
 clear h
 have H' := Aside0.mk H
 clear H
 go_enter Try.func69, Try.ntmps69
 go_wp2
 go_loopg [8] k (fun kq v8 w' => ∃ (x8_1 : Int), v8 = .int .i64 x8_1 ∧ Aside0 (cmp_Or_int.l0 kq 0 l0 (l0.length : Int) x8_1 = some r) ∧ Aside0 (kq ≤ k) ∧ Drawn0 w w')
 case atStart => exact ⟨(0), qgchg_1, H', ⟨Nat.le_refl _⟩, qgchg_4⟩
 clear H'
 obtain ⟨x8_1, rfl, HA, HK1, ⟨m1, rfl⟩⟩ := hrel
 cases gk with
 | zero => exact absurd HA.out (by simp [cmp_Or_int.l0])
 | succ k1 =>
  have H := HA.out
  clear HA
  simp only [cmp_Or_int.l0] at H
  by_cases c2 : x8_1 < (l0.length : Int)
  rotate_left
  ·rw [if_neg c2] at H
   have c2b0 : decide (x8_1 < (l0.length : Int)) = false := decide_eq_false c2
   clear c2
   obtain rfl := Option.some.inj H
   go_wp2
   go_ret
   exact ⟨qgchg_1, qgchg_4⟩
  rw [if_pos c2] at H
  have c2b0 : decide (x8_1 < (l0.length : Int)) = true := decide_eq_true c2
  clear c2
  by_cases c3 : 0 ≤ x8_1
  rotate_left
  ·rw [if_neg c3] at H
   exact absurd H (by simp)
  rw [if_pos c3] at H
  have c3b0 : decide (0 ≤ x8_1) = true := decide_eq_true c3
  clear c3
  by_cases c4 : x8_1 < (l0.length : Int)
  rotate_left
  ·rw [if_neg c4] at H
   exact absurd H (by simp)
  rw [if_pos c4] at H
  have c4b0 : decide (x8_1 < (l0.length : Int)) = true := decide_eq_true c4
  clear c4
  by_cases c5 : (rd l0 x8_1) = 0
  rotate_left
  ·rw [if_neg c5] at H
   have c5b0 : ((rd l0 x8_1) == 0) = false := beq_eq_false_iff_ne.mpr c5
   have c5b1 : ((rd l0 x8_1) != 0) = true := bne_iff_ne.mpr c5
   obtain rfl := Option.some.inj H
   have p300 : 0 ≤ (x8_1 : Int) := of_decide_eq_true qgchg_2
   have q300 : x8_1 < (l0.length : Int) := of_decide_eq_true qgchg_2
   obtain ⟨ad300, e300, hx300_0⟩ := Kd.at_int HR0.out x8_1 p300 q300
   cases e300
   replace p300 := eq_true p300
   replace q300 := eq_true q300
   go_wp2
   go_ret
   exact ⟨qgchg_1, qgchg_4⟩
  rw [if_pos c5] at H
  have c5b0 : ((rd l0 x8_1) == 0) = true := beq_iff_eq.mpr c5
  have c5b1 : ((rd l0 x8_1) != 0) = false := bne_eq_false_iff_eq.mpr c5
  clear c5
  have H' := Aside0.mk H
  clear H
  have p300 : 0 ≤ (x8_1 : Int) := of_decide_eq_true qgchg_2
  have q300 : x8_1 < (l0.length : Int) := of_decide_eq_true qgchg_2
  obtain ⟨ad300, e300, hx300_0⟩ := Kd.at_int HR0.out x8_1 p300 q300
  cases e300
  replace p300 := eq_true p300
  replace q300 := eq_true q300
  go_wp2
  go_roundg k1
  case measure => have := HK1.out; omega
  case rel => exact ⟨(wrap64 (x8_1 + 1)), qgchg_1, H', ⟨by have := HK1.out; omega⟩, qgchg_4⟩

end Go.Proofs.Ytcjgmofgfblmnaa.Q
