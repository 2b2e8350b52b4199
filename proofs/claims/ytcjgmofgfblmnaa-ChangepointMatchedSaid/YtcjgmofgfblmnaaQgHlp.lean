-- Laid by myprint.py (a program of this session's, over the kit's printer and with functions proved by hand)
import Derived.Test.YtcjgmofgfblmnaaTy
import Derived.Test.YtcjgmofgfblmnaaPw
namespace Go.Proofs.Ytcjgmofgfblmnaa.Q
open Go.RowKit Go.Proofs.YtcjgmofgfblmnaaW.PrintWords Go.Proofs.YtcjgmofgfblmnaaW.PrintLast Go.Proofs.YtcjgmofgfblmnaaW.PrintMore
attribute [local go_sem] max2_int min2_int max_two min_two max_three min_three max_four min_four   -- for this text's walks alone
set_option linter.unusedVariables false
set_option linter.unusedSimpArgs false

attribute [local go_sem high] eqA58
abbrev T3337 : Bool := true
abbrev F3337 : Bool := false
abbrev A3337_0 : Array Bool := #[F3337, F3337, F3337, F3337, F3337, F3337, F3337, F3337, F3337, F3337, F3337, F3337, F3337, F3337, F3337, F3337, F3337, F3337]
abbrev A3337_1 : Array Bool := #[T3337, F3337, F3337, F3337, F3337, F3337, F3337, F3337, F3337, F3337, F3337, F3337, F3337, F3337, F3337, F3337, F3337, F3337]
abbrev A3337_2 : Array Bool := #[T3337, T3337, F3337, F3337, F3337, F3337, F3337, F3337, F3337, F3337, F3337, F3337, F3337, F3337, F3337, F3337, F3337, F3337]
abbrev A3337_3 : Array Bool := #[T3337, T3337, T3337, F3337, F3337, F3337, F3337, F3337, F3337, F3337, F3337, F3337, F3337, F3337, F3337, F3337, F3337, F3337]
abbrev A3337_4 : Array Bool := #[T3337, T3337, T3337, T3337, F3337, F3337, F3337, F3337, F3337, F3337, F3337, F3337, F3337, F3337, F3337, F3337, F3337, F3337]
abbrev A3337_5 : Array Bool := #[T3337, T3337, T3337, T3337, T3337, F3337, F3337, F3337, F3337, F3337, F3337, F3337, F3337, F3337, F3337, F3337, F3337, F3337]
abbrev A3337_6 : Array Bool := #[T3337, T3337, T3337, T3337, T3337, T3337, F3337, F3337, F3337, F3337, F3337, F3337, F3337, F3337, F3337, F3337, F3337, F3337]
abbrev A3337_7 : Array Bool := #[T3337, T3337, T3337, T3337, T3337, T3337, F3337, F3337, T3337, F3337, F3337, F3337, F3337, F3337, F3337, F3337, F3337, F3337]
abbrev A3337_8 : Array Bool := #[T3337, T3337, T3337, T3337, T3337, T3337, F3337, F3337, T3337, T3337, F3337, F3337, F3337, F3337, F3337, F3337, F3337, F3337]
abbrev A3337_9 : Array Bool := #[T3337, T3337, T3337, T3337, T3337, T3337, F3337, F3337, T3337, T3337, T3337, F3337, F3337, F3337, F3337, F3337, F3337, F3337]
abbrev A3337_10 : Array Bool := #[T3337, T3337, T3337, T3337, T3337, T3337, F3337, F3337, T3337, T3337, T3337, T3337, F3337, F3337, F3337, F3337, F3337, F3337]
abbrev A3337_11 : Array Bool := #[T3337, T3337, T3337, T3337, T3337, T3337, T3337, F3337, T3337, T3337, T3337, T3337, F3337, F3337, F3337, F3337, F3337, F3337]
abbrev A3337_12 : Array Bool := #[T3337, T3337, T3337, T3337, T3337, T3337, T3337, T3337, T3337, T3337, T3337, T3337, F3337, F3337, F3337, F3337, F3337, F3337]
abbrev A3337_13 : Array Bool := #[T3337, T3337, T3337, T3337, T3337, T3337, T3337, T3337, T3337, T3337, T3337, T3337, T3337, F3337, F3337, F3337, F3337, F3337]
abbrev A3337_14 : Array Bool := #[T3337, T3337, T3337, T3337, T3337, T3337, T3337, T3337, T3337, T3337, T3337, T3337, T3337, T3337, F3337, F3337, F3337, F3337]
abbrev A3337_15 : Array Bool := #[T3337, T3337, T3337, T3337, T3337, T3337, T3337, T3337, T3337, T3337, T3337, T3337, T3337, T3337, T3337, F3337, F3337, F3337]
abbrev A3337_16 : Array Bool := #[T3337, T3337, T3337, T3337, T3337, T3337, T3337, T3337, T3337, T3337, T3337, T3337, T3337, T3337, T3337, T3337, F3337, F3337]
abbrev A3337_17 : Array Bool := #[T3337, T3337, T3337, T3337, T3337, T3337, T3337, T3337, T3337, T3337, T3337, T3337, T3337, T3337, T3337, T3337, T3337, F3337]
abbrev A3337_18 : Array Bool := #[T3337, T3337, T3337, T3337, T3337, T3337, T3337, T3337, T3337, T3337, T3337, T3337, T3337, T3337, T3337, T3337, T3337, T3337]
theorem qghlp_0 {p : Prop} (h : p := by repeat (first | (with_reducible first | exact HB.out | apply below_alloc | apply pw_below_drewN | apply below_drew1) | exact HB.out)) : p := h
theorem qghlp_1 {p : Prop} (h : p := by first | (with_reducible assumption) | assumption) : p := h
theorem qghlp_2 {p : Prop} (h : p := by first | rfl | (simp [errW_none, errW_some] <;> rfl) | (simp [*, errW_none, errW_some] <;> rfl)) : p := h
theorem qghlp_3 {p : Prop} (h : p := by repeat (first | exact (Kd.C_below HR0.out HB.out) | (with_reducible refine Kd.C_alloc ?_ _) | (with_reducible refine Kd.C_drewN ?_ _) | (with_reducible refine Kd.C_drew ?_))) : p := h
theorem qghlp_4 {p : Prop} (h : p := by repeat (first | exact (Kd.C_below HR1.out HB.out) | (with_reducible refine Kd.C_alloc ?_ _) | (with_reducible refine Kd.C_drewN ?_ _) | (with_reducible refine Kd.C_drew ?_))) : p := h
theorem qghlp_5 {p : Prop} (h : p := by repeat (first | exact (Kd.C_below HR3.out HB.out) | (with_reducible refine Kd.C_alloc ?_ _) | (with_reducible refine Kd.C_drewN ?_ _) | (with_reducible refine Kd.C_drew ?_))) : p := h
theorem qghlp_6 {p : Prop} (h : p := by repeat (first | exact HR0.out | (with_reducible refine Kd.C_alloc ?_ _) | (with_reducible refine Kd.C_drewN ?_ _) | (with_reducible refine Kd.C_drew ?_))) : p := h
theorem qghlp_7 {p : Prop} (h : p := by repeat (first | exact HR1.out | (with_reducible refine Kd.C_alloc ?_ _) | (with_reducible refine Kd.C_drewN ?_ _) | (with_reducible refine Kd.C_drew ?_))) : p := h
theorem qghlp_8 {p : Prop} (h : p := by repeat (first | exact HR2.out | (with_reducible refine Kd.C_alloc ?_ _) | (with_reducible refine Kd.C_drewN ?_ _) | (with_reducible refine Kd.C_drew ?_))) : p := h
theorem qghlp_9 {p : Prop} (h : p := by repeat (first | (with_reducible first | exact HB.out | apply below_alloc | apply pw_below_drewN | apply below_drew1 | refine below_set ?_ GE472.out) | exact HB.out)) : p := h
theorem qghlp_10 {p : Prop} (h : p := by first | rfl | (simp; done) | (simp [*]; done)) : p := h
theorem qghlp_11 {p : Prop} (h : p := by (with_reducible repeat (first | apply Kd.R_alloc | apply Kd.R_drewN | apply Kd.R_drew)); exact HO_3.out) : p := h
/-! ### sleuthlaw45_changes: function 22 -/
def sleuthlaw45_changes.l0 : Nat → List (S92) → List (S41) → Int → Int → Option ((List (S41)))
 | 0, _, _, _, _ => none
 | k + 1, x0, x3, x4, x5 => if x5 < (x0.length : Int) then (if x5 < 6 then (if 0 ≤ x5 then (if x3.length < 5864062014805 then (sleuthlaw45_changes.l0 k x0 (x3 ++ [(⟨wrap64 ((wrap64 (x4 + 1)) + (Int.tmod (mx (wrap64 ((rd_T92 x0 x5).f0)) (wrap64 (-(wrap64 ((rd_T92 x0 x5).f0))))) 16)), wrap64 ((rd_T92 x0 x5).f1), wrap64 ((rd_T92 x0 x5).f2)⟩ : S41)]) (wrap64 ((wrap64 (x4 + 1)) + (Int.tmod (mx (wrap64 ((rd_T92 x0 x5).f0)) (wrap64 (-(wrap64 ((rd_T92 x0 x5).f0))))) 16))) (wrap64 (x5 + 1))) else (none)) else (none)) else (some x3)) else (some x3)
def sleuthlaw45_changes.f (k : Nat) (l0 : List (S92)) : Option ((List (S41))) := sleuthlaw45_changes.l0 k l0 ([] : List (S41)) 0 0
theorem sleuthlaw45_changes.mono_l : ∀ k, (∀ y0 y1 y2 y3, LeO (sleuthlaw45_changes.l0 k y0 y1 y2 y3) (sleuthlaw45_changes.l0 (k + 1) y0 y1 y2 y3))
 | 0 => fun _ _ _ _ r h => by simp [sleuthlaw45_changes.l0] at h
 | k + 1 => by
  have ih0 := sleuthlaw45_changes.mono_l k
  ·intro y0 y1 y2 y3
   unfold sleuthlaw45_changes.l0
   repeat' first
   | (with_reducible exact ih0 _ _ _ _)
   | (with_reducible exact LeO.refl _)
   | (with_reducible exact LeO.none _)
   | (with_reducible refine LeO.ite ?_ ?_)
   | (with_reducible refine LeO.bind ?_ (fun _ => ?_))
   | exact ih0 _ _ _ _
   | exact LeO.none _
   | refine LeO.ite ?_ ?_
   | refine LeO.bind ?_ (fun _ => ?_)
theorem sleuthlaw45_changes.mono : ∀ a0 k, LeO (sleuthlaw45_changes.f k a0) (sleuthlaw45_changes.f (k + 1) a0) := by
 intro a0 k
 have ih0 := sleuthlaw45_changes.mono_l k
 unfold sleuthlaw45_changes.f
 repeat' first
   | (with_reducible exact ih0 _ _ _ _)
   | (with_reducible exact LeO.refl _)
   | (with_reducible exact LeO.none _)
   | (with_reducible refine LeO.ite ?_ ?_)
   | (with_reducible refine LeO.bind ?_ (fun _ => ?_))
   | exact ih0 _ _ _ _
   | exact LeO.none _
   | refine LeO.ite ?_ ?_
   | refine LeO.bind ?_ (fun _ => ?_)
def sleuthlaw45_changes.T8 : Bool × List (List Nat × List Nat) := (true, [([], []), ([], []), ([], []), ([], []), ([2, 3], [2, 3]), ([4], [4]), ([5], [5]), ([6], [6]), ([], []), ([], []), ([8, 9], [8, 9]), ([10], [10]), ([11], [11]), ([12], [12]), ([1, 7, 13], [1, 7, 13]), ([14], [14]), ([0, 15], [0, 15]), ([16, 16, 0, 1, 2, 3, 4, 5, 6, 7, 8, 9, 10, 11, 12, 13, 14, 15, 16], [0, 16])])
def sleuthlaw45_changes.B8 : List Nat := [0, 0, 0, 0, 12, 28, 60, 124, 0, 0, 768, 1792, 3840, 7936, 16382, 32766, 65535, 131071]
theorem sleuthlaw45_changes.tab8 : rtab .any (opsOf Try.f22 8) = sleuthlaw45_changes.T8 := by kernel_rfl
theorem sleuthlaw45_changes.bits8 : waitsOk sleuthlaw45_changes.T8.2 sleuthlaw45_changes.B8 = true := by kernel_rfl
set_option maxHeartbeats 8000000 in
set_option maxRecDepth 100000 in
theorem sleuthlaw45_changes.calls (k : Nat) (A0 : Option Addr) (c0 : Nat) (l0 : List (S92)) (r : List (S41)) (w : World) (hr0 : Kd.C k92 w A0 l0.length l0) (hc0 : l0.length ≤ c0) (h : sleuthlaw45_changes.f k l0 = some r) :
  Calls Try.prog 22 #[.slice A0 l0.length c0] w fun e w' => ∃ v0_ : Value, e = .returned (v0_) ∧ Kd.R k41 41 w' w.heap.size (fun _ => True) v0_ r ∧ Below w.heap.size w w' := by
 have hu41 := Try.underlying41
 have HR0 := Aside0.mk hr0
 have HC0 := Aside0.mk hc0
 clear hr0 hc0
 have HB := Aside0.mk (Below.refl w.heap.size w)
 have H : (sleuthlaw45_changes.l0 k l0 ([] : List (S41)) 0 0) = some r := h
 clear h
 have H' := Aside0.mk H
 clear H
 go_enter Try.func22, Try.ntmps22
 go_wp2
 go_loopg [3, 4, 5] k (fun kq v3 v4 v5 w' => ∃ (x3_1 : List (S41)) (x4_1 : Int) (x5_1 : Int), v4 = .int .i64 x4_1 ∧ v5 = .int .i64 x5_1 ∧ Aside0 (sleuthlaw45_changes.l0 kq l0 x3_1 x4_1 x5_1 = some r) ∧ Aside0 (kq ≤ k) ∧ Aside0 (Kd.R k41 41 w' w.heap.size (fun _ => True) v3 x3_1) ∧ Aside0 (Below w.heap.size w w'))
 case atStart => exact ⟨(([] : List (S41))), (0), (0), qghlp_10, qghlp_10, H', ⟨Nat.le_refl _⟩, ⟨by first | exact Kd.R_nil _ _ _ _ _ | exact Kd.N_nil _ _ _ _ _ | exact Kd.V_nil _ _ _ _ _ | exact Kd.Q_nil _ _ _ _ _ | exact Kd.S_nil _ _ _ _ _⟩, ⟨qghlp_0⟩⟩
 clear H'
 obtain ⟨x3_1, x4_1, x5_1, rfl, rfl, HA, HK1, HO_3, HB⟩ := hrel
 cases gk with
 | zero => exact absurd HA.out (by simp [sleuthlaw45_changes.l0])
 | succ k1 =>
  have H := HA.out
  clear HA
  simp only [sleuthlaw45_changes.l0] at H
  by_cases c2 : x5_1 < (l0.length : Int)
  rotate_left
  ·rw [if_neg c2] at H
   have c2b0 : decide (x5_1 < (l0.length : Int)) = false := decide_eq_false c2
   clear c2
   obtain rfl := Option.some.inj H
   go_wp2
   go_ret
   exact ⟨_, qghlp_2, qghlp_11, qghlp_0⟩
  rw [if_pos c2] at H
  have c2b0 : decide (x5_1 < (l0.length : Int)) = true := decide_eq_true c2
  clear c2
  by_cases c3 : x5_1 < 6
  rotate_left
  ·rw [if_neg c3] at H
   have c3b0 : decide (x5_1 < 6) = false := decide_eq_false c3
   clear c3
   obtain rfl := Option.some.inj H
   go_wp2
   go_ret
   exact ⟨_, qghlp_2, qghlp_11, qghlp_0⟩
  rw [if_pos c3] at H
  have c3b0 : decide (x5_1 < 6) = true := decide_eq_true c3
  clear c3
  by_cases c4 : 0 ≤ x5_1
  rotate_left
  ·rw [if_neg c4] at H
   exact absurd H (by simp)
  rw [if_pos c4] at H
  have c4b0 : decide (0 ≤ x5_1) = true := decide_eq_true c4
  clear c4
  obtain ⟨ji5, hji5⟩ : ∃ j_ : Int, (mx (wrap64 ((rd_T92 l0 x5_1).f0)) (wrap64 (-(wrap64 ((rd_T92 l0 x5_1).f0))))) = j_ := ⟨_, rfl⟩
  replace H : (if x3_1.length < 5864062014805 then (sleuthlaw45_changes.l0 k1 l0 (x3_1 ++ [(⟨wrap64 ((wrap64 (x4_1 + 1)) + (Int.tmod (ji5) 16)), wrap64 ((rd_T92 l0 x5_1).f1), wrap64 ((rd_T92 l0 x5_1).f2)⟩ : S41)]) (wrap64 ((wrap64 (x4_1 + 1)) + (Int.tmod (ji5) 16))) (wrap64 (x5_1 + 1))) else (none)) = some r := by first | (rw [hji5] at H; exact H) | (simp only [hji5] at H ⊢; exact H)
  have hji5_ : (if (wrap64 ((rd_T92 l0 x5_1).f0)) < (wrap64 (-(wrap64 ((rd_T92 l0 x5_1).f0)))) then (wrap64 (-(wrap64 ((rd_T92 l0 x5_1).f0)))) else (wrap64 ((rd_T92 l0 x5_1).f0))) = ji5 := hji5
  by_cases c6 : x3_1.length < 5864062014805
  rotate_left
  ·rw [if_neg c6] at H
   exact absurd H (by simp)
  rw [if_pos c6] at H
  have LMc6 := Aside0.mk c6
  clear c6
  obtain ⟨y469, hy469⟩ : ∃ y_ : List (S41), y_ = (x3_1 ++ [(⟨wrap64 ((wrap64 (x4_1 + 1)) + (Int.tmod (ji5) 16)), wrap64 ((rd_T92 l0 x5_1).f1), wrap64 ((rd_T92 l0 x5_1).f2)⟩ : S41)]) := ⟨_, rfl⟩
  replace H : (sleuthlaw45_changes.l0 k1 l0 y469 (wrap64 ((wrap64 (x4_1 + 1)) + (Int.tmod (ji5) 16))) (wrap64 (x5_1 + 1))) = some r := by first | (rw [hy469]; with_reducible exact H) | (have H2_ := (Option.bind_some _ _).symm.trans H; rw [hy469]; with_reducible exact H2_) | (have H2_ := (Option.bind_some _ _).symm.trans H; with_reducible exact H2_) | with_reducible exact H | (rw [hy469]; exact H) | exact H
  have Ny469 := Aside0.mk hy469
  clear hy469
  have H' := Aside0.mk H
  clear H
  have p466 : 0 ≤ (x5_1 : Int) := of_decide_eq_true qghlp_1
  have q466 : x5_1 < (l0.length : Int) := of_decide_eq_true qghlp_1
  obtain ⟨ad466, e466, hx466_0, hx466_1, hx466_2⟩ := at_T92 HR0.out x5_1 p466 q466
  cases e466
  replace hx466_0 := (HB.out.cell (World.block_lt_of_cell? w _ hx466_0)).trans hx466_0
  replace hx466_1 := (HB.out.cell (World.block_lt_of_cell? w _ hx466_1)).trans hx466_1
  replace hx466_2 := (HB.out.cell (World.block_lt_of_cell? w _ hx466_2)).trans hx466_2
  replace p466 := eq_true p466
  replace q466 := eq_true q466
  try go_wp2
  have n0_ := Aside0.mk (Kd.R_drew HO_3.out)
  have n1_ := Aside0.mk (below_drew1 HB.out)
  clear HO_3
  clear HB
  have HO_3 := n0_
  have HB := n1_
  clear n0_ n1_
  have p467 : 0 ≤ (x5_1 : Int) := of_decide_eq_true qghlp_1
  have q467 : x5_1 < (l0.length : Int) := of_decide_eq_true qghlp_1
  obtain ⟨ad467, e467, hx467_0, hx467_1, hx467_2⟩ := at_T92 HR0.out x5_1 p467 q467
  have hw467_2 := hx467_2
  have hw467_1 := hx467_1
  have hw467_0 := hx467_0
  obtain rfl : ad466 = ad467 := (by injection e467)
  replace hx467_0 := (HB.out.cell (World.block_lt_of_cell? w _ hx467_0)).trans hx467_0
  replace hx467_1 := (HB.out.cell (World.block_lt_of_cell? w _ hx467_1)).trans hx467_1
  replace hx467_2 := (HB.out.cell (World.block_lt_of_cell? w _ hx467_2)).trans hx467_2
  replace p467 := eq_true p467
  replace q467 := eq_true q467
  have p468 : 0 ≤ (x5_1 : Int) := of_decide_eq_true qghlp_1
  have q468 : x5_1 < (l0.length : Int) := of_decide_eq_true qghlp_1
  obtain ⟨ad468, e468, hx468_0, hx468_1, hx468_2⟩ := at_T92 HR0.out x5_1 p468 q468
  have hw468_2 := hx468_2
  have hw468_1 := hx468_1
  have hw468_0 := hx468_0
  obtain rfl : ad466 = ad468 := (by injection e468)
  replace hx468_0 := (HB.out.cell (World.block_lt_of_cell? w _ hx468_0)).trans hx468_0
  replace hx468_1 := (HB.out.cell (World.block_lt_of_cell? w _ hx468_1)).trans hx468_1
  replace hx468_2 := (HB.out.cell (World.block_lt_of_cell? w _ hx468_2)).trans hx468_2
  replace p468 := eq_true p468
  replace q468 := eq_true q468
  refine start_ (n := 18) (S := fun w' => w'.cell? (ad466.add ((x5_1).toNat * 3)) = some (.int .i8 ((rd_T92 l0 x5_1).f0)) ∧ w'.cell? ⟨(ad466.add ((x5_1).toNat * 3)).block, (ad466.add ((x5_1).toNat * 3)).off + 1, none⟩ = some (.int .i8 ((rd_T92 l0 x5_1).f1)) ∧ w'.cell? ⟨(ad466.add ((x5_1).toNat * 3)).block, (ad466.add ((x5_1).toNat * 3)).off + 2, none⟩ = some (.int .i8 ((rd_T92 l0 x5_1).f2)) ∧ w'.cell? (ad466.add ((x5_1).toNat * 3)) = some (.int .i8 ((rd_T92 l0 x5_1).f0)) ∧ w'.cell? ⟨(ad466.add ((x5_1).toNat * 3)).block, (ad466.add ((x5_1).toNat * 3)).off + 1, none⟩ = some (.int .i8 ((rd_T92 l0 x5_1).f1)) ∧ w'.cell? ⟨(ad466.add ((x5_1).toNat * 3)).block, (ad466.add ((x5_1).toNat * 3)).off + 2, none⟩ = some (.int .i8 ((rd_T92 l0 x5_1).f2))) (ds := []) A3337_0 (by kernel_rfl) rfl rfl ⟨((HB.out.cell (World.block_lt_of_cell? w _ hw467_0)).trans hw467_0), ((HB.out.cell (World.block_lt_of_cell? w _ hw467_1)).trans hw467_1), ((HB.out.cell (World.block_lt_of_cell? w _ hw467_2)).trans hw467_2), ((HB.out.cell (World.block_lt_of_cell? w _ hw468_0)).trans hw468_0), ((HB.out.cell (World.block_lt_of_cell? w _ hw468_1)).trans hw468_1), ((HB.out.cell (World.block_lt_of_cell? w _ hw468_2)).trans hw468_2)⟩ (fun hHeld => ?_); refine with_tabW sleuthlaw45_changes.tab8 sleuthlaw45_changes.bits8 (fun HT_ HW_ => ?_)
  generalize wr.drew = w7 at HO_3 HB hx467_0 hx467_1 hx467_2 hx468_0 hx468_1 hx468_2 hHeld ⊢
  refine pA_ 0 31 A3337_1 HT_ ?_
  refine pA_ 1 32 A3337_2 HT_ ?_
  refine pA_ 2 33 A3337_3 HT_ ?_
  refine pA_ 3 34 A3337_4 HT_ ?_
  refine pA_ 4 35 A3337_5 HT_ ?_
  refine pA_ 5 36 A3337_6 HT_ ?_
  refine pA_ 8 39 A3337_7 HT_ ?_
  refine pA_ 9 40 A3337_8 HT_ ?_
  refine pA_ 10 41 A3337_9 HT_ ?_
  refine pA_ 11 42 A3337_10 HT_ ?_
  refine take_ (i := 6) (N := some 37) (v := ?_) (a' := ?_) A3337_11 rfl rfl (take_ofW HT_.out HW_.out (by kernel_rfl)) (fun _ _ _ h => h) (Or.inl ⟨by rfl, ?_⟩) hHeld ?_ ?_
  rotate_left
  ·rintro w' ⟨s0, s1, s2, s3, s4, s5⟩
   go_simp
   with_reducible rfl
  rotate_left
  ·simp only [Act.put, List.setIfInBounds_toArray, List.set_cons_zero, List.set_cons_succ, i64_w, i32_w]
   rfl
  refine pA_ 7 38 A3337_12 HT_ ?_
  refine take_ (i := 12) (N := some 43) (v := ?_) (a' := ?_) A3337_13 rfl rfl (take_ofW HT_.out HW_.out (by kernel_rfl)) (fun _ _ _ h => h) (Or.inl ⟨by rfl, ?_⟩) hHeld ?_ ?_
  rotate_left
  ·rintro w' ⟨s0, s1, s2, s3, s4, s5⟩
   go_simp
   with_reducible rfl
  rotate_left
  ·simp only [Act.put, List.setIfInBounds_toArray, List.set_cons_zero, List.set_cons_succ, i64_w, i32_w]
   rfl
  refine pA_ 13 44 A3337_14 HT_ ?_
  refine pA_ 14 45 A3337_15 HT_ ?_
  refine one_ (i := 15) (N := some 46) A3337_16 rfl rfl (one_of HT_.out (by kernel_rfl)) (by decide) (fun K hK => ?_)
  refine value_ (w1 := ?_) (v := ?_) (by rfl) rfl ?_ ?_
  rotate_left 2
  ·go_simp
   constructor
   ·rfl
   ·rfl
  refine hK.out _ _ ⟨(World.cell?_alloc_lt _ _ _ (World.block_lt_of_cell? _ _ (((HB.out.cell (World.block_lt_of_cell? w _ hw467_0)).trans hw467_0)))).trans (((HB.out.cell (World.block_lt_of_cell? w _ hw467_0)).trans hw467_0)), (World.cell?_alloc_lt _ _ _ (World.block_lt_of_cell? _ _ (((HB.out.cell (World.block_lt_of_cell? w _ hw467_1)).trans hw467_1)))).trans (((HB.out.cell (World.block_lt_of_cell? w _ hw467_1)).trans hw467_1)), (World.cell?_alloc_lt _ _ _ (World.block_lt_of_cell? _ _ (((HB.out.cell (World.block_lt_of_cell? w _ hw467_2)).trans hw467_2)))).trans (((HB.out.cell (World.block_lt_of_cell? w _ hw467_2)).trans hw467_2)), (World.cell?_alloc_lt _ _ _ (World.block_lt_of_cell? _ _ (((HB.out.cell (World.block_lt_of_cell? w _ hw468_0)).trans hw468_0)))).trans (((HB.out.cell (World.block_lt_of_cell? w _ hw468_0)).trans hw468_0)), (World.cell?_alloc_lt _ _ _ (World.block_lt_of_cell? _ _ (((HB.out.cell (World.block_lt_of_cell? w _ hw468_1)).trans hw468_1)))).trans (((HB.out.cell (World.block_lt_of_cell? w _ hw468_1)).trans hw468_1)), (World.cell?_alloc_lt _ _ _ (World.block_lt_of_cell? _ _ (((HB.out.cell (World.block_lt_of_cell? w _ hw468_2)).trans hw468_2)))).trans (((HB.out.cell (World.block_lt_of_cell? w _ hw468_2)).trans hw468_2))⟩ (fun hHeld => ?_)
  clear hK K
  refine norm_ (a' := ?_) ?_ ?_
  rotate_left
  ·show Act.put _ (some 46) _ = _
   simp only [Act.put, List.setIfInBounds_toArray, List.set_cons_zero, List.set_cons_succ, i64_w, i32_w]
   rfl
  refine one_ (i := 16) (N := some 47) A3337_17 rfl rfl (one_of HT_.out (by kernel_rfl)) (by decide) (fun K hK => ?_)
  refine Kd.R_append_step k41 (w0 := w) w.heap.size (by rfl) (.tmp 31) (.tmp 46) 30 41 (.agg #[(.int .i64 0), (.int .i64 0), (.int .i64 0)]) 24 rfl Try.underlying30 info41 rfl (by decide) (by omega) u3 x3_1 (⟨wrap64 ((wrap64 (x4_1 + 1)) + (Int.tmod (ji5) 16)), wrap64 ((rd_T92 l0 x5_1).f1), wrap64 ((rd_T92 l0 x5_1).f2)⟩ : S41) [.int .i64 (wrap64 ((wrap64 (x4_1 + 1)) + (Int.tmod (ji5) 16))), .int .i64 (wrap64 ((rd_T92 l0 x5_1).f1)), .int .i64 (wrap64 ((rd_T92 l0 x5_1).f2))] (fun _ => True) (fun _ => False) rfl rfl ?aP (fun _ hk => hk.elim) ?aF ?aO ?aB ?aS ?aL ?_
  (case aP => exact k41_mkM _ _ _ (⟨wrap64 ((wrap64 (x4_1 + 1)) + (Int.tmod (ji5) 16)), wrap64 ((rd_T92 l0 x5_1).f1), wrap64 ((rd_T92 l0 x5_1).f2)⟩ : S41))
  (case aB => exact qghlp_0)
  (case aF => exact (fun _ _ => trivial))
  (case aO => exact qghlp_11)
  (case aS => exact (below_size qghlp_0))
  (case aL => have := LMc6.out; omega)
  intro v470 w8 ho hb hg hat
  rw [← Ny469.out] at ho
  have n0_ := Aside0.mk (hb)
  have n1_ := Aside0.mk (ho)
  clear HB
  clear HO_3
  have HB := n0_
  have HO471 := n1_
  clear n0_ n1_
  clear ho hb hg hat
  refine hK.out _ _ ⟨((HB.out.cell (World.block_lt_of_cell? w _ hw467_0)).trans hw467_0), ((HB.out.cell (World.block_lt_of_cell? w _ hw467_1)).trans hw467_1), ((HB.out.cell (World.block_lt_of_cell? w _ hw467_2)).trans hw467_2), ((HB.out.cell (World.block_lt_of_cell? w _ hw468_0)).trans hw468_0), ((HB.out.cell (World.block_lt_of_cell? w _ hw468_1)).trans hw468_1), ((HB.out.cell (World.block_lt_of_cell? w _ hw468_2)).trans hw468_2)⟩ (fun hHeld => ?_)
  clear hK K
  refine norm_ (a' := ?_) ?_ ?_
  rotate_left
  ·show Act.put _ (some 47) _ = _
   simp only [Act.put, List.setIfInBounds_toArray, List.set_cons_zero, List.set_cons_succ, i64_w, i32_w]
   rfl
  refine pA_ 17 3 A3337_18 HT_ ?_
  refine done_ (done_of HT_.out (by kernel_rfl)) ?_
  try go_wp2
  go_roundg k1
  case measure => have := HK1.out; omega
  case rel => exact ⟨(y469), (wrap64 ((wrap64 (x4_1 + 1)) + (Int.tmod (ji5) 16))), (wrap64 (x5_1 + 1)), (by first | rfl | (simp; done) | (simp only [← hji5] <;> (first | rfl | simp)) | (simp [*]; done)), qghlp_10, H', ⟨by have := HK1.out; omega⟩, ⟨by (with_reducible repeat (first | apply Kd.R_alloc | apply Kd.R_drewN | apply Kd.R_drew)); exact HO471.out⟩, ⟨qghlp_0⟩⟩

/-! ### sleuthlaw45_direction: function 25 -/
def sleuthlaw45_direction.f (a0_0 : Int) (a0_1 : Int) (a0_2 : Int) : Option (Int) := if a0_2 > a0_1 then (some 1) else (if a0_2 < a0_1 then (some (-1)) else (some 0))
set_option maxHeartbeats 8000000 in
set_option maxRecDepth 100000 in
theorem sleuthlaw45_direction.calls (a0_0 : Int) (a0_1 : Int) (a0_2 : Int) (r : Int) (w : World) (h : sleuthlaw45_direction.f a0_0 a0_1 a0_2 = some r) :
  Calls Try.prog 25 #[.agg #[.int .i64 a0_0, .int .i64 a0_1, .int .i64 a0_2]] w fun e w' => e = .returned (.int .i64 r) ∧ Below w.heap.size w w' := by
 have hu41 := Try.underlying41
 have HB := Aside0.mk (Below.refl w.heap.size w)
 have H : (if a0_2 > a0_1 then (some 1) else (if a0_2 < a0_1 then (some (-1)) else (some 0))) = some r := h
 clear h
 by_cases c2 : a0_2 > a0_1
 ·rw [if_pos c2] at H
  have c2b0 : decide (a0_1 < a0_2) = true := decide_eq_true c2
  clear c2
  obtain rfl := Option.some.inj H
  go_enter Try.func25, Try.ntmps25
  go_wp2_with (first | ((with_reducible refine gate_dst (N := 1) rfl ?_); refine box_event ?hg (N := 1) ?hd (cs := #[.int .i64 a0_0, .int .i64 a0_1, .int .i64 a0_2]) (t := 41) ?hr ?_; (case hd => rfl); (case hg => rfl); (case hr => first | (go_simp; done) | (go_simp; rfl)); intro gb472 hg w3 hbox hb; have n0_ := Aside0.mk (below_step qghlp_0 hb); have n1_ := Aside0.mk (hbox); have n2_ := Aside0.mk ((by rw [hg]; exact (below_size qghlp_0) : w.heap.size ≤ gb472)); have n3_ := Aside0.mk ((by rw [hg]; exact (below_size qghlp_0) : w.heap.size ≤ gb472)); clear HB; have HB := n0_; have BK472 := n1_; have GW472 := n2_; have GE472 := n3_; clear n0_ n1_ n2_ n3_; clear hb hbox hg; have hcz4_0 : w3.cell? ⟨gb472, 0, none⟩ = some (.int .i64 a0_0) := (blk_cell BK472.out 0).trans rfl; have hcz4_1 : w3.cell? ⟨gb472, 1, none⟩ = some (.int .i64 a0_1) := (blk_cell BK472.out 1).trans rfl; have hcz4_2 : w3.cell? ⟨gb472, 2, none⟩ = some (.int .i64 a0_2) := (blk_cell BK472.out 2).trans rfl; have hfz4_0 := blk_frozen BK472.out 0; have hfz4_1 := blk_frozen BK472.out 1; have hfz4_2 := blk_frozen BK472.out 2))
  go_ret
  exact ⟨qghlp_2, qghlp_9⟩
 rw [if_neg c2] at H
 have c2b0 : decide (a0_1 < a0_2) = false := decide_eq_false c2
 clear c2
 by_cases c5 : a0_2 < a0_1
 ·rw [if_pos c5] at H
  have c5b0 : decide (a0_2 < a0_1) = true := decide_eq_true c5
  clear c5
  obtain rfl := Option.some.inj H
  go_enter Try.func25, Try.ntmps25
  go_wp2_with (first | ((with_reducible refine gate_dst (N := 1) rfl ?_); refine box_event ?hg (N := 1) ?hd (cs := #[.int .i64 a0_0, .int .i64 a0_1, .int .i64 a0_2]) (t := 41) ?hr ?_; (case hd => rfl); (case hg => rfl); (case hr => first | (go_simp; done) | (go_simp; rfl)); intro gb472 hg w6 hbox hb; have n0_ := Aside0.mk (below_step qghlp_0 hb); have n1_ := Aside0.mk (hbox); have n2_ := Aside0.mk ((by rw [hg]; exact (below_size qghlp_0) : w.heap.size ≤ gb472)); have n3_ := Aside0.mk ((by rw [hg]; exact (below_size qghlp_0) : w.heap.size ≤ gb472)); clear HB; have HB := n0_; have BK472 := n1_; have GW472 := n2_; have GE472 := n3_; clear n0_ n1_ n2_ n3_; clear hb hbox hg; have hcz7_0 : w6.cell? ⟨gb472, 0, none⟩ = some (.int .i64 a0_0) := (blk_cell BK472.out 0).trans rfl; have hcz7_1 : w6.cell? ⟨gb472, 1, none⟩ = some (.int .i64 a0_1) := (blk_cell BK472.out 1).trans rfl; have hcz7_2 : w6.cell? ⟨gb472, 2, none⟩ = some (.int .i64 a0_2) := (blk_cell BK472.out 2).trans rfl; have hfz7_0 := blk_frozen BK472.out 0; have hfz7_1 := blk_frozen BK472.out 1; have hfz7_2 := blk_frozen BK472.out 2))
  go_ret
  exact ⟨qghlp_2, qghlp_9⟩
 rw [if_neg c5] at H
 have c5b0 : decide (a0_2 < a0_1) = false := decide_eq_false c5
 clear c5
 obtain rfl := Option.some.inj H
 go_enter Try.func25, Try.ntmps25
 go_wp2_with (first | ((with_reducible refine gate_dst (N := 1) rfl ?_); refine box_event ?hg (N := 1) ?hd (cs := #[.int .i64 a0_0, .int .i64 a0_1, .int .i64 a0_2]) (t := 41) ?hr ?_; (case hd => rfl); (case hg => rfl); (case hr => first | (go_simp; done) | (go_simp; rfl)); intro gb472 hg w8 hbox hb; have n0_ := Aside0.mk (below_step qghlp_0 hb); have n1_ := Aside0.mk (hbox); have n2_ := Aside0.mk ((by rw [hg]; exact (below_size qghlp_0) : w.heap.size ≤ gb472)); have n3_ := Aside0.mk ((by rw [hg]; exact (below_size qghlp_0) : w.heap.size ≤ gb472)); clear HB; have HB := n0_; have BK472 := n1_; have GW472 := n2_; have GE472 := n3_; clear n0_ n1_ n2_ n3_; clear hb hbox hg; have hcz9_0 : w8.cell? ⟨gb472, 0, none⟩ = some (.int .i64 a0_0) := (blk_cell BK472.out 0).trans rfl; have hcz9_1 : w8.cell? ⟨gb472, 1, none⟩ = some (.int .i64 a0_1) := (blk_cell BK472.out 1).trans rfl; have hcz9_2 : w8.cell? ⟨gb472, 2, none⟩ = some (.int .i64 a0_2) := (blk_cell BK472.out 2).trans rfl; have hfz9_0 := blk_frozen BK472.out 0; have hfz9_1 := blk_frozen BK472.out 1; have hfz9_2 := blk_frozen BK472.out 2))
 go_ret
 exact ⟨qghlp_2, qghlp_9⟩

/-! ### sleuthlaw45_distance: function 26 -/
def sleuthlaw45_distance.l0 : Nat → List (S41) → List (S41) → List (S58) → Int → Int → Option (Int)
 | 0, _, _, _, _, _ => none
 | k + 1, x0, x1, x2, x7, x8 => if x8 < (x2.length : Int) then (if 0 ≤ x8 then (if 0 ≤ ((rd_T58 x2 x8).f0) then (if ((rd_T58 x2 x8).f0) < (x0.length : Int) then (if 0 ≤ ((rd_T58 x2 x8).f1) then (if ((rd_T58 x2 x8).f1) < (x1.length : Int) then (sleuthlaw45_distance.l0 k x0 x1 x2 (wrap64 (x7 + (mx (wrap64 (((rd_T41 x0 ((rd_T58 x2 x8).f0)).f0) - ((rd_T41 x1 ((rd_T58 x2 x8).f1)).f0))) (wrap64 (-(wrap64 (((rd_T41 x0 ((rd_T58 x2 x8).f0)).f0) - ((rd_T41 x1 ((rd_T58 x2 x8).f1)).f0)))))))) (wrap64 (x8 + 1))) else (none)) else (none)) else (none)) else (none)) else (none)) else (some x7)
def sleuthlaw45_distance.f (k : Nat) (l0 : List (S41)) (l1 : List (S41)) (l2 : List (S58)) : Option (Int) := sleuthlaw45_distance.l0 k l0 l1 l2 0 0
theorem sleuthlaw45_distance.mono_l : ∀ k, (∀ y0 y1 y2 y3 y4, LeO (sleuthlaw45_distance.l0 k y0 y1 y2 y3 y4) (sleuthlaw45_distance.l0 (k + 1) y0 y1 y2 y3 y4))
 | 0 => fun _ _ _ _ _ r h => by simp [sleuthlaw45_distance.l0] at h
 | k + 1 => by
  have ih0 := sleuthlaw45_distance.mono_l k
  ·intro y0 y1 y2 y3 y4
   unfold sleuthlaw45_distance.l0
   repeat' first
   | (with_reducible exact ih0 _ _ _ _ _)
   | (with_reducible exact LeO.refl _)
   | (with_reducible exact LeO.none _)
   | (with_reducible refine LeO.ite ?_ ?_)
   | (with_reducible refine LeO.bind ?_ (fun _ => ?_))
   | exact ih0 _ _ _ _ _
   | exact LeO.none _
   | refine LeO.ite ?_ ?_
   | refine LeO.bind ?_ (fun _ => ?_)
theorem sleuthlaw45_distance.mono : ∀ a0 a1 a2 k, LeO (sleuthlaw45_distance.f k a0 a1 a2) (sleuthlaw45_distance.f (k + 1) a0 a1 a2) := by
 intro a0 a1 a2 k
 have ih0 := sleuthlaw45_distance.mono_l k
 unfold sleuthlaw45_distance.f
 repeat' first
   | (with_reducible exact ih0 _ _ _ _ _)
   | (with_reducible exact LeO.refl _)
   | (with_reducible exact LeO.none _)
   | (with_reducible refine LeO.ite ?_ ?_)
   | (with_reducible refine LeO.bind ?_ (fun _ => ?_))
   | exact ih0 _ _ _ _ _
   | exact LeO.none _
   | refine LeO.ite ?_ ?_
   | refine LeO.bind ?_ (fun _ => ?_)
set_option maxHeartbeats 8000000 in
set_option maxRecDepth 100000 in
theorem sleuthlaw45_distance.calls (k : Nat) (A0 : Option Addr) (c0 : Nat) (l0 : List (S41)) (A1 : Option Addr) (c1 : Nat) (l1 : List (S41)) (A2 : Option Addr) (c2 : Nat) (l2 : List (S58)) (r : Int) (w : World) (hr0 : Kd.C k41 w A0 l0.length l0) (hc0 : l0.length ≤ c0) (hr1 : Kd.C k41 w A1 l1.length l1) (hc1 : l1.length ≤ c1) (hr2 : Kd.C k58 w A2 l2.length l2) (hc2 : l2.length ≤ c2) (h : sleuthlaw45_distance.f k l0 l1 l2 = some r) :
  Calls Try.prog 26 #[.slice A0 l0.length c0, .slice A1 l1.length c1, .slice A2 l2.length c2] w fun e w' => e = .returned (.int .i64 r) ∧ Below w.heap.size w w' := by
 have HR0 := Aside0.mk hr0
 have HC0 := Aside0.mk hc0
 clear hr0 hc0
 have HR1 := Aside0.mk hr1
 have HC1 := Aside0.mk hc1
 clear hr1 hc1
 have HR2 := Aside0.mk hr2
 have HC2 := Aside0.mk hc2
 clear hr2 hc2
 have HB := Aside0.mk (Below.refl w.heap.size w)
 have H : (sleuthlaw45_distance.l0 k l0 l1 l2 0 0) = some r := h
 clear h
 have H' := Aside0.mk H
 clear H
 go_enter Try.func26, Try.ntmps26
 go_wp2
 repeat (go_quiet (fail); try go_wp2)
 go_loopg [7, 8] k (fun kq v7 v8 w' => ∃ (x7_1 : Int) (x8_1 : Int), v7 = .int .i64 x7_1 ∧ v8 = .int .i64 x8_1 ∧ Aside0 (sleuthlaw45_distance.l0 kq l0 l1 l2 x7_1 x8_1 = some r) ∧ Aside0 (kq ≤ k) ∧ Aside0 (Below w.heap.size w w'))
 case atStart => exact ⟨(0), (0), qghlp_10, qghlp_10, H', ⟨Nat.le_refl _⟩, ⟨qghlp_0⟩⟩
 clear H'
 try clear c1
 try clear c2
 try clear p2
 obtain ⟨x7_1, x8_1, rfl, rfl, HA, HK1, HB⟩ := hrel
 cases gk with
 | zero => exact absurd HA.out (by simp [sleuthlaw45_distance.l0])
 | succ k1 =>
  have H := HA.out
  clear HA
  simp only [sleuthlaw45_distance.l0] at H
  by_cases c4 : x8_1 < (l2.length : Int)
  rotate_left
  ·rw [if_neg c4] at H
   have c4b0 : decide (x8_1 < (l2.length : Int)) = false := decide_eq_false c4
   clear c4
   obtain rfl := Option.some.inj H
   go_wp2
   repeat (go_quiet (fail); try go_wp2)
   go_ret
   exact ⟨qghlp_2, qghlp_0⟩
  rw [if_pos c4] at H
  have c4b0 : decide (x8_1 < (l2.length : Int)) = true := decide_eq_true c4
  clear c4
  by_cases c5 : 0 ≤ x8_1
  rotate_left
  ·rw [if_neg c5] at H
   exact absurd H (by simp)
  rw [if_pos c5] at H
  have c5b0 : decide (0 ≤ x8_1) = true := decide_eq_true c5
  clear c5
  by_cases c6 : 0 ≤ ((rd_T58 l2 x8_1).f0)
  rotate_left
  ·rw [if_neg c6] at H
   exact absurd H (by simp)
  rw [if_pos c6] at H
  have c6b0 : decide (0 ≤ ((rd_T58 l2 x8_1).f0)) = true := decide_eq_true c6
  clear c6
  by_cases c7 : ((rd_T58 l2 x8_1).f0) < (l0.length : Int)
  rotate_left
  ·rw [if_neg c7] at H
   exact absurd H (by simp)
  rw [if_pos c7] at H
  have c7b0 : decide (((rd_T58 l2 x8_1).f0) < (l0.length : Int)) = true := decide_eq_true c7
  clear c7
  by_cases c8 : 0 ≤ ((rd_T58 l2 x8_1).f1)
  rotate_left
  ·rw [if_neg c8] at H
   exact absurd H (by simp)
  rw [if_pos c8] at H
  have c8b0 : decide (0 ≤ ((rd_T58 l2 x8_1).f1)) = true := decide_eq_true c8
  clear c8
  by_cases c9 : ((rd_T58 l2 x8_1).f1) < (l1.length : Int)
  rotate_left
  ·rw [if_neg c9] at H
   exact absurd H (by simp)
  rw [if_pos c9] at H
  have c9b0 : decide (((rd_T58 l2 x8_1).f1) < (l1.length : Int)) = true := decide_eq_true c9
  clear c9
  obtain ⟨ji10, hji10⟩ : ∃ j_ : Int, (mx (wrap64 (((rd_T41 l0 ((rd_T58 l2 x8_1).f0)).f0) - ((rd_T41 l1 ((rd_T58 l2 x8_1).f1)).f0))) (wrap64 (-(wrap64 (((rd_T41 l0 ((rd_T58 l2 x8_1).f0)).f0) - ((rd_T41 l1 ((rd_T58 l2 x8_1).f1)).f0)))))) = j_ := ⟨_, rfl⟩
  replace H : (sleuthlaw45_distance.l0 k1 l0 l1 l2 (wrap64 (x7_1 + (ji10))) (wrap64 (x8_1 + 1))) = some r := by first | (rw [hji10] at H; exact H) | (simp only [hji10] at H ⊢; exact H)
  have hji10_ : (if (wrap64 (((rd_T41 l0 ((rd_T58 l2 x8_1).f0)).f0) - ((rd_T41 l1 ((rd_T58 l2 x8_1).f1)).f0))) < (wrap64 (-(wrap64 (((rd_T41 l0 ((rd_T58 l2 x8_1).f0)).f0) - ((rd_T41 l1 ((rd_T58 l2 x8_1).f1)).f0))))) then (wrap64 (-(wrap64 (((rd_T41 l0 ((rd_T58 l2 x8_1).f0)).f0) - ((rd_T41 l1 ((rd_T58 l2 x8_1).f1)).f0))))) else (wrap64 (((rd_T41 l0 ((rd_T58 l2 x8_1).f0)).f0) - ((rd_T41 l1 ((rd_T58 l2 x8_1).f1)).f0)))) = ji10 := hji10
  have H' := Aside0.mk H
  clear H
  have p473 : 0 ≤ (x8_1 : Int) := of_decide_eq_true qghlp_1
  have q473 : x8_1 < (l2.length : Int) := of_decide_eq_true qghlp_1
  obtain ⟨ad473, e473, hx473_0, hx473_1⟩ := at_T58 HR2.out x8_1 p473 q473
  cases e473
  replace hx473_0 := (HB.out.cell (World.block_lt_of_cell? w _ hx473_0)).trans hx473_0
  replace hx473_1 := (HB.out.cell (World.block_lt_of_cell? w _ hx473_1)).trans hx473_1
  replace p473 := eq_true p473
  replace q473 := eq_true q473
  have p474 : 0 ≤ (((rd_T58 l2 x8_1).f0) : Int) := of_decide_eq_true qghlp_1
  have q474 : ((rd_T58 l2 x8_1).f0) < (l0.length : Int) := of_decide_eq_true qghlp_1
  obtain ⟨ad474, e474, hx474_0, hx474_1, hx474_2⟩ := at_T41 HR0.out ((rd_T58 l2 x8_1).f0) p474 q474
  cases e474
  replace hx474_0 := (HB.out.cell (World.block_lt_of_cell? w _ hx474_0)).trans hx474_0
  replace hx474_1 := (HB.out.cell (World.block_lt_of_cell? w _ hx474_1)).trans hx474_1
  replace hx474_2 := (HB.out.cell (World.block_lt_of_cell? w _ hx474_2)).trans hx474_2
  replace p474 := eq_true p474
  replace q474 := eq_true q474
  have p475 : 0 ≤ (x8_1 : Int) := of_decide_eq_true qghlp_1
  have q475 : x8_1 < (l2.length : Int) := of_decide_eq_true qghlp_1
  obtain ⟨ad475, e475, hx475_0, hx475_1⟩ := at_T58 HR2.out x8_1 p475 q475
  obtain rfl : ad473 = ad475 := (by injection e475)
  replace hx475_0 := (HB.out.cell (World.block_lt_of_cell? w _ hx475_0)).trans hx475_0
  replace hx475_1 := (HB.out.cell (World.block_lt_of_cell? w _ hx475_1)).trans hx475_1
  replace p475 := eq_true p475
  replace q475 := eq_true q475
  have p476 : 0 ≤ (((rd_T58 l2 x8_1).f1) : Int) := of_decide_eq_true qghlp_1
  have q476 : ((rd_T58 l2 x8_1).f1) < (l1.length : Int) := of_decide_eq_true qghlp_1
  obtain ⟨ad476, e476, hx476_0, hx476_1, hx476_2⟩ := at_T41 HR1.out ((rd_T58 l2 x8_1).f1) p476 q476
  cases e476
  replace hx476_0 := (HB.out.cell (World.block_lt_of_cell? w _ hx476_0)).trans hx476_0
  replace hx476_1 := (HB.out.cell (World.block_lt_of_cell? w _ hx476_1)).trans hx476_1
  replace hx476_2 := (HB.out.cell (World.block_lt_of_cell? w _ hx476_2)).trans hx476_2
  replace p476 := eq_true p476
  replace q476 := eq_true q476
  go_wp2
  repeat (go_quiet (fail); try go_wp2)
  go_roundg k1
  case measure => have := HK1.out; omega
  case rel => exact ⟨(wrap64 (x7_1 + (ji10))), (wrap64 (x8_1 + 1)), (by first | rfl | (simp; done) | (simp only [← hji10] <;> (first | rfl | simp)) | (simp [*]; done)), qghlp_10, H', ⟨by have := HK1.out; omega⟩, ⟨qghlp_0⟩⟩

/-! ### sleuthlaw45_better: function 48 -/
def sleuthlaw45_better.l0 : Nat → List (S58) → List (S58) → Int → Option (Bool)
 | 0, _, _, _ => none
 | k + 1, x2, x3, x11 => if x11 < (x2.length : Int) then (if 0 ≤ x11 then (if x11 < (x3.length : Int) then (if (!(((rd_T58 x2 x11).f0) == ((rd_T58 x3 x11).f0)) || (!(((rd_T58 x2 x11).f1) == ((rd_T58 x3 x11).f1)))) = true then (if ((rd_T58 x2 x11).f0) < ((rd_T58 x3 x11).f0) then (some true) else (if ((rd_T58 x2 x11).f0) = ((rd_T58 x3 x11).f0) then (some (decide (((rd_T58 x2 x11).f1) < ((rd_T58 x3 x11).f1)))) else (some false))) else (sleuthlaw45_better.l0 k x2 x3 (wrap64 (x11 + 1)))) else (none)) else (none)) else (some false)
def sleuthlaw45_better.f (k : Nat) (l0 : List (S41)) (l1 : List (S41)) (l2 : List (S58)) (l3 : List (S58)) : Option (Bool) := if (l2.length : Int) = (l3.length : Int) then ((sleuthlaw45_distance.f k l0 l1 l2).bind fun t522 => ((sleuthlaw45_distance.f k l0 l1 l3).bind fun t523 => (if t522 = t523 then (sleuthlaw45_better.l0 k l2 l3 0) else (some (decide (t522 < t523)))))) else (some (decide ((l2.length : Int) > (l3.length : Int))))
theorem sleuthlaw45_better.mono_l : ∀ k, (∀ y0 y1 y2, LeO (sleuthlaw45_better.l0 k y0 y1 y2) (sleuthlaw45_better.l0 (k + 1) y0 y1 y2))
 | 0 => fun _ _ _ r h => by simp [sleuthlaw45_better.l0] at h
 | k + 1 => by
  have ih0 := sleuthlaw45_better.mono_l k
  ·intro y0 y1 y2
   unfold sleuthlaw45_better.l0
   repeat' first
   | (with_reducible exact ih0 _ _ _)
   | (with_reducible exact sleuthlaw45_distance.mono _ _ _ _)
   | (with_reducible exact LeO.refl _)
   | (with_reducible exact LeO.none _)
   | (with_reducible refine LeO.ite ?_ ?_)
   | (with_reducible refine LeO.bind ?_ (fun _ => ?_))
   | exact ih0 _ _ _
   | exact sleuthlaw45_distance.mono _ _ _ _
   | exact LeO.none _
   | refine LeO.ite ?_ ?_
   | refine LeO.bind ?_ (fun _ => ?_)
theorem sleuthlaw45_better.mono : ∀ a0 a1 a2 a3 k, LeO (sleuthlaw45_better.f k a0 a1 a2 a3) (sleuthlaw45_better.f (k + 1) a0 a1 a2 a3) := by
 intro a0 a1 a2 a3 k
 have ih0 := sleuthlaw45_better.mono_l k
 unfold sleuthlaw45_better.f
 repeat' first
   | (with_reducible exact ih0 _ _ _)
   | (with_reducible exact sleuthlaw45_distance.mono _ _ _ _)
   | (with_reducible exact LeO.refl _)
   | (with_reducible exact LeO.none _)
   | (with_reducible refine LeO.ite ?_ ?_)
   | (with_reducible refine LeO.bind ?_ (fun _ => ?_))
   | exact ih0 _ _ _
   | exact sleuthlaw45_distance.mono _ _ _ _
   | exact LeO.none _
   | refine LeO.ite ?_ ?_
   | refine LeO.bind ?_ (fun _ => ?_)
set_option maxHeartbeats 8000000 in
set_option maxRecDepth 100000 in
theorem sleuthlaw45_better.calls (k : Nat) (A0 : Option Addr) (c0 : Nat) (l0 : List (S41)) (A1 : Option Addr) (c1 : Nat) (l1 : List (S41)) (A2 : Option Addr) (c2 : Nat) (l2 : List (S58)) (A3 : Option Addr) (c3 : Nat) (l3 : List (S58)) (r : Bool) (w : World) (hr0 : Kd.C k41 w A0 l0.length l0) (hc0 : l0.length ≤ c0) (hr1 : Kd.C k41 w A1 l1.length l1) (hc1 : l1.length ≤ c1) (hr2 : Kd.C k58 w A2 l2.length l2) (hc2 : l2.length ≤ c2) (hr3 : Kd.C k58 w A3 l3.length l3) (hc3 : l3.length ≤ c3) (h : sleuthlaw45_better.f k l0 l1 l2 l3 = some r) :
  Calls Try.prog 48 #[.slice A0 l0.length c0, .slice A1 l1.length c1, .slice A2 l2.length c2, .slice A3 l3.length c3] w fun e w' => e = .returned (.bool r) ∧ Below w.heap.size w w' := by
 have hu58 := Try.underlying58
 have HR0 := Aside0.mk hr0
 have HC0 := Aside0.mk hc0
 clear hr0 hc0
 have HR1 := Aside0.mk hr1
 have HC1 := Aside0.mk hc1
 clear hr1 hc1
 have HR2 := Aside0.mk hr2
 have HC2 := Aside0.mk hc2
 clear hr2 hc2
 have HR3 := Aside0.mk hr3
 have HC3 := Aside0.mk hc3
 clear hr3 hc3
 have HB := Aside0.mk (Below.refl w.heap.size w)
 have H : (if (l2.length : Int) = (l3.length : Int) then ((sleuthlaw45_distance.f k l0 l1 l2).bind fun t522 => ((sleuthlaw45_distance.f k l0 l1 l3).bind fun t523 => (if t522 = t523 then (sleuthlaw45_better.l0 k l2 l3 0) else (some (decide (t522 < t523)))))) else (some (decide ((l2.length : Int) > (l3.length : Int))))) = some r := h
 clear h
 by_cases c5 : (l2.length : Int) = (l3.length : Int)
 rotate_left
 ·rw [if_neg c5] at H
  have c5b0 : ((l2.length : Int) == (l3.length : Int)) = false := beq_eq_false_iff_ne.mpr c5
  have c5b1 : ((l2.length : Int) != (l3.length : Int)) = true := bne_iff_ne.mpr c5
  have c5b2 : (l2.length == l3.length) = false := by first | simpa using c5 | (simp at c5 ⊢; omega)
  obtain rfl := Option.some.inj H
  go_enter Try.func48, Try.ntmps48
  go_wp2
  repeat (go_quiet (fail); try go_wp2)
  go_ret
  exact ⟨qghlp_2, qghlp_0⟩
 rw [if_pos c5] at H
 have c5b0 : ((l2.length : Int) == (l3.length : Int)) = true := beq_iff_eq.mpr c5
 have c5b1 : ((l2.length : Int) != (l3.length : Int)) = false := bne_eq_false_iff_eq.mpr c5
 have c5b2 : (l2.length == l3.length) = true := by first | simpa using c5 | (simp at c5 ⊢; omega)
 clear c5
 replace H := Option.bind_eq_some_iff.mp H
 obtain ⟨t522, A60, H⟩ := H
 replace H : ((sleuthlaw45_distance.f k l0 l1 l3).bind fun t523 => (if t522 = t523 then (sleuthlaw45_better.l0 k l2 l3 0) else (some (decide (t522 < t523))))) = some r := H
 have A6 := Aside0.mk A60
 clear A60
 replace H := Option.bind_eq_some_iff.mp H
 obtain ⟨t523, A70, H⟩ := H
 replace H : (if t522 = t523 then (sleuthlaw45_better.l0 k l2 l3 0) else (some (decide (t522 < t523)))) = some r := H
 have A7 := Aside0.mk A70
 clear A70
 by_cases c8 : t522 = t523
 rotate_left
 ·rw [if_neg c8] at H
  have c8b0 : (t522 == t523) = false := beq_eq_false_iff_ne.mpr c8
  have c8b1 : (t522 != t523) = true := bne_iff_ne.mpr c8
  obtain rfl := Option.some.inj H
  go_enter Try.func48, Try.ntmps48
  go_wp2_with (first | (go_at_call 26; (with_reducible refine (sleuthlaw45_distance.calls k _ _ l0 _ _ l1 _ _ l2 t522 _ ?side1 ?side2 ?side3 ?side4 ?side5 ?side6 A6.out).mono ?_); (case side1 => exact qghlp_6); (case side2 => exact HC0.out); (case side3 => exact qghlp_7); (case side4 => exact HC1.out); (case side5 => exact qghlp_8); (case side6 => exact HC2.out); rintro e w17 ⟨rfl, hb⟩; have n0_ := Aside0.mk (below_step qghlp_0 hb); clear HB; have HB := n0_; clear n0_; (try clear hb); (try clear hb2); (try clear hk); (try clear hi)) | (go_at_call 26; (with_reducible refine (sleuthlaw45_distance.calls k _ _ l0 _ _ l1 _ _ l3 t523 _ ?side1 ?side2 ?side3 ?side4 ?side5 ?side6 A7.out).mono ?_); (case side1 => exact qghlp_3); (case side2 => exact HC0.out); (case side3 => exact qghlp_4); (case side4 => exact HC1.out); (case side5 => exact qghlp_5); (case side6 => exact HC3.out); rintro e w18 ⟨rfl, hb⟩; have n0_ := Aside0.mk (below_step qghlp_0 hb); clear HB; have HB := n0_; clear n0_; (try clear hb); (try clear hb2); (try clear hk); (try clear hi)))
  repeat (go_quiet (first | (go_at_call 26; (with_reducible refine (sleuthlaw45_distance.calls k _ _ l0 _ _ l1 _ _ l2 t522 _ ?side1 ?side2 ?side3 ?side4 ?side5 ?side6 A6.out).mono ?_); (case side1 => exact qghlp_6); (case side2 => exact HC0.out); (case side3 => exact qghlp_7); (case side4 => exact HC1.out); (case side5 => exact qghlp_8); (case side6 => exact HC2.out); rintro e w17 ⟨rfl, hb⟩; have n0_ := Aside0.mk (below_step qghlp_0 hb); clear HB; have HB := n0_; clear n0_; (try clear hb); (try clear hb2); (try clear hk); (try clear hi)) | (go_at_call 26; (with_reducible refine (sleuthlaw45_distance.calls k _ _ l0 _ _ l1 _ _ l3 t523 _ ?side1 ?side2 ?side3 ?side4 ?side5 ?side6 A7.out).mono ?_); (case side1 => exact qghlp_3); (case side2 => exact HC0.out); (case side3 => exact qghlp_4); (case side4 => exact HC1.out); (case side5 => exact qghlp_5); (case side6 => exact HC3.out); rintro e w18 ⟨rfl, hb⟩; have n0_ := Aside0.mk (below_step qghlp_0 hb); clear HB; have HB := n0_; clear n0_; (try clear hb); (try clear hb2); (try clear hk); (try clear hi))); try go_wp2_with (first | (go_at_call 26; (with_reducible refine (sleuthlaw45_distance.calls k _ _ l0 _ _ l1 _ _ l2 t522 _ ?side1 ?side2 ?side3 ?side4 ?side5 ?side6 A6.out).mono ?_); (case side1 => exact qghlp_6); (case side2 => exact HC0.out); (case side3 => exact qghlp_7); (case side4 => exact HC1.out); (case side5 => exact qghlp_8); (case side6 => exact HC2.out); rintro e w17 ⟨rfl, hb⟩; have n0_ := Aside0.mk (below_step qghlp_0 hb); clear HB; have HB := n0_; clear n0_; (try clear hb); (try clear hb2); (try clear hk); (try clear hi)) | (go_at_call 26; (with_reducible refine (sleuthlaw45_distance.calls k _ _ l0 _ _ l1 _ _ l3 t523 _ ?side1 ?side2 ?side3 ?side4 ?side5 ?side6 A7.out).mono ?_); (case side1 => exact qghlp_3); (case side2 => exact HC0.out); (case side3 => exact qghlp_4); (case side4 => exact HC1.out); (case side5 => exact qghlp_5); (case side6 => exact HC3.out); rintro e w18 ⟨rfl, hb⟩; have n0_ := Aside0.mk (below_step qghlp_0 hb); clear HB; have HB := n0_; clear n0_; (try clear hb); (try clear hb2); (try clear hk); (try clear hi))))
  go_ret
  exact ⟨qghlp_2, qghlp_0⟩
 rw [if_pos c8] at H
 have c8b0 : (t522 == t523) = true := beq_iff_eq.mpr c8
 have c8b1 : (t522 != t523) = false := bne_eq_false_iff_eq.mpr c8
 clear c8
 have H' := Aside0.mk H
 clear H
 go_enter Try.func48, Try.ntmps48
 go_wp2_with (first | (go_at_call 26; (with_reducible refine (sleuthlaw45_distance.calls k _ _ l0 _ _ l1 _ _ l2 t522 _ ?side1 ?side2 ?side3 ?side4 ?side5 ?side6 A6.out).mono ?_); (case side1 => exact qghlp_6); (case side2 => exact HC0.out); (case side3 => exact qghlp_7); (case side4 => exact HC1.out); (case side5 => exact qghlp_8); (case side6 => exact HC2.out); rintro e w9 ⟨rfl, hb⟩; have n0_ := Aside0.mk (below_step qghlp_0 hb); clear HB; have HB := n0_; clear n0_; (try clear hb); (try clear hb2); (try clear hk); (try clear hi)) | (go_at_call 26; (with_reducible refine (sleuthlaw45_distance.calls k _ _ l0 _ _ l1 _ _ l3 t523 _ ?side1 ?side2 ?side3 ?side4 ?side5 ?side6 A7.out).mono ?_); (case side1 => exact qghlp_3); (case side2 => exact HC0.out); (case side3 => exact qghlp_4); (case side4 => exact HC1.out); (case side5 => exact qghlp_5); (case side6 => exact HC3.out); rintro e w10 ⟨rfl, hb⟩; have n0_ := Aside0.mk (below_step qghlp_0 hb); clear HB; have HB := n0_; clear n0_; (try clear hb); (try clear hb2); (try clear hk); (try clear hi)))
 repeat (go_quiet (first | (go_at_call 26; (with_reducible refine (sleuthlaw45_distance.calls k _ _ l0 _ _ l1 _ _ l2 t522 _ ?side1 ?side2 ?side3 ?side4 ?side5 ?side6 A6.out).mono ?_); (case side1 => exact qghlp_6); (case side2 => exact HC0.out); (case side3 => exact qghlp_7); (case side4 => exact HC1.out); (case side5 => exact qghlp_8); (case side6 => exact HC2.out); rintro e w9 ⟨rfl, hb⟩; have n0_ := Aside0.mk (below_step qghlp_0 hb); clear HB; have HB := n0_; clear n0_; (try clear hb); (try clear hb2); (try clear hk); (try clear hi)) | (go_at_call 26; (with_reducible refine (sleuthlaw45_distance.calls k _ _ l0 _ _ l1 _ _ l3 t523 _ ?side1 ?side2 ?side3 ?side4 ?side5 ?side6 A7.out).mono ?_); (case side1 => exact qghlp_3); (case side2 => exact HC0.out); (case side3 => exact qghlp_4); (case side4 => exact HC1.out); (case side5 => exact qghlp_5); (case side6 => exact HC3.out); rintro e w10 ⟨rfl, hb⟩; have n0_ := Aside0.mk (below_step qghlp_0 hb); clear HB; have HB := n0_; clear n0_; (try clear hb); (try clear hb2); (try clear hk); (try clear hi))); try go_wp2_with (first | (go_at_call 26; (with_reducible refine (sleuthlaw45_distance.calls k _ _ l0 _ _ l1 _ _ l2 t522 _ ?side1 ?side2 ?side3 ?side4 ?side5 ?side6 A6.out).mono ?_); (case side1 => exact qghlp_6); (case side2 => exact HC0.out); (case side3 => exact qghlp_7); (case side4 => exact HC1.out); (case side5 => exact qghlp_8); (case side6 => exact HC2.out); rintro e w9 ⟨rfl, hb⟩; have n0_ := Aside0.mk (below_step qghlp_0 hb); clear HB; have HB := n0_; clear n0_; (try clear hb); (try clear hb2); (try clear hk); (try clear hi)) | (go_at_call 26; (with_reducible refine (sleuthlaw45_distance.calls k _ _ l0 _ _ l1 _ _ l3 t523 _ ?side1 ?side2 ?side3 ?side4 ?side5 ?side6 A7.out).mono ?_); (case side1 => exact qghlp_3); (case side2 => exact HC0.out); (case side3 => exact qghlp_4); (case side4 => exact HC1.out); (case side5 => exact qghlp_5); (case side6 => exact HC3.out); rintro e w10 ⟨rfl, hb⟩; have n0_ := Aside0.mk (below_step qghlp_0 hb); clear HB; have HB := n0_; clear n0_; (try clear hb); (try clear hb2); (try clear hk); (try clear hi))))
 go_loopg [11] k (fun kq v11 w' => ∃ (x11_1 : Int), v11 = .int .i64 x11_1 ∧ Aside0 (sleuthlaw45_better.l0 kq l2 l3 x11_1 = some r) ∧ Aside0 (kq ≤ k) ∧ Aside0 (Below w.heap.size w w'))
 case atStart => exact ⟨(0), qghlp_10, H', ⟨Nat.le_refl _⟩, ⟨qghlp_0⟩⟩
 clear H'
 try clear c1
 try clear c2
 try clear p2
 try clear c3
 try clear c4
 try clear c5
 try clear c5b0
 try clear c5b1
 try clear c5b2
 try clear c8
 try clear c8b0
 try clear c8b1
 obtain ⟨x11_1, rfl, HA, HK1, HB⟩ := hrel
 cases gk with
 | zero => exact absurd HA.out (by simp [sleuthlaw45_better.l0])
 | succ k1 =>
  have H := HA.out
  clear HA
  simp only [sleuthlaw45_better.l0] at H
  by_cases c11 : x11_1 < (l2.length : Int)
  rotate_left
  ·rw [if_neg c11] at H
   have c11b0 : decide (x11_1 < (l2.length : Int)) = false := decide_eq_false c11
   clear c11
   obtain rfl := Option.some.inj H
   go_wp2
   repeat (go_quiet (fail); try go_wp2)
   go_ret
   exact ⟨qghlp_2, qghlp_0⟩
  rw [if_pos c11] at H
  have c11b0 : decide (x11_1 < (l2.length : Int)) = true := decide_eq_true c11
  clear c11
  by_cases c12 : 0 ≤ x11_1
  rotate_left
  ·rw [if_neg c12] at H
   exact absurd H (by simp)
  rw [if_pos c12] at H
  have c12b0 : decide (0 ≤ x11_1) = true := decide_eq_true c12
  clear c12
  by_cases c13 : x11_1 < (l3.length : Int)
  rotate_left
  ·rw [if_neg c13] at H
   exact absurd H (by simp)
  rw [if_pos c13] at H
  have c13b0 : decide (x11_1 < (l3.length : Int)) = true := decide_eq_true c13
  clear c13
  by_cases c14 : (!(((rd_T58 l2 x11_1).f0) == ((rd_T58 l3 x11_1).f0)) || (!(((rd_T58 l2 x11_1).f1) == ((rd_T58 l3 x11_1).f1)))) = true
  rotate_left
  ·rw [if_neg c14] at H
   have c14b0 : (!(((rd_T58 l2 x11_1).f0) == ((rd_T58 l3 x11_1).f0)) || (!(((rd_T58 l2 x11_1).f1) == ((rd_T58 l3 x11_1).f1)))) = false := by simpa using c14
   clear c14
   have H' := Aside0.mk H
   clear H
   have p524 : 0 ≤ (x11_1 : Int) := of_decide_eq_true qghlp_1
   have q524 : x11_1 < (l2.length : Int) := of_decide_eq_true qghlp_1
   obtain ⟨ad524, e524, hx524_0, hx524_1⟩ := at_T58 HR2.out x11_1 p524 q524
   cases e524
   replace hx524_0 := (HB.out.cell (World.block_lt_of_cell? w _ hx524_0)).trans hx524_0
   replace hx524_1 := (HB.out.cell (World.block_lt_of_cell? w _ hx524_1)).trans hx524_1
   replace p524 := eq_true p524
   replace q524 := eq_true q524
   have p525 : 0 ≤ (x11_1 : Int) := of_decide_eq_true qghlp_1
   have q525 : x11_1 < (l3.length : Int) := of_decide_eq_true qghlp_1
   obtain ⟨ad525, e525, hx525_0, hx525_1⟩ := at_T58 HR3.out x11_1 p525 q525
   cases e525
   replace hx525_0 := (HB.out.cell (World.block_lt_of_cell? w _ hx525_0)).trans hx525_0
   replace hx525_1 := (HB.out.cell (World.block_lt_of_cell? w _ hx525_1)).trans hx525_1
   replace p525 := eq_true p525
   replace q525 := eq_true q525
   go_wp2
   repeat (go_quiet (fail); try go_wp2)
   go_roundg k1
   case measure => have := HK1.out; omega
   case rel => exact ⟨(wrap64 (x11_1 + 1)), qghlp_10, H', ⟨by have := HK1.out; omega⟩, ⟨qghlp_0⟩⟩
  rw [if_pos c14] at H
  have c14b0 : (!(((rd_T58 l2 x11_1).f0) == ((rd_T58 l3 x11_1).f0)) || (!(((rd_T58 l2 x11_1).f1) == ((rd_T58 l3 x11_1).f1)))) = true := c14
  clear c14
  by_cases c15 : ((rd_T58 l2 x11_1).f0) < ((rd_T58 l3 x11_1).f0)
  ·rw [if_pos c15] at H
   have c15b0 : decide (((rd_T58 l2 x11_1).f0) < ((rd_T58 l3 x11_1).f0)) = true := decide_eq_true c15
   clear c15
   obtain rfl := Option.some.inj H
   have p524 : 0 ≤ (x11_1 : Int) := of_decide_eq_true qghlp_1
   have q524 : x11_1 < (l2.length : Int) := of_decide_eq_true qghlp_1
   obtain ⟨ad524, e524, hx524_0, hx524_1⟩ := at_T58 HR2.out x11_1 p524 q524
   cases e524
   replace hx524_0 := (HB.out.cell (World.block_lt_of_cell? w _ hx524_0)).trans hx524_0
   replace hx524_1 := (HB.out.cell (World.block_lt_of_cell? w _ hx524_1)).trans hx524_1
   replace p524 := eq_true p524
   replace q524 := eq_true q524
   have p525 : 0 ≤ (x11_1 : Int) := of_decide_eq_true qghlp_1
   have q525 : x11_1 < (l3.length : Int) := of_decide_eq_true qghlp_1
   obtain ⟨ad525, e525, hx525_0, hx525_1⟩ := at_T58 HR3.out x11_1 p525 q525
   cases e525
   replace hx525_0 := (HB.out.cell (World.block_lt_of_cell? w _ hx525_0)).trans hx525_0
   replace hx525_1 := (HB.out.cell (World.block_lt_of_cell? w _ hx525_1)).trans hx525_1
   replace p525 := eq_true p525
   replace q525 := eq_true q525
   have p526 : 0 ≤ (x11_1 : Int) := of_decide_eq_true qghlp_1
   have q526 : x11_1 < (l2.length : Int) := of_decide_eq_true qghlp_1
   obtain ⟨ad526, e526, hx526_0, hx526_1⟩ := at_T58 HR2.out x11_1 p526 q526
   obtain rfl : ad524 = ad526 := (by injection e526)
   replace hx526_0 := (HB.out.cell (World.block_lt_of_cell? w _ hx526_0)).trans hx526_0
   replace hx526_1 := (HB.out.cell (World.block_lt_of_cell? w _ hx526_1)).trans hx526_1
   replace p526 := eq_true p526
   replace q526 := eq_true q526
   have p527 : 0 ≤ (x11_1 : Int) := of_decide_eq_true qghlp_1
   have q527 : x11_1 < (l3.length : Int) := of_decide_eq_true qghlp_1
   obtain ⟨ad527, e527, hx527_0, hx527_1⟩ := at_T58 HR3.out x11_1 p527 q527
   obtain rfl : ad525 = ad527 := (by injection e527)
   replace hx527_0 := (HB.out.cell (World.block_lt_of_cell? w _ hx527_0)).trans hx527_0
   replace hx527_1 := (HB.out.cell (World.block_lt_of_cell? w _ hx527_1)).trans hx527_1
   replace p527 := eq_true p527
   replace q527 := eq_true q527
   go_wp2
   repeat (go_quiet (fail); try go_wp2)
   go_ret
   exact ⟨qghlp_2, qghlp_0⟩
  rw [if_neg c15] at H
  have c15b0 : decide (((rd_T58 l2 x11_1).f0) < ((rd_T58 l3 x11_1).f0)) = false := decide_eq_false c15
  clear c15
  by_cases c16 : ((rd_T58 l2 x11_1).f0) = ((rd_T58 l3 x11_1).f0)
  rotate_left
  ·rw [if_neg c16] at H
   have c16b0 : (((rd_T58 l2 x11_1).f0) == ((rd_T58 l3 x11_1).f0)) = false := beq_eq_false_iff_ne.mpr c16
   have c16b1 : (((rd_T58 l2 x11_1).f0) != ((rd_T58 l3 x11_1).f0)) = true := bne_iff_ne.mpr c16
   obtain rfl := Option.some.inj H
   have p524 : 0 ≤ (x11_1 : Int) := of_decide_eq_true qghlp_1
   have q524 : x11_1 < (l2.length : Int) := of_decide_eq_true qghlp_1
   obtain ⟨ad524, e524, hx524_0, hx524_1⟩ := at_T58 HR2.out x11_1 p524 q524
   cases e524
   replace hx524_0 := (HB.out.cell (World.block_lt_of_cell? w _ hx524_0)).trans hx524_0
   replace hx524_1 := (HB.out.cell (World.block_lt_of_cell? w _ hx524_1)).trans hx524_1
   replace p524 := eq_true p524
   replace q524 := eq_true q524
   have p525 : 0 ≤ (x11_1 : Int) := of_decide_eq_true qghlp_1
   have q525 : x11_1 < (l3.length : Int) := of_decide_eq_true qghlp_1
   obtain ⟨ad525, e525, hx525_0, hx525_1⟩ := at_T58 HR3.out x11_1 p525 q525
   cases e525
   replace hx525_0 := (HB.out.cell (World.block_lt_of_cell? w _ hx525_0)).trans hx525_0
   replace hx525_1 := (HB.out.cell (World.block_lt_of_cell? w _ hx525_1)).trans hx525_1
   replace p525 := eq_true p525
   replace q525 := eq_true q525
   have p526 : 0 ≤ (x11_1 : Int) := of_decide_eq_true qghlp_1
   have q526 : x11_1 < (l2.length : Int) := of_decide_eq_true qghlp_1
   obtain ⟨ad526, e526, hx526_0, hx526_1⟩ := at_T58 HR2.out x11_1 p526 q526
   obtain rfl : ad524 = ad526 := (by injection e526)
   replace hx526_0 := (HB.out.cell (World.block_lt_of_cell? w _ hx526_0)).trans hx526_0
   replace hx526_1 := (HB.out.cell (World.block_lt_of_cell? w _ hx526_1)).trans hx526_1
   replace p526 := eq_true p526
   replace q526 := eq_true q526
   have p527 : 0 ≤ (x11_1 : Int) := of_decide_eq_true qghlp_1
   have q527 : x11_1 < (l3.length : Int) := of_decide_eq_true qghlp_1
   obtain ⟨ad527, e527, hx527_0, hx527_1⟩ := at_T58 HR3.out x11_1 p527 q527
   obtain rfl : ad525 = ad527 := (by injection e527)
   replace hx527_0 := (HB.out.cell (World.block_lt_of_cell? w _ hx527_0)).trans hx527_0
   replace hx527_1 := (HB.out.cell (World.block_lt_of_cell? w _ hx527_1)).trans hx527_1
   replace p527 := eq_true p527
   replace q527 := eq_true q527
   have p528 : 0 ≤ (x11_1 : Int) := of_decide_eq_true qghlp_1
   have q528 : x11_1 < (l2.length : Int) := of_decide_eq_true qghlp_1
   obtain ⟨ad528, e528, hx528_0, hx528_1⟩ := at_T58 HR2.out x11_1 p528 q528
   obtain rfl : ad524 = ad528 := (by injection e528)
   replace hx528_0 := (HB.out.cell (World.block_lt_of_cell? w _ hx528_0)).trans hx528_0
   replace hx528_1 := (HB.out.cell (World.block_lt_of_cell? w _ hx528_1)).trans hx528_1
   replace p528 := eq_true p528
   replace q528 := eq_true q528
   have p529 : 0 ≤ (x11_1 : Int) := of_decide_eq_true qghlp_1
   have q529 : x11_1 < (l3.length : Int) := of_decide_eq_true qghlp_1
   obtain ⟨ad529, e529, hx529_0, hx529_1⟩ := at_T58 HR3.out x11_1 p529 q529
   obtain rfl : ad525 = ad529 := (by injection e529)
   replace hx529_0 := (HB.out.cell (World.block_lt_of_cell? w _ hx529_0)).trans hx529_0
   replace hx529_1 := (HB.out.cell (World.block_lt_of_cell? w _ hx529_1)).trans hx529_1
   replace p529 := eq_true p529
   replace q529 := eq_true q529
   go_wp2
   repeat (go_quiet (fail); try go_wp2)
   go_ret
   exact ⟨qghlp_2, qghlp_0⟩
  rw [if_pos c16] at H
  have c16b0 : (((rd_T58 l2 x11_1).f0) == ((rd_T58 l3 x11_1).f0)) = true := beq_iff_eq.mpr c16
  have c16b1 : (((rd_T58 l2 x11_1).f0) != ((rd_T58 l3 x11_1).f0)) = false := bne_eq_false_iff_eq.mpr c16
  clear c16
  have c16c0 : (((rd_T58 l2 x11_1).f1) == ((rd_T58 l3 x11_1).f1)) = false := by simpa [c16b0] using c14b0
  obtain rfl := Option.some.inj H
  have p524 : 0 ≤ (x11_1 : Int) := of_decide_eq_true qghlp_1
  have q524 : x11_1 < (l2.length : Int) := of_decide_eq_true qghlp_1
  obtain ⟨ad524, e524, hx524_0, hx524_1⟩ := at_T58 HR2.out x11_1 p524 q524
  cases e524
  replace hx524_0 := (HB.out.cell (World.block_lt_of_cell? w _ hx524_0)).trans hx524_0
  replace hx524_1 := (HB.out.cell (World.block_lt_of_cell? w _ hx524_1)).trans hx524_1
  replace p524 := eq_true p524
  replace q524 := eq_true q524
  have p525 : 0 ≤ (x11_1 : Int) := of_decide_eq_true qghlp_1
  have q525 : x11_1 < (l3.length : Int) := of_decide_eq_true qghlp_1
  obtain ⟨ad525, e525, hx525_0, hx525_1⟩ := at_T58 HR3.out x11_1 p525 q525
  cases e525
  replace hx525_0 := (HB.out.cell (World.block_lt_of_cell? w _ hx525_0)).trans hx525_0
  replace hx525_1 := (HB.out.cell (World.block_lt_of_cell? w _ hx525_1)).trans hx525_1
  replace p525 := eq_true p525
  replace q525 := eq_true q525
  have p526 : 0 ≤ (x11_1 : Int) := of_decide_eq_true qghlp_1
  have q526 : x11_1 < (l2.length : Int) := of_decide_eq_true qghlp_1
  obtain ⟨ad526, e526, hx526_0, hx526_1⟩ := at_T58 HR2.out x11_1 p526 q526
  obtain rfl : ad524 = ad526 := (by injection e526)
  replace hx526_0 := (HB.out.cell (World.block_lt_of_cell? w _ hx526_0)).trans hx526_0
  replace hx526_1 := (HB.out.cell (World.block_lt_of_cell? w _ hx526_1)).trans hx526_1
  replace p526 := eq_true p526
  replace q526 := eq_true q526
  have p527 : 0 ≤ (x11_1 : Int) := of_decide_eq_true qghlp_1
  have q527 : x11_1 < (l3.length : Int) := of_decide_eq_true qghlp_1
  obtain ⟨ad527, e527, hx527_0, hx527_1⟩ := at_T58 HR3.out x11_1 p527 q527
  obtain rfl : ad525 = ad527 := (by injection e527)
  replace hx527_0 := (HB.out.cell (World.block_lt_of_cell? w _ hx527_0)).trans hx527_0
  replace hx527_1 := (HB.out.cell (World.block_lt_of_cell? w _ hx527_1)).trans hx527_1
  replace p527 := eq_true p527
  replace q527 := eq_true q527
  have p528 : 0 ≤ (x11_1 : Int) := of_decide_eq_true qghlp_1
  have q528 : x11_1 < (l2.length : Int) := of_decide_eq_true qghlp_1
  obtain ⟨ad528, e528, hx528_0, hx528_1⟩ := at_T58 HR2.out x11_1 p528 q528
  obtain rfl : ad524 = ad528 := (by injection e528)
  replace hx528_0 := (HB.out.cell (World.block_lt_of_cell? w _ hx528_0)).trans hx528_0
  replace hx528_1 := (HB.out.cell (World.block_lt_of_cell? w _ hx528_1)).trans hx528_1
  replace p528 := eq_true p528
  replace q528 := eq_true q528
  have p529 : 0 ≤ (x11_1 : Int) := of_decide_eq_true qghlp_1
  have q529 : x11_1 < (l3.length : Int) := of_decide_eq_true qghlp_1
  obtain ⟨ad529, e529, hx529_0, hx529_1⟩ := at_T58 HR3.out x11_1 p529 q529
  obtain rfl : ad525 = ad529 := (by injection e529)
  replace hx529_0 := (HB.out.cell (World.block_lt_of_cell? w _ hx529_0)).trans hx529_0
  replace hx529_1 := (HB.out.cell (World.block_lt_of_cell? w _ hx529_1)).trans hx529_1
  replace p529 := eq_true p529
  replace q529 := eq_true q529
  have p530 : 0 ≤ (x11_1 : Int) := of_decide_eq_true qghlp_1
  have q530 : x11_1 < (l2.length : Int) := of_decide_eq_true qghlp_1
  obtain ⟨ad530, e530, hx530_0, hx530_1⟩ := at_T58 HR2.out x11_1 p530 q530
  obtain rfl : ad524 = ad530 := (by injection e530)
  replace hx530_0 := (HB.out.cell (World.block_lt_of_cell? w _ hx530_0)).trans hx530_0
  replace hx530_1 := (HB.out.cell (World.block_lt_of_cell? w _ hx530_1)).trans hx530_1
  replace p530 := eq_true p530
  replace q530 := eq_true q530
  have p531 : 0 ≤ (x11_1 : Int) := of_decide_eq_true qghlp_1
  have q531 : x11_1 < (l3.length : Int) := of_decide_eq_true qghlp_1
  obtain ⟨ad531, e531, hx531_0, hx531_1⟩ := at_T58 HR3.out x11_1 p531 q531
  obtain rfl : ad525 = ad531 := (by injection e531)
  replace hx531_0 := (HB.out.cell (World.block_lt_of_cell? w _ hx531_0)).trans hx531_0
  replace hx531_1 := (HB.out.cell (World.block_lt_of_cell? w _ hx531_1)).trans hx531_1
  replace p531 := eq_true p531
  replace q531 := eq_true q531
  go_wp2
  repeat (go_quiet (fail); try go_wp2)
  go_ret
  exact ⟨qghlp_2, qghlp_0⟩

end Go.Proofs.Ytcjgmofgfblmnaa.Q
