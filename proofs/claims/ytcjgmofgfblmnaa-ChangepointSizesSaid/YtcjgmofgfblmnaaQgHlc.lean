-- Laid by myprint.py (a program of this session's, over the kit's printer and with functions proved by hand)
import Derived.Test.YtcjgmofgfblmnaaTy
import Derived.Test.YtcjgmofgfblmnaaPw
namespace Go.Proofs.Ytcjgmofgfblmnaa.Q
open Go.RowKit Go.Proofs.YtcjgmofgfblmnaaW.PrintWords Go.Proofs.YtcjgmofgfblmnaaW.PrintLast Go.Proofs.YtcjgmofgfblmnaaW.PrintMore
attribute [local go_sem] max2_int min2_int max_two min_two max_three min_three max_four min_four   -- for this text's walks alone
set_option linter.unusedVariables false
set_option linter.unusedSimpArgs false

attribute [local go_sem high] eqA58
abbrev T3246 : Bool := true
abbrev F3246 : Bool := false
abbrev A3246_0 : Array Bool := #[F3246, F3246, F3246, F3246, F3246, F3246, F3246, F3246, F3246, F3246, F3246, F3246, F3246, F3246, F3246, F3246, F3246, F3246]
abbrev A3246_1 : Array Bool := #[T3246, F3246, F3246, F3246, F3246, F3246, F3246, F3246, F3246, F3246, F3246, F3246, F3246, F3246, F3246, F3246, F3246, F3246]
abbrev A3246_2 : Array Bool := #[T3246, T3246, F3246, F3246, F3246, F3246, F3246, F3246, F3246, F3246, F3246, F3246, F3246, F3246, F3246, F3246, F3246, F3246]
abbrev A3246_3 : Array Bool := #[T3246, T3246, T3246, F3246, F3246, F3246, F3246, F3246, F3246, F3246, F3246, F3246, F3246, F3246, F3246, F3246, F3246, F3246]
abbrev A3246_4 : Array Bool := #[T3246, T3246, T3246, T3246, F3246, F3246, F3246, F3246, F3246, F3246, F3246, F3246, F3246, F3246, F3246, F3246, F3246, F3246]
abbrev A3246_5 : Array Bool := #[T3246, T3246, T3246, T3246, T3246, F3246, F3246, F3246, F3246, F3246, F3246, F3246, F3246, F3246, F3246, F3246, F3246, F3246]
abbrev A3246_6 : Array Bool := #[T3246, T3246, T3246, T3246, T3246, T3246, F3246, F3246, F3246, F3246, F3246, F3246, F3246, F3246, F3246, F3246, F3246, F3246]
abbrev A3246_7 : Array Bool := #[T3246, T3246, T3246, T3246, T3246, T3246, F3246, F3246, T3246, F3246, F3246, F3246, F3246, F3246, F3246, F3246, F3246, F3246]
abbrev A3246_8 : Array Bool := #[T3246, T3246, T3246, T3246, T3246, T3246, F3246, F3246, T3246, T3246, F3246, F3246, F3246, F3246, F3246, F3246, F3246, F3246]
abbrev A3246_9 : Array Bool := #[T3246, T3246, T3246, T3246, T3246, T3246, F3246, F3246, T3246, T3246, T3246, F3246, F3246, F3246, F3246, F3246, F3246, F3246]
abbrev A3246_10 : Array Bool := #[T3246, T3246, T3246, T3246, T3246, T3246, F3246, F3246, T3246, T3246, T3246, T3246, F3246, F3246, F3246, F3246, F3246, F3246]
abbrev A3246_11 : Array Bool := #[T3246, T3246, T3246, T3246, T3246, T3246, T3246, F3246, T3246, T3246, T3246, T3246, F3246, F3246, F3246, F3246, F3246, F3246]
abbrev A3246_12 : Array Bool := #[T3246, T3246, T3246, T3246, T3246, T3246, T3246, T3246, T3246, T3246, T3246, T3246, F3246, F3246, F3246, F3246, F3246, F3246]
abbrev A3246_13 : Array Bool := #[T3246, T3246, T3246, T3246, T3246, T3246, T3246, T3246, T3246, T3246, T3246, T3246, T3246, F3246, F3246, F3246, F3246, F3246]
abbrev A3246_14 : Array Bool := #[T3246, T3246, T3246, T3246, T3246, T3246, T3246, T3246, T3246, T3246, T3246, T3246, T3246, T3246, F3246, F3246, F3246, F3246]
abbrev A3246_15 : Array Bool := #[T3246, T3246, T3246, T3246, T3246, T3246, T3246, T3246, T3246, T3246, T3246, T3246, T3246, T3246, T3246, F3246, F3246, F3246]
abbrev A3246_16 : Array Bool := #[T3246, T3246, T3246, T3246, T3246, T3246, T3246, T3246, T3246, T3246, T3246, T3246, T3246, T3246, T3246, T3246, F3246, F3246]
abbrev A3246_17 : Array Bool := #[T3246, T3246, T3246, T3246, T3246, T3246, T3246, T3246, T3246, T3246, T3246, T3246, T3246, T3246, T3246, T3246, T3246, F3246]
abbrev A3246_18 : Array Bool := #[T3246, T3246, T3246, T3246, T3246, T3246, T3246, T3246, T3246, T3246, T3246, T3246, T3246, T3246, T3246, T3246, T3246, T3246]
theorem qghlc_0 {p : Prop} (h : p := by repeat (first | (with_reducible first | exact HB.out | apply below_alloc | apply pw_below_drewN | apply below_drew1) | exact HB.out)) : p := h
theorem qghlc_1 {p : Prop} (h : p := by first | rfl | (simp [errW_none, errW_some] <;> rfl) | (simp [*, errW_none, errW_some] <;> rfl)) : p := h
theorem qghlc_2 {p : Prop} (h : p := by repeat (first | (with_reducible first | exact HB.out | apply below_alloc | apply pw_below_drewN | apply below_drew1 | refine below_set ?_ GE472.out) | exact HB.out)) : p := h
theorem qghlc_3 {p : Prop} (h : p := by first | (with_reducible assumption) | assumption) : p := h
theorem qghlc_4 {p : Prop} (h : p := by (with_reducible repeat (first | apply Kd.R_alloc | apply Kd.R_drewN | apply Kd.R_drew)); exact HO_3.out) : p := h
/-! ### sleuthlaw45_changes: function 22 -/
def sleuthlaw45_changes.l0 : Nat → List (S92) → List (S41) → Int → Int → Option ((List (S41)))
 | 0, _, _, _, _ => none
 | k + 1, x0, x3, x4, x5 => if x5 < (x0.length : Int) then (if x5 < 6 then (if 0 ≤ x5 then (if x3.length < 5864062014805 then (sleuthlaw45_changes.l0 k x0 (x3 ++ [(⟨wrap64 ((wrap64 (x4 + 1)) + (Int.tmod (mx (wrap64 ((rd_T92 x0 x5).f0)) (wrap64 (-(wrap64 ((rd_T92 x0 x5).f0))))) 16)), wrap64 ((rd_T92 x0 x5).f1), wrap64 ((rd_T92 x0 x5).f2)⟩ : S41)]) (wrap64 ((wrap64 (x4 + 1)) + (Int.tmod (mx (wrap64 ((rd_T92 x0 x5).f0)) (wrap64 (-(wrap64 ((rd_T92 x0 x5).f0))))) 16))) (wrap64 (x5 + 1))) else (none)) else (none)) else (some x3)) else (some x3)
def sleuthlaw45_changes.f (k : Nat) (l0 : List (S92)) : Option ((List (S41))) := sleuthlaw45_changes.l0 k l0 ([] : List (S41)) 0 0
theorem sleuthlaw45_changes.mono_l : ∀ k, (∀ y0 y1 y2 y3, LeO (sleuthlaw45_changes.l0 k y0 y1 y2 y3) (sleuthlaw45_changes.l0 (k + 1) y0 y1 y2 y3))
 | 0 => fun _ _ _ _ r h => by simp [sleuthlaw45_changes.l0] at h
 | k + 1 => by
  have ih0 := sleuthlaw45_changes.mono_l k
  ·intro y0 y1 y2 y3
   unfold sleuthlaw45_changes.l0
   repeat' first
   | (with_reducible exact ih0 _ _ _ _)
   | (with_reducible exact LeO.refl _)
   | (with_reducible exact LeO.none _)
   | (with_reducible refine LeO.ite ?_ ?_)
   | (with_reducible refine LeO.bind ?_ (fun _ => ?_))
   | exact ih0 _ _ _ _
   | exact LeO.none _
   | refine LeO.ite ?_ ?_
   | refine LeO.bind ?_ (fun _ => ?_)
theorem sleuthlaw45_changes.mono : ∀ a0 k, LeO (sleuthlaw45_changes.f k a0) (sleuthlaw45_changes.f (k + 1) a0) := by
 intro a0 k
 have ih0 := sleuthlaw45_changes.mono_l k
 unfold sleuthlaw45_changes.f
 repeat' first
   | (with_reducible exact ih0 _ _ _ _)
   | (with_reducible exact LeO.refl _)
   | (with_reducible exact LeO.none _)
   | (with_reducible refine LeO.ite ?_ ?_)
   | (with_reducible refine LeO.bind ?_ (fun _ => ?_))
   | exact ih0 _ _ _ _
   | exact LeO.none _
   | refine LeO.ite ?_ ?_
   | refine LeO.bind ?_ (fun _ => ?_)
def sleuthlaw45_changes.T8 : Bool × List (List Nat × List Nat) := (true, [([], []), ([], []), ([], []), ([], []), ([2, 3], [2, 3]), ([4], [4]), ([5], [5]), ([6], [6]), ([], []), ([], []), ([8, 9], [8, 9]), ([10], [10]), ([11], [11]), ([12], [12]), ([1, 7, 13], [1, 7, 13]), ([14], [14]), ([0, 15], [0, 15]), ([16, 16, 0, 1, 2, 3, 4, 5, 6, 7, 8, 9, 10, 11, 12, 13, 14, 15, 16], [0, 16])])
def sleuthlaw45_changes.B8 : List Nat := [0, 0, 0, 0, 12, 28, 60, 124, 0, 0, 768, 1792, 3840, 7936, 16382, 32766, 65535, 131071]
theorem sleuthlaw45_changes.tab8 : rtab .any (opsOf Try.f22 8) = sleuthlaw45_changes.T8 := by kernel_rfl
theorem sleuthlaw45_changes.bits8 : waitsOk sleuthlaw45_changes.T8.2 sleuthlaw45_changes.B8 = true := by kernel_rfl
set_option maxHeartbeats 8000000 in
set_option maxRecDepth 100000 in
theorem sleuthlaw45_changes.calls (k : Nat) (A0 : Option Addr) (c0 : Nat) (l0 : List (S92)) (r : List (S41)) (w : World) (hr0 : Kd.C k92 w A0 l0.length l0) (hc0 : l0.length ≤ c0) (h : sleuthlaw45_changes.f k l0 = some r) :
  Calls Try.prog 22 #[.slice A0 l0.length c0] w fun e w' => ∃ v0_ : Value, e = .returned (v0_) ∧ Kd.R k41 41 w' w.heap.size (fun _ => True) v0_ r ∧ Below w.heap.size w w' := by
 have hu41 := Try.underlying41
 have HR0 := Aside0.mk hr0
 have HC0 := Aside0.mk hc0
 clear hr0 hc0
 have HB := Aside0.mk (Below.refl w.heap.size w)
 have H : (sleuthlaw45_changes.l0 k l0 ([] : List (S41)) 0 0) = some r := h
 clear h
 have H' := Aside0.mk H
 clear H
 go_enter Try.func22, Try.ntmps22
 go_wp2
 go_loopg [3, 4, 5] k (fun kq v3 v4 v5 w' => ∃ (x3_1 : List (S41)) (x4_1 : Int) (x5_1 : Int), v4 = .int .i64 x4_1 ∧ v5 = .int .i64 x5_1 ∧ Aside0 (sleuthlaw45_changes.l0 kq l0 x3_1 x4_1 x5_1 = some r) ∧ Aside0 (kq ≤ k) ∧ Aside0 (Kd.R k41 41 w' w.heap.size (fun _ => True) v3 x3_1) ∧ Aside0 (Below w.heap.size w w'))
 case atStart => exact ⟨(([] : List (S41))), (0), (0), (by first | rfl | (simp; done) | (simp [*]; done)), (by first | rfl | (simp; done) | (simp [*]; done)), H', ⟨Nat.le_refl _⟩, ⟨by first | exact Kd.R_nil _ _ _ _ _ | exact Kd.N_nil _ _ _ _ _ | exact Kd.V_nil _ _ _ _ _ | exact Kd.Q_nil _ _ _ _ _ | exact Kd.S_nil _ _ _ _ _⟩, ⟨qghlc_0⟩⟩
 clear H'
 obtain ⟨x3_1, x4_1, x5_1, rfl, rfl, HA, HK1, HO_3, HB⟩ := hrel
 cases gk with
 | zero => exact absurd HA.out (by simp [sleuthlaw45_changes.l0])
 | succ k1 =>
  have H := HA.out
  clear HA
  simp only [sleuthlaw45_changes.l0] at H
  by_cases c2 : x5_1 < (l0.length : Int)
  rotate_left
  ·rw [if_neg c2] at H
   have c2b0 : decide (x5_1 < (l0.length : Int)) = false := decide_eq_false c2
   clear c2
   obtain rfl := Option.some.inj H
   go_wp2
   go_ret
   exact ⟨_, qghlc_1, qghlc_4, qghlc_0⟩
  rw [if_pos c2] at H
  have c2b0 : decide (x5_1 < (l0.length : Int)) = true := decide_eq_true c2
  clear c2
  by_cases c3 : x5_1 < 6
  rotate_left
  ·rw [if_neg c3] at H
   have c3b0 : decide (x5_1 < 6) = false := decide_eq_false c3
   clear c3
   obtain rfl := Option.some.inj H
   go_wp2
   go_ret
   exact ⟨_, qghlc_1, qghlc_4, qghlc_0⟩
  rw [if_pos c3] at H
  have c3b0 : decide (x5_1 < 6) = true := decide_eq_true c3
  clear c3
  by_cases c4 : 0 ≤ x5_1
  rotate_left
  ·rw [if_neg c4] at H
   exact absurd H (by simp)
  rw [if_pos c4] at H
  have c4b0 : decide (0 ≤ x5_1) = true := decide_eq_true c4
  clear c4
  obtain ⟨ji5, hji5⟩ : ∃ j_ : Int, (mx (wrap64 ((rd_T92 l0 x5_1).f0)) (wrap64 (-(wrap64 ((rd_T92 l0 x5_1).f0))))) = j_ := ⟨_, rfl⟩
  replace H : (if x3_1.length < 5864062014805 then (sleuthlaw45_changes.l0 k1 l0 (x3_1 ++ [(⟨wrap64 ((wrap64 (x4_1 + 1)) + (Int.tmod (ji5) 16)), wrap64 ((rd_T92 l0 x5_1).f1), wrap64 ((rd_T92 l0 x5_1).f2)⟩ : S41)]) (wrap64 ((wrap64 (x4_1 + 1)) + (Int.tmod (ji5) 16))) (wrap64 (x5_1 + 1))) else (none)) = some r := by first | (rw [hji5] at H; exact H) | (simp only [hji5] at H ⊢; exact H)
  have hji5_ : (if (wrap64 ((rd_T92 l0 x5_1).f0)) < (wrap64 (-(wrap64 ((rd_T92 l0 x5_1).f0)))) then (wrap64 (-(wrap64 ((rd_T92 l0 x5_1).f0)))) else (wrap64 ((rd_T92 l0 x5_1).f0))) = ji5 := hji5
  by_cases c6 : x3_1.length < 5864062014805
  rotate_left
  ·rw [if_neg c6] at H
   exact absurd H (by simp)
  rw [if_pos c6] at H
  have LMc6 := Aside0.mk c6
  clear c6
  obtain ⟨y469, hy469⟩ : ∃ y_ : List (S41), y_ = (x3_1 ++ [(⟨wrap64 ((wrap64 (x4_1 + 1)) + (Int.tmod (ji5) 16)), wrap64 ((rd_T92 l0 x5_1).f1), wrap64 ((rd_T92 l0 x5_1).f2)⟩ : S41)]) := ⟨_, rfl⟩
  replace H : (sleuthlaw45_changes.l0 k1 l0 y469 (wrap64 ((wrap64 (x4_1 + 1)) + (Int.tmod (ji5) 16))) (wrap64 (x5_1 + 1))) = some r := by first | (rw [hy469]; with_reducible exact H) | (have H2_ := (Option.bind_some _ _).symm.trans H; rw [hy469]; with_reducible exact H2_) | (have H2_ := (Option.bind_some _ _).symm.trans H; with_reducible exact H2_) | with_reducible exact H | (rw [hy469]; exact H) | exact H
  have Ny469 := Aside0.mk hy469
  clear hy469
  have H' := Aside0.mk H
  clear H
  have p466 : 0 ≤ (x5_1 : Int) := of_decide_eq_true qghlc_3
  have q466 : x5_1 < (l0.length : Int) := of_decide_eq_true qghlc_3
  obtain ⟨ad466, e466, hx466_0, hx466_1, hx466_2⟩ := at_T92 HR0.out x5_1 p466 q466
  cases e466
  replace hx466_0 := (HB.out.cell (World.block_lt_of_cell? w _ hx466_0)).trans hx466_0
  replace hx466_1 := (HB.out.cell (World.block_lt_of_cell? w _ hx466_1)).trans hx466_1
  replace hx466_2 := (HB.out.cell (World.block_lt_of_cell? w _ hx466_2)).trans hx466_2
  replace p466 := eq_true p466
  replace q466 := eq_true q466
  try go_wp2
  have n0_ := Aside0.mk (Kd.R_drew HO_3.out)
  have n1_ := Aside0.mk (below_drew1 HB.out)
  clear HO_3
  clear HB
  have HO_3 := n0_
  have HB := n1_
  clear n0_ n1_
  have p467 : 0 ≤ (x5_1 : Int) := of_decide_eq_true qghlc_3
  have q467 : x5_1 < (l0.length : Int) := of_decide_eq_true qghlc_3
  obtain ⟨ad467, e467, hx467_0, hx467_1, hx467_2⟩ := at_T92 HR0.out x5_1 p467 q467
  have hw467_2 := hx467_2
  have hw467_1 := hx467_1
  have hw467_0 := hx467_0
  obtain rfl : ad466 = ad467 := (by injection e467)
  replace hx467_0 := (HB.out.cell (World.block_lt_of_cell? w _ hx467_0)).trans hx467_0
  replace hx467_1 := (HB.out.cell (World.block_lt_of_cell? w _ hx467_1)).trans hx467_1
  replace hx467_2 := (HB.out.cell (World.block_lt_of_cell? w _ hx467_2)).trans hx467_2
  replace p467 := eq_true p467
  replace q467 := eq_true q467
  have p468 : 0 ≤ (x5_1 : Int) := of_decide_eq_true qghlc_3
  have q468 : x5_1 < (l0.length : Int) := of_decide_eq_true qghlc_3
  obtain ⟨ad468, e468, hx468_0, hx468_1, hx468_2⟩ := at_T92 HR0.out x5_1 p468 q468
  have hw468_2 := hx468_2
  have hw468_1 := hx468_1
  have hw468_0 := hx468_0
  obtain rfl : ad466 = ad468 := (by injection e468)
  replace hx468_0 := (HB.out.cell (World.block_lt_of_cell? w _ hx468_0)).trans hx468_0
  replace hx468_1 := (HB.out.cell (World.block_lt_of_cell? w _ hx468_1)).trans hx468_1
  replace hx468_2 := (HB.out.cell (World.block_lt_of_cell? w _ hx468_2)).trans hx468_2
  replace p468 := eq_true p468
  replace q468 := eq_true q468
  refine start_ (n := 18) (S := fun w' => w'.cell? (ad466.add ((x5_1).toNat * 3)) = some (.int .i8 ((rd_T92 l0 x5_1).f0)) ∧ w'.cell? ⟨(ad466.add ((x5_1).toNat * 3)).block, (ad466.add ((x5_1).toNat * 3)).off + 1, none⟩ = some (.int .i8 ((rd_T92 l0 x5_1).f1)) ∧ w'.cell? ⟨(ad466.add ((x5_1).toNat * 3)).block, (ad466.add ((x5_1).toNat * 3)).off + 2, none⟩ = some (.int .i8 ((rd_T92 l0 x5_1).f2)) ∧ w'.cell? (ad466.add ((x5_1).toNat * 3)) = some (.int .i8 ((rd_T92 l0 x5_1).f0)) ∧ w'.cell? ⟨(ad466.add ((x5_1).toNat * 3)).block, (ad466.add ((x5_1).toNat * 3)).off + 1, none⟩ = some (.int .i8 ((rd_T92 l0 x5_1).f1)) ∧ w'.cell? ⟨(ad466.add ((x5_1).toNat * 3)).block, (ad466.add ((x5_1).toNat * 3)).off + 2, none⟩ = some (.int .i8 ((rd_T92 l0 x5_1).f2))) (ds := []) A3246_0 (by kernel_rfl) rfl rfl ⟨((HB.out.cell (World.block_lt_of_cell? w _ hw467_0)).trans hw467_0), ((HB.out.cell (World.block_lt_of_cell? w _ hw467_1)).trans hw467_1), ((HB.out.cell (World.block_lt_of_cell? w _ hw467_2)).trans hw467_2), ((HB.out.cell (World.block_lt_of_cell? w _ hw468_0)).trans hw468_0), ((HB.out.cell (World.block_lt_of_cell? w _ hw468_1)).trans hw468_1), ((HB.out.cell (World.block_lt_of_cell? w _ hw468_2)).trans hw468_2)⟩ (fun hHeld => ?_); refine with_tabW sleuthlaw45_changes.tab8 sleuthlaw45_changes.bits8 (fun HT_ HW_ => ?_)
  generalize wr.drew = w7 at HO_3 HB hx467_0 hx467_1 hx467_2 hx468_0 hx468_1 hx468_2 hHeld ⊢
  refine pA_ 0 31 A3246_1 HT_ ?_
  refine pA_ 1 32 A3246_2 HT_ ?_
  refine pA_ 2 33 A3246_3 HT_ ?_
  refine pA_ 3 34 A3246_4 HT_ ?_
  refine pA_ 4 35 A3246_5 HT_ ?_
  refine pA_ 5 36 A3246_6 HT_ ?_
  refine pA_ 8 39 A3246_7 HT_ ?_
  refine pA_ 9 40 A3246_8 HT_ ?_
  refine pA_ 10 41 A3246_9 HT_ ?_
  refine pA_ 11 42 A3246_10 HT_ ?_
  refine take_ (i := 6) (N := some 37) (v := ?_) (a' := ?_) A3246_11 rfl rfl (take_ofW HT_.out HW_.out (by kernel_rfl)) (fun _ _ _ h => h) (Or.inl ⟨by rfl, ?_⟩) hHeld ?_ ?_
  rotate_left
  ·rintro w' ⟨s0, s1, s2, s3, s4, s5⟩
   go_simp
   with_reducible rfl
  rotate_left
  ·simp only [Act.put, List.setIfInBounds_toArray, List.set_cons_zero, List.set_cons_succ, i64_w, i32_w]
   rfl
  refine pA_ 7 38 A3246_12 HT_ ?_
  refine take_ (i := 12) (N := some 43) (v := ?_) (a' := ?_) A3246_13 rfl rfl (take_ofW HT_.out HW_.out (by kernel_rfl)) (fun _ _ _ h => h) (Or.inl ⟨by rfl, ?_⟩) hHeld ?_ ?_
  rotate_left
  ·rintro w' ⟨s0, s1, s2, s3, s4, s5⟩
   go_simp
   with_reducible rfl
  rotate_left
  ·simp only [Act.put, List.setIfInBounds_toArray, List.set_cons_zero, List.set_cons_succ, i64_w, i32_w]
   rfl
  refine pA_ 13 44 A3246_14 HT_ ?_
  refine pA_ 14 45 A3246_15 HT_ ?_
  refine one_ (i := 15) (N := some 46) A3246_16 rfl rfl (one_of HT_.out (by kernel_rfl)) (by decide) (fun K hK => ?_)
  refine value_ (w1 := ?_) (v := ?_) (by rfl) rfl ?_ ?_
  rotate_left 2
  ·go_simp
   constructor
   ·rfl
   ·rfl
  refine hK.out _ _ ⟨(World.cell?_alloc_lt _ _ _ (World.block_lt_of_cell? _ _ (((HB.out.cell (World.block_lt_of_cell? w _ hw467_0)).trans hw467_0)))).trans (((HB.out.cell (World.block_lt_of_cell? w _ hw467_0)).trans hw467_0)), (World.cell?_alloc_lt _ _ _ (World.block_lt_of_cell? _ _ (((HB.out.cell (World.block_lt_of_cell? w _ hw467_1)).trans hw467_1)))).trans (((HB.out.cell (World.block_lt_of_cell? w _ hw467_1)).trans hw467_1)), (World.cell?_alloc_lt _ _ _ (World.block_lt_of_cell? _ _ (((HB.out.cell (World.block_lt_of_cell? w _ hw467_2)).trans hw467_2)))).trans (((HB.out.cell (World.block_lt_of_cell? w _ hw467_2)).trans hw467_2)), (World.cell?_alloc_lt _ _ _ (World.block_lt_of_cell? _ _ (((HB.out.cell (World.block_lt_of_cell? w _ hw468_0)).trans hw468_0)))).trans (((HB.out.cell (World.block_lt_of_cell? w _ hw468_0)).trans hw468_0)), (World.cell?_alloc_lt _ _ _ (World.block_lt_of_cell? _ _ (((HB.out.cell (World.block_lt_of_cell? w _ hw468_1)).trans hw468_1)))).trans (((HB.out.cell (World.block_lt_of_cell? w _ hw468_1)).trans hw468_1)), (World.cell?_alloc_lt _ _ _ (World.block_lt_of_cell? _ _ (((HB.out.cell (World.block_lt_of_cell? w _ hw468_2)).trans hw468_2)))).trans (((HB.out.cell (World.block_lt_of_cell? w _ hw468_2)).trans hw468_2))⟩ (fun hHeld => ?_)
  clear hK K
  refine norm_ (a' := ?_) ?_ ?_
  rotate_left
  ·show Act.put _ (some 46) _ = _
   simp only [Act.put, List.setIfInBounds_toArray, List.set_cons_zero, List.set_cons_succ, i64_w, i32_w]
   rfl
  refine one_ (i := 16) (N := some 47) A3246_17 rfl rfl (one_of HT_.out (by kernel_rfl)) (by decide) (fun K hK => ?_)
  refine Kd.R_append_step k41 (w0 := w) w.heap.size (by rfl) (.tmp 31) (.tmp 46) 30 41 (.agg #[(.int .i64 0), (.int .i64 0), (.int .i64 0)]) 24 rfl Try.underlying30 info41 rfl (by decide) (by omega) u3 x3_1 (⟨wrap64 ((wrap64 (x4_1 + 1)) + (Int.tmod (ji5) 16)), wrap64 ((rd_T92 l0 x5_1).f1), wrap64 ((rd_T92 l0 x5_1).f2)⟩ : S41) [.int .i64 (wrap64 ((wrap64 (x4_1 + 1)) + (Int.tmod (ji5) 16))), .int .i64 (wrap64 ((rd_T92 l0 x5_1).f1)), .int .i64 (wrap64 ((rd_T92 l0 x5_1).f2))] (fun _ => True) (fun _ => False) rfl rfl ?aP (fun _ hk => hk.elim) ?aF ?aO ?aB ?aS ?aL ?_
  (case aP => exact k41_mkM _ _ _ (⟨wrap64 ((wrap64 (x4_1 + 1)) + (Int.tmod (ji5) 16)), wrap64 ((rd_T92 l0 x5_1).f1), wrap64 ((rd_T92 l0 x5_1).f2)⟩ : S41))
  (case aB => exact qghlc_0)
  (case aF => exact (fun _ _ => trivial))
  (case aO => exact qghlc_4)
  (case aS => exact (below_size qghlc_0))
  (case aL => have := LMc6.out; omega)
  intro v470 w8 ho hb hg hat
  rw [← Ny469.out] at ho
  have n0_ := Aside0.mk (hb)
  have n1_ := Aside0.mk (ho)
  clear HB
  clear HO_3
  have HB := n0_
  have HO471 := n1_
  clear n0_ n1_
  clear ho hb hg hat
  refine hK.out _ _ ⟨((HB.out.cell (World.block_lt_of_cell? w _ hw467_0)).trans hw467_0), ((HB.out.cell (World.block_lt_of_cell? w _ hw467_1)).trans hw467_1), ((HB.out.cell (World.block_lt_of_cell? w _ hw467_2)).trans hw467_2), ((HB.out.cell (World.block_lt_of_cell? w _ hw468_0)).trans hw468_0), ((HB.out.cell (World.block_lt_of_cell? w _ hw468_1)).trans hw468_1), ((HB.out.cell (World.block_lt_of_cell? w _ hw468_2)).trans hw468_2)⟩ (fun hHeld => ?_)
  clear hK K
  refine norm_ (a' := ?_) ?_ ?_
  rotate_left
  ·show Act.put _ (some 47) _ = _
   simp only [Act.put, List.setIfInBounds_toArray, List.set_cons_zero, List.set_cons_succ, i64_w, i32_w]
   rfl
  refine pA_ 17 3 A3246_18 HT_ ?_
  refine done_ (done_of HT_.out (by kernel_rfl)) ?_
  try go_wp2
  go_roundg k1
  case measure => have := HK1.out; omega
  case rel => exact ⟨(y469), (wrap64 ((wrap64 (x4_1 + 1)) + (Int.tmod (ji5) 16))), (wrap64 (x5_1 + 1)), (by first | rfl | (simp; done) | (simp only [← hji5] <;> (first | rfl | simp)) | (simp [*]; done)), (by first | rfl | (simp; done) | (simp [*]; done)), H', ⟨by have := HK1.out; omega⟩, ⟨by (with_reducible repeat (first | apply Kd.R_alloc | apply Kd.R_drewN | apply Kd.R_drew)); exact HO471.out⟩, ⟨qghlc_0⟩⟩

/-! ### sleuthlaw45_direction: function 25 -/
def sleuthlaw45_direction.f (a0_0 : Int) (a0_1 : Int) (a0_2 : Int) : Option (Int) := if a0_2 > a0_1 then (some 1) else (if a0_2 < a0_1 then (some (-1)) else (some 0))
set_option maxHeartbeats 8000000 in
set_option maxRecDepth 100000 in
theorem sleuthlaw45_direction.calls (a0_0 : Int) (a0_1 : Int) (a0_2 : Int) (r : Int) (w : World) (h : sleuthlaw45_direction.f a0_0 a0_1 a0_2 = some r) :
  Calls Try.prog 25 #[.agg #[.int .i64 a0_0, .int .i64 a0_1, .int .i64 a0_2]] w fun e w' => e = .returned (.int .i64 r) ∧ Below w.heap.size w w' := by
 have hu41 := Try.underlying41
 have HB := Aside0.mk (Below.refl w.heap.size w)
 have H : (if a0_2 > a0_1 then (some 1) else (if a0_2 < a0_1 then (some (-1)) else (some 0))) = some r := h
 clear h
 by_cases c2 : a0_2 > a0_1
 ·rw [if_pos c2] at H
  have c2b0 : decide (a0_1 < a0_2) = true := decide_eq_true c2
  clear c2
  obtain rfl := Option.some.inj H
  go_enter Try.func25, Try.ntmps25
  go_wp2_with (first | ((with_reducible refine gate_dst (N := 1) rfl ?_); refine box_event ?hg (N := 1) ?hd (cs := #[.int .i64 a0_0, .int .i64 a0_1, .int .i64 a0_2]) (t := 41) ?hr ?_; (case hd => rfl); (case hg => rfl); (case hr => first | (go_simp; done) | (go_simp; rfl)); intro gb472 hg w3 hbox hb; have n0_ := Aside0.mk (below_step qghlc_0 hb); have n1_ := Aside0.mk (hbox); have n2_ := Aside0.mk ((by rw [hg]; exact (below_size qghlc_0) : w.heap.size ≤ gb472)); have n3_ := Aside0.mk ((by rw [hg]; exact (below_size qghlc_0) : w.heap.size ≤ gb472)); clear HB; have HB := n0_; have BK472 := n1_; have GW472 := n2_; have GE472 := n3_; clear n0_ n1_ n2_ n3_; clear hb hbox hg; have hcz4_0 : w3.cell? ⟨gb472, 0, none⟩ = some (.int .i64 a0_0) := (blk_cell BK472.out 0).trans rfl; have hcz4_1 : w3.cell? ⟨gb472, 1, none⟩ = some (.int .i64 a0_1) := (blk_cell BK472.out 1).trans rfl; have hcz4_2 : w3.cell? ⟨gb472, 2, none⟩ = some (.int .i64 a0_2) := (blk_cell BK472.out 2).trans rfl; have hfz4_0 := blk_frozen BK472.out 0; have hfz4_1 := blk_frozen BK472.out 1; have hfz4_2 := blk_frozen BK472.out 2))
  go_ret
  exact ⟨qghlc_1, qghlc_2⟩
 rw [if_neg c2] at H
 have c2b0 : decide (a0_1 < a0_2) = false := decide_eq_false c2
 clear c2
 by_cases c5 : a0_2 < a0_1
 ·rw [if_pos c5] at H
  have c5b0 : decide (a0_2 < a0_1) = true := decide_eq_true c5
  clear c5
  obtain rfl := Option.some.inj H
  go_enter Try.func25, Try.ntmps25
  go_wp2_with (first | ((with_reducible refine gate_dst (N := 1) rfl ?_); refine box_event ?hg (N := 1) ?hd (cs := #[.int .i64 a0_0, .int .i64 a0_1, .int .i64 a0_2]) (t := 41) ?hr ?_; (case hd => rfl); (case hg => rfl); (case hr => first | (go_simp; done) | (go_simp; rfl)); intro gb472 hg w6 hbox hb; have n0_ := Aside0.mk (below_step qghlc_0 hb); have n1_ := Aside0.mk (hbox); have n2_ := Aside0.mk ((by rw [hg]; exact (below_size qghlc_0) : w.heap.size ≤ gb472)); have n3_ := Aside0.mk ((by rw [hg]; exact (below_size qghlc_0) : w.heap.size ≤ gb472)); clear HB; have HB := n0_; have BK472 := n1_; have GW472 := n2_; have GE472 := n3_; clear n0_ n1_ n2_ n3_; clear hb hbox hg; have hcz7_0 : w6.cell? ⟨gb472, 0, none⟩ = some (.int .i64 a0_0) := (blk_cell BK472.out 0).trans rfl; have hcz7_1 : w6.cell? ⟨gb472, 1, none⟩ = some (.int .i64 a0_1) := (blk_cell BK472.out 1).trans rfl; have hcz7_2 : w6.cell? ⟨gb472, 2, none⟩ = some (.int .i64 a0_2) := (blk_cell BK472.out 2).trans rfl; have hfz7_0 := blk_frozen BK472.out 0; have hfz7_1 := blk_frozen BK472.out 1; have hfz7_2 := blk_frozen BK472.out 2))
  go_ret
  exact ⟨qghlc_1, qghlc_2⟩
 rw [if_neg c5] at H
 have c5b0 : decide (a0_2 < a0_1) = false := decide_eq_false c5
 clear c5
 obtain rfl := Option.some.inj H
 go_enter Try.func25, Try.ntmps25
 go_wp2_with (first | ((with_reducible refine gate_dst (N := 1) rfl ?_); refine box_event ?hg (N := 1) ?hd (cs := #[.int .i64 a0_0, .int .i64 a0_1, .int .i64 a0_2]) (t := 41) ?hr ?_; (case hd => rfl); (case hg => rfl); (case hr => first | (go_simp; done) | (go_simp; rfl)); intro gb472 hg w8 hbox hb; have n0_ := Aside0.mk (below_step qghlc_0 hb); have n1_ := Aside0.mk (hbox); have n2_ := Aside0.mk ((by rw [hg]; exact (below_size qghlc_0) : w.heap.size ≤ gb472)); have n3_ := Aside0.mk ((by rw [hg]; exact (below_size qghlc_0) : w.heap.size ≤ gb472)); clear HB; have HB := n0_; have BK472 := n1_; have GW472 := n2_; have GE472 := n3_; clear n0_ n1_ n2_ n3_; clear hb hbox hg; have hcz9_0 : w8.cell? ⟨gb472, 0, none⟩ = some (.int .i64 a0_0) := (blk_cell BK472.out 0).trans rfl; have hcz9_1 : w8.cell? ⟨gb472, 1, none⟩ = some (.int .i64 a0_1) := (blk_cell BK472.out 1).trans rfl; have hcz9_2 : w8.cell? ⟨gb472, 2, none⟩ = some (.int .i64 a0_2) := (blk_cell BK472.out 2).trans rfl; have hfz9_0 := blk_frozen BK472.out 0; have hfz9_1 := blk_frozen BK472.out 1; have hfz9_2 := blk_frozen BK472.out 2))
 go_ret
 exact ⟨qghlc_1, qghlc_2⟩


end Go.Proofs.Ytcjgmofgfblmnaa.Q
