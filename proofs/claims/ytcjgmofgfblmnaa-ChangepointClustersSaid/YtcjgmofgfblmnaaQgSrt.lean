-- Laid by myprint.py (a program of this session's, over the kit's printer and with functions proved by hand)
import Derived.Test.YtcjgmofgfblmnaaTy
import Derived.Test.YtcjgmofgfblmnaaPw
import Derived.Test.YtcjgmofgfblmnaaRws
namespace Go.Proofs.Ytcjgmofgfblmnaa.Q
open Go.RowKit Go.Proofs.YtcjgmofgfblmnaaW.PrintWords Go.Proofs.YtcjgmofgfblmnaaW.PrintLast Go.Proofs.YtcjgmofgfblmnaaW.PrintMore
attribute [local go_sem] max2_int min2_int max_two min_two max_three min_three max_four min_four   -- for this text's walks alone
set_option linter.unusedVariables false
set_option linter.unusedSimpArgs false

abbrev T99993 : Bool := true
abbrev F99993 : Bool := false
abbrev A99993_0 : Array Bool := #[F99993, F99993, F99993, F99993, F99993, F99993, F99993, F99993, F99993, F99993, F99993, F99993, F99993, F99993]
abbrev A99993_1 : Array Bool := #[T99993, F99993, F99993, F99993, F99993, F99993, F99993, F99993, F99993, F99993, F99993, F99993, F99993, F99993]
abbrev A99993_2 : Array Bool := #[T99993, T99993, F99993, F99993, F99993, F99993, F99993, F99993, F99993, F99993, F99993, F99993, F99993, F99993]
abbrev A99993_3 : Array Bool := #[T99993, T99993, T99993, F99993, F99993, F99993, F99993, F99993, F99993, F99993, F99993, F99993, F99993, F99993]
abbrev A99993_4 : Array Bool := #[T99993, T99993, T99993, T99993, F99993, F99993, F99993, F99993, F99993, F99993, F99993, F99993, F99993, F99993]
abbrev A99993_5 : Array Bool := #[T99993, T99993, T99993, T99993, T99993, F99993, F99993, F99993, F99993, F99993, F99993, F99993, F99993, F99993]
abbrev A99993_6 : Array Bool := #[T99993, T99993, T99993, T99993, T99993, T99993, F99993, F99993, F99993, F99993, F99993, F99993, F99993, F99993]
abbrev A99993_7 : Array Bool := #[T99993, T99993, T99993, T99993, T99993, T99993, T99993, F99993, F99993, F99993, F99993, F99993, F99993, F99993]
abbrev A99993_8 : Array Bool := #[T99993, T99993, T99993, T99993, T99993, T99993, T99993, T99993, F99993, F99993, F99993, F99993, F99993, F99993]
abbrev A99993_9 : Array Bool := #[T99993, T99993, T99993, T99993, T99993, T99993, T99993, T99993, T99993, F99993, F99993, F99993, F99993, F99993]
abbrev A99993_10 : Array Bool := #[T99993, T99993, T99993, T99993, T99993, T99993, T99993, T99993, T99993, T99993, F99993, F99993, F99993, F99993]
abbrev A99993_11 : Array Bool := #[T99993, T99993, T99993, T99993, T99993, T99993, T99993, T99993, T99993, T99993, T99993, F99993, F99993, F99993]
abbrev A99993_12 : Array Bool := #[T99993, T99993, T99993, T99993, T99993, T99993, T99993, T99993, T99993, T99993, T99993, T99993, F99993, F99993]
abbrev A99993_13 : Array Bool := #[T99993, T99993, T99993, T99993, T99993, T99993, T99993, T99993, T99993, T99993, T99993, T99993, T99993, F99993]
abbrev A99993_14 : Array Bool := #[T99993, T99993, T99993, T99993, T99993, T99993, T99993, T99993, T99993, T99993, T99993, T99993, T99993, T99993]
abbrev A99993_15 : Array Bool := #[F99993, F99993, F99993, F99993, F99993, F99993, F99993, F99993, F99993, F99993, F99993, F99993, F99993, F99993, F99993, F99993]
abbrev A99993_16 : Array Bool := #[F99993, T99993, F99993, F99993, F99993, F99993, F99993, F99993, F99993, F99993, F99993, F99993, F99993, F99993, F99993, F99993]
abbrev A99993_17 : Array Bool := #[F99993, T99993, T99993, F99993, F99993, F99993, F99993, F99993, F99993, F99993, F99993, F99993, F99993, F99993, F99993, F99993]
abbrev A99993_18 : Array Bool := #[F99993, T99993, T99993, T99993, F99993, F99993, F99993, F99993, F99993, F99993, F99993, F99993, F99993, F99993, F99993, F99993]
abbrev A99993_19 : Array Bool := #[F99993, T99993, T99993, T99993, F99993, T99993, F99993, F99993, F99993, F99993, F99993, F99993, F99993, F99993, F99993, F99993]
abbrev A99993_20 : Array Bool := #[F99993, T99993, T99993, T99993, F99993, T99993, T99993, F99993, F99993, F99993, F99993, F99993, F99993, F99993, F99993, F99993]
abbrev A99993_21 : Array Bool := #[F99993, T99993, T99993, T99993, F99993, T99993, T99993, T99993, F99993, F99993, F99993, F99993, F99993, F99993, F99993, F99993]
abbrev A99993_22 : Array Bool := #[F99993, T99993, T99993, T99993, F99993, T99993, T99993, T99993, F99993, F99993, F99993, T99993, F99993, F99993, F99993, F99993]
abbrev A99993_23 : Array Bool := #[F99993, T99993, T99993, T99993, F99993, T99993, T99993, T99993, F99993, F99993, F99993, T99993, T99993, F99993, F99993, F99993]
abbrev A99993_24 : Array Bool := #[F99993, T99993, T99993, T99993, F99993, T99993, T99993, T99993, F99993, F99993, F99993, T99993, T99993, T99993, F99993, F99993]
abbrev A99993_25 : Array Bool := #[F99993, T99993, T99993, T99993, F99993, T99993, T99993, T99993, T99993, F99993, F99993, T99993, T99993, T99993, F99993, F99993]
abbrev A99993_26 : Array Bool := #[T99993, T99993, T99993, T99993, T99993, T99993, T99993, T99993, T99993, T99993, F99993, T99993, T99993, T99993, F99993, F99993]
abbrev A99993_27 : Array Bool := #[T99993, T99993, T99993, T99993, F99993, T99993, T99993, T99993, T99993, F99993, F99993, T99993, T99993, T99993, F99993, F99993]
abbrev A99993_28 : Array Bool := #[F99993, T99993, T99993, T99993, F99993, T99993, T99993, T99993, T99993, T99993, F99993, T99993, T99993, T99993, F99993, F99993]
abbrev A99993_29 : Array Bool := #[T99993, T99993, T99993, T99993, T99993, T99993, T99993, T99993, T99993, F99993, F99993, T99993, T99993, T99993, F99993, F99993]
abbrev A99993_30 : Array Bool := #[T99993, T99993, T99993, T99993, F99993, T99993, T99993, T99993, T99993, T99993, F99993, T99993, T99993, T99993, F99993, F99993]
abbrev A99993_31 : Array Bool := #[T99993, T99993, T99993, T99993, T99993, T99993, T99993, T99993, T99993, T99993, T99993, T99993, T99993, T99993, F99993, F99993]
abbrev A99993_32 : Array Bool := #[T99993, T99993, T99993, T99993, T99993, T99993, T99993, T99993, T99993, T99993, T99993, T99993, T99993, T99993, T99993, F99993]
abbrev A99993_33 : Array Bool := #[T99993, T99993, T99993, T99993, T99993, T99993, T99993, T99993, T99993, T99993, T99993, T99993, T99993, T99993, T99993, T99993]
abbrev A99993_34 : Array Bool := #[T99993, T99993, T99993, T99993, T99993, T99993, T99993, F99993, T99993, F99993, F99993, F99993, F99993, F99993]
abbrev A99993_35 : Array Bool := #[T99993, T99993, T99993, T99993, T99993, T99993, T99993, F99993, T99993, T99993, F99993, F99993, F99993, F99993]
abbrev A99993_36 : Array Bool := #[T99993, T99993, T99993, T99993, T99993, T99993, T99993, F99993, T99993, T99993, T99993, F99993, F99993, F99993]
theorem qgsrt_0 {p : Prop} (h : p := by repeat (first | (with_reducible first | exact HB.out | apply below_alloc | apply pw_below_drewN | apply below_drew1) | exact HB.out)) : p := h
theorem qgsrt_1 {p : Prop} (h : p := by (with_reducible repeat (first | apply Kd.R_alloc | apply Kd.R_drewN | apply Kd.R_drew)); exact HO_3.out) : p := h
theorem qgsrt_2 {p : Prop} (h : p := by first | (with_reducible assumption) | assumption) : p := h
theorem qgsrt_23 {p : Prop} (h : p := by first | rfl | (simp; done) | (simp [*]; done)) : p := h
/-! ### sleuthref05_Sorted: function 28 -/
mutual
def sleuthref05_Sorted.l0 : Nat → List Int → List Int → Int → Option (List Int)
 | 0, _, _, _ => none
 | k + 1, x0, x3, x4 => if x4 < (x0.length : Int) then (sleuthref05_Sorted.l1 k x0 x3 x4 (x3.length : Int)) else (some x3)
def sleuthref05_Sorted.l1 : Nat → List Int → List Int → Int → Int → Option (List Int)
 | 0, _, _, _, _ => none
 | k + 1, x0, x3, x4, x5 => if x5 > 0 then (if 0 ≤ (wrap64 (x5 - 1)) then (if (wrap64 (x5 - 1)) < (x3.length : Int) then (if 0 ≤ x4 then (if x4 < (x0.length : Int) then (if (rd x3 (wrap64 (x5 - 1))) > (rd x0 x4) then (sleuthref05_Sorted.l1 k x0 x3 x4 (wrap64 (x5 - 1))) else (if (rd x3 (wrap64 (x5 - 1))) = (rd x0 x4) then (sleuthref05_Sorted.l0 k x0 x3 (wrap64 (x4 + 1))) else ((some (([] : List Int) : List Int)).bind fun y381 => (if 0 ≤ x5 then (if x5 ≤ (x3.length : Int) then ((some (x3.take (x5 : Int).toNat : List Int)).bind fun y384 => (if y381.length + y384.length < 17592186044416 then ((some (y381 ++ y384 : List Int)).bind fun y388 => ((some (([rd x0 x4] : List Int) : List Int)).bind fun y392 => (if y388.length + y392.length < 17592186044416 then ((some (y388 ++ y392 : List Int)).bind fun y395 => ((some (x3.drop (x5 : Int).toNat : List Int)).bind fun y398 => (if y395.length + y398.length < 17592186044416 then (sleuthref05_Sorted.l0 k x0 (y395 ++ y398) (wrap64 (x4 + 1))) else (none)))) else (none)))) else (none))) else (none)) else (none))))) else (none)) else (none)) else (none)) else (none)) else ((some (([] : List Int) : List Int)).bind fun y405 => (if 0 ≤ x5 then (if x5 ≤ (x3.length : Int) then ((some (x3.take (x5 : Int).toNat : List Int)).bind fun y408 => (if y405.length + y408.length < 17592186044416 then ((some (y405 ++ y408 : List Int)).bind fun y412 => (if 0 ≤ x4 then (if x4 < (x0.length : Int) then ((some (([rd x0 x4] : List Int) : List Int)).bind fun y416 => (if y412.length + y416.length < 17592186044416 then ((some (y412 ++ y416 : List Int)).bind fun y419 => ((some (x3.drop (x5 : Int).toNat : List Int)).bind fun y422 => (if y419.length + y422.length < 17592186044416 then (sleuthref05_Sorted.l0 k x0 (y419 ++ y422) (wrap64 (x4 + 1))) else (none)))) else (none))) else (none)) else (none))) else (none))) else (none)) else (none)))
end
def sleuthref05_Sorted.f (k : Nat) (l0 : List Int) : Option (List Int) := sleuthref05_Sorted.l0 k l0 ([] : List Int) 0
theorem sleuthref05_Sorted.mono_l : ∀ k, (∀ y0 y1 y2, LeO (sleuthref05_Sorted.l0 k y0 y1 y2) (sleuthref05_Sorted.l0 (k + 1) y0 y1 y2)) ∧ (∀ y0 y1 y2 y3, LeO (sleuthref05_Sorted.l1 k y0 y1 y2 y3) (sleuthref05_Sorted.l1 (k + 1) y0 y1 y2 y3))
 | 0 => ⟨fun _ _ _ r h => by simp [sleuthref05_Sorted.l0] at h, fun _ _ _ _ r h => by simp [sleuthref05_Sorted.l1] at h⟩
 | k + 1 => by
  obtain ⟨ih0, ih1⟩ := sleuthref05_Sorted.mono_l k
  refine ⟨?_, ?_⟩
  ·intro y0 y1 y2
   unfold sleuthref05_Sorted.l0
   repeat' first
   | (with_reducible exact ih0 _ _ _)
   | (with_reducible exact ih1 _ _ _ _)
   | (with_reducible exact LeO.refl _)
   | (with_reducible exact LeO.none _)
   | (with_reducible refine LeO.ite ?_ ?_)
   | (with_reducible refine LeO.bind ?_ (fun _ => ?_))
   | exact ih0 _ _ _
   | exact ih1 _ _ _ _
   | exact LeO.none _
   | refine LeO.ite ?_ ?_
   | refine LeO.bind ?_ (fun _ => ?_)
  ·intro y0 y1 y2 y3
   unfold sleuthref05_Sorted.l1
   repeat' first
   | (with_reducible exact ih0 _ _ _)
   | (with_reducible exact ih1 _ _ _ _)
   | (with_reducible exact LeO.refl _)
   | (with_reducible exact LeO.none _)
   | (with_reducible refine LeO.ite ?_ ?_)
   | (with_reducible refine LeO.bind ?_ (fun _ => ?_))
   | exact ih0 _ _ _
   | exact ih1 _ _ _ _
   | exact LeO.none _
   | refine LeO.ite ?_ ?_
   | refine LeO.bind ?_ (fun _ => ?_)
theorem sleuthref05_Sorted.mono : ∀ a0 k, LeO (sleuthref05_Sorted.f k a0) (sleuthref05_Sorted.f (k + 1) a0) := by
 intro a0 k
 obtain ⟨ih0, ih1⟩ := sleuthref05_Sorted.mono_l k
 unfold sleuthref05_Sorted.f
 repeat' first
   | (with_reducible exact ih0 _ _ _)
   | (with_reducible exact ih1 _ _ _ _)
   | (with_reducible exact LeO.refl _)
   | (with_reducible exact LeO.none _)
   | (with_reducible refine LeO.ite ?_ ?_)
   | (with_reducible refine LeO.bind ?_ (fun _ => ?_))
   | exact ih0 _ _ _
   | exact ih1 _ _ _ _
   | exact LeO.none _
   | refine LeO.ite ?_ ?_
   | refine LeO.bind ?_ (fun _ => ?_)
def sleuthref05_Sorted.T6 : Bool × List (List Nat × List Nat) := (true, [([], []), ([0], [0]), ([1], [1]), ([2], [2]), ([2], [2]), ([4, 2], [2, 4]), ([3, 5, 2], [2, 3, 5]), ([6, 2], [2, 6]), ([2], [2]), ([2], [2]), ([8, 9, 2], [2, 8, 9]), ([10, 2], [2, 10]), ([7, 11, 2], [2, 7, 11]), ([2, 12], [2, 12])])
def sleuthref05_Sorted.B6 : List Nat := [0, 1, 3, 7, 7, 23, 63, 127, 7, 7, 775, 1799, 4095, 8191]
theorem sleuthref05_Sorted.tab6 : rtab .any (opsOf Try.f28 6) = sleuthref05_Sorted.T6 := by kernel_rfl
theorem sleuthref05_Sorted.bits6 : waitsOk sleuthref05_Sorted.T6.2 sleuthref05_Sorted.B6 = true := by kernel_rfl
def sleuthref05_Sorted.T8 : Bool × List (List Nat × List Nat) := (true, [([], []), ([0], [0]), ([1], [1]), ([2], [2]), ([2], [2]), ([4, 2], [2, 4]), ([3, 5, 2], [2, 3, 5]), ([6, 2], [2, 6]), ([2], [2]), ([2], [2]), ([8, 9, 2], [2, 8, 9]), ([10, 2], [2, 10]), ([7, 11, 2], [2, 7, 11]), ([2, 12], [2, 12])])
def sleuthref05_Sorted.B8 : List Nat := [0, 1, 3, 7, 7, 23, 63, 127, 7, 7, 775, 1799, 4095, 8191]
theorem sleuthref05_Sorted.tab8 : rtab .any (opsOf Try.f28 8) = sleuthref05_Sorted.T8 := by kernel_rfl
theorem sleuthref05_Sorted.bits8 : waitsOk sleuthref05_Sorted.T8.2 sleuthref05_Sorted.B8 = true := by kernel_rfl
def sleuthref05_Sorted.T9 : Bool × List (List Nat × List Nat) := (true, [([], []), ([], []), ([], []), ([1, 2], [1, 2]), ([0, 3], [0, 3]), ([], []), ([], []), ([5, 6], [5, 6]), ([7], [7]), ([8], [8]), ([4, 9, 4], [4, 9]), ([], []), ([], []), ([11, 12], [11, 12]), ([10, 13, 10], [10, 13]), ([14, 14, 0, 1, 2, 3, 4, 5, 6, 7, 8, 9, 10, 11, 12, 13, 14], [1, 11, 14])])
def sleuthref05_Sorted.B9 : List Nat := [0, 0, 0, 6, 15, 0, 0, 96, 224, 480, 1023, 0, 0, 6144, 16383, 32767]
theorem sleuthref05_Sorted.tab9 : rtab .any (opsOf Try.f28 9) = sleuthref05_Sorted.T9 := by kernel_rfl
theorem sleuthref05_Sorted.bits9 : waitsOk sleuthref05_Sorted.T9.2 sleuthref05_Sorted.B9 = true := by kernel_rfl
set_option maxHeartbeats 8000000 in
set_option maxRecDepth 100000 in
theorem sleuthref05_Sorted.calls (k : Nat) (A0 : Option Addr) (c0 : Nat) (l0 : List Int) (r : List Int) (w : World) (hr0 : Kd.C (Kd.int .i64) w A0 l0.length l0) (hc0 : l0.length ≤ c0) (h : sleuthref05_Sorted.f k l0 = some r) :
  Calls Try.prog 28 #[.slice A0 l0.length c0] w fun e w' => ∃ v0_ : Value, e = .returned (v0_) ∧ Kd.R (Kd.int .i64) 3 w' w.heap.size (fun _ => True) v0_ r ∧ Below w.heap.size w w' := by
 have HR0 := Aside0.mk hr0
 have HC0 := Aside0.mk hc0
 clear hr0 hc0
 have HB := Aside0.mk (Below.refl w.heap.size w)
 have H : (sleuthref05_Sorted.l0 k l0 ([] : List Int) 0) = some r := h
 clear h
 have H' := Aside0.mk H
 clear H
 go_enter Try.func28, Try.ntmps28
 go_wp2
 go_loopg [3, 4] k (fun kq v3 v4 w' => ∃ (x3_1 : List Int) (x4_1 : Int), v4 = .int .i64 x4_1 ∧ Aside0 (sleuthref05_Sorted.l0 kq l0 x3_1 x4_1 = some r) ∧ Aside0 (kq ≤ k) ∧ Aside0 (Kd.R (Kd.int .i64) 3 w' w.heap.size (fun _ => True) v3 x3_1) ∧ Aside0 (Below w.heap.size w w'))
 case atStart => exact ⟨(([] : List Int)), (0), qgsrt_23, H', ⟨Nat.le_refl _⟩, ⟨by first | exact Kd.R_nil _ _ _ _ _ | exact Kd.N_nil _ _ _ _ _ | exact Kd.V_nil _ _ _ _ _ | exact Kd.Q_nil _ _ _ _ _ | exact Kd.S_nil _ _ _ _ _⟩, ⟨qgsrt_0⟩⟩
 clear H'
 obtain ⟨x3_1, x4_1, rfl, HA, HK1, HO_3, HB⟩ := hrel
 cases gk with
 | zero => exact absurd HA.out (by simp [sleuthref05_Sorted.l0])
 | succ k1 =>
  have H := HA.out
  clear HA
  simp only [sleuthref05_Sorted.l0] at H
  by_cases c2 : x4_1 < (l0.length : Int)
  rotate_left
  ·rw [if_neg c2] at H
   have c2b0 : decide (x4_1 < (l0.length : Int)) = false := decide_eq_false c2
   clear c2
   obtain rfl := Option.some.inj H
   go_wp2
   go_ret
   exact ⟨_, by first | rfl | (simp [errW_none, errW_some] <;> rfl) | (simp [*, errW_none, errW_some] <;> rfl), qgsrt_1, qgsrt_0⟩
  rw [if_pos c2] at H
  have c2b0 : decide (x4_1 < (l0.length : Int)) = true := decide_eq_true c2
  clear c2
  have H' := Aside0.mk H
  clear H
  obtain ⟨Ao3, co3, eo3⟩ := Kd.R_slice HO_3.out
  subst eo3
  go_wp2
  go_loopg [5] k1 (fun kq v5 w' => ∃ (x5_2 : Int), v5 = .int .i64 x5_2 ∧ Aside0 (sleuthref05_Sorted.l1 kq l0 x3_1 x4_1 x5_2 = some r) ∧ Aside0 (kq ≤ k1) ∧ Aside0 (Kd.R (Kd.int .i64) 3 w' w.heap.size (fun _ => True) (.slice Ao3 x3_1.length co3) x3_1) ∧ Aside0 (Below w.heap.size w w'))
  case atStart => exact ⟨((x3_1.length : Int)), qgsrt_23, H', ⟨Nat.le_refl _⟩, ⟨qgsrt_1⟩, ⟨qgsrt_0⟩⟩
  clear H'
  try clear c2
  try clear c2b0
  try clear p2
  obtain ⟨x5_2, rfl, HA, HK2, HO_3, HB⟩ := hrel
  cases gk with
  | zero => exact absurd HA.out (by simp [sleuthref05_Sorted.l1])
  | succ k2 =>
   have H := HA.out
   clear HA
   simp only [sleuthref05_Sorted.l1] at H
   by_cases c4 : x5_2 > 0
   rotate_left
   ·rw [if_neg c4] at H
    have c4b0 : decide (0 < x5_2) = false := decide_eq_false c4
    clear c4
    obtain ⟨y405, hy405⟩ : ∃ y_ : List Int, y_ = (([] : List Int)) := ⟨_, rfl⟩
    replace H : (if 0 ≤ x5_2 then (if x5_2 ≤ (x3_1.length : Int) then ((some (x3_1.take (x5_2 : Int).toNat : List Int)).bind fun y408 => (if y405.length + y408.length < 17592186044416 then ((some (y405 ++ y408 : List Int)).bind fun y412 => (if 0 ≤ x4_1 then (if x4_1 < (l0.length : Int) then ((some (([rd l0 x4_1] : List Int) : List Int)).bind fun y416 => (if y412.length + y416.length < 17592186044416 then ((some (y412 ++ y416 : List Int)).bind fun y419 => ((some (x3_1.drop (x5_2 : Int).toNat : List Int)).bind fun y422 => (if y419.length + y422.length < 17592186044416 then (sleuthref05_Sorted.l0 k2 l0 (y419 ++ y422) (wrap64 (x4_1 + 1))) else (none)))) else (none))) else (none)) else (none))) else (none))) else (none)) else (none)) = some r := by first | (rw [hy405]; with_reducible exact H) | (have H2_ := (Option.bind_some _ _).symm.trans H; rw [hy405]; with_reducible exact H2_) | (have H2_ := (Option.bind_some _ _).symm.trans H; with_reducible exact H2_) | with_reducible exact H | (rw [hy405]; exact H) | exact H
    have Ny405 := Aside0.mk hy405
    clear hy405
    by_cases c36 : 0 ≤ x5_2
    rotate_left
    ·rw [if_neg c36] at H
     exact absurd H (by simp)
    rw [if_pos c36] at H
    have c36b0 := eq_true c36
    have c36b1 : decide (0 ≤ x5_2) = true := decide_eq_true c36
    clear c36
    by_cases c37 : x5_2 ≤ (x3_1.length : Int)
    rotate_left
    ·rw [if_neg c37] at H
     exact absurd H (by simp)
    rw [if_pos c37] at H
    have c37b0 := eq_true c37
    have c37b1 : decide (x5_2 ≤ (x3_1.length : Int)) = true := decide_eq_true c37
    clear c37
    obtain ⟨y408, hy408⟩ : ∃ y_ : List Int, y_ = (x3_1.take (x5_2 : Int).toNat) := ⟨_, rfl⟩
    replace H : (if y405.length + y408.length < 17592186044416 then ((some (y405 ++ y408 : List Int)).bind fun y412 => (if 0 ≤ x4_1 then (if x4_1 < (l0.length : Int) then ((some (([rd l0 x4_1] : List Int) : List Int)).bind fun y416 => (if y412.length + y416.length < 17592186044416 then ((some (y412 ++ y416 : List Int)).bind fun y419 => ((some (x3_1.drop (x5_2 : Int).toNat : List Int)).bind fun y422 => (if y419.length + y422.length < 17592186044416 then (sleuthref05_Sorted.l0 k2 l0 (y419 ++ y422) (wrap64 (x4_1 + 1))) else (none)))) else (none))) else (none)) else (none))) else (none)) = some r := by first | (rw [hy408]; with_reducible exact H) | (have H2_ := (Option.bind_some _ _).symm.trans H; rw [hy408]; with_reducible exact H2_) | (have H2_ := (Option.bind_some _ _).symm.trans H; with_reducible exact H2_) | with_reducible exact H | (rw [hy408]; exact H) | exact H
    have Ny408 := Aside0.mk hy408
    clear hy408
    by_cases c38 : y405.length + y408.length < 17592186044416
    rotate_left
    ·rw [if_neg c38] at H
     exact absurd H (by simp)
    rw [if_pos c38] at H
    have LMc38 := Aside0.mk c38
    clear c38
    obtain ⟨y412, hy412⟩ : ∃ y_ : List Int, y_ = (y405 ++ y408) := ⟨_, rfl⟩
    replace H : (if 0 ≤ x4_1 then (if x4_1 < (l0.length : Int) then ((some (([rd l0 x4_1] : List Int) : List Int)).bind fun y416 => (if y412.length + y416.length < 17592186044416 then ((some (y412 ++ y416 : List Int)).bind fun y419 => ((some (x3_1.drop (x5_2 : Int).toNat : List Int)).bind fun y422 => (if y419.length + y422.length < 17592186044416 then (sleuthref05_Sorted.l0 k2 l0 (y419 ++ y422) (wrap64 (x4_1 + 1))) else (none)))) else (none))) else (none)) else (none)) = some r := by first | (rw [hy412]; with_reducible exact H) | (have H2_ := (Option.bind_some _ _).symm.trans H; rw [hy412]; with_reducible exact H2_) | (have H2_ := (Option.bind_some _ _).symm.trans H; with_reducible exact H2_) | with_reducible exact H | (rw [hy412]; exact H) | exact H
    have Ny412 := Aside0.mk hy412
    clear hy412
    by_cases c39 : 0 ≤ x4_1
    rotate_left
    ·rw [if_neg c39] at H
     exact absurd H (by simp)
    rw [if_pos c39] at H
    have c39b0 : decide (0 ≤ x4_1) = true := decide_eq_true c39
    clear c39
    by_cases c40 : x4_1 < (l0.length : Int)
    rotate_left
    ·rw [if_neg c40] at H
     exact absurd H (by simp)
    rw [if_pos c40] at H
    have c40b0 : decide (x4_1 < (l0.length : Int)) = true := decide_eq_true c40
    clear c40
    obtain ⟨y416, hy416⟩ : ∃ y_ : List Int, y_ = (([rd l0 x4_1] : List Int)) := ⟨_, rfl⟩
    replace H : (if y412.length + y416.length < 17592186044416 then ((some (y412 ++ y416 : List Int)).bind fun y419 => ((some (x3_1.drop (x5_2 : Int).toNat : List Int)).bind fun y422 => (if y419.length + y422.length < 17592186044416 then (sleuthref05_Sorted.l0 k2 l0 (y419 ++ y422) (wrap64 (x4_1 + 1))) else (none)))) else (none)) = some r := by first | (rw [hy416]; with_reducible exact H) | (have H2_ := (Option.bind_some _ _).symm.trans H; rw [hy416]; with_reducible exact H2_) | (have H2_ := (Option.bind_some _ _).symm.trans H; with_reducible exact H2_) | with_reducible exact H | (rw [hy416]; exact H) | exact H
    have Ny416 := Aside0.mk hy416
    clear hy416
    by_cases c41 : y412.length + y416.length < 17592186044416
    rotate_left
    ·rw [if_neg c41] at H
     exact absurd H (by simp)
    rw [if_pos c41] at H
    have LMc41 := Aside0.mk c41
    clear c41
    obtain ⟨y419, hy419⟩ : ∃ y_ : List Int, y_ = (y412 ++ y416) := ⟨_, rfl⟩
    replace H : ((some (x3_1.drop (x5_2 : Int).toNat : List Int)).bind fun y422 => (if y419.length + y422.length < 17592186044416 then (sleuthref05_Sorted.l0 k2 l0 (y419 ++ y422) (wrap64 (x4_1 + 1))) else (none))) = some r := by first | (rw [hy419]; with_reducible exact H) | (have H2_ := (Option.bind_some _ _).symm.trans H; rw [hy419]; with_reducible exact H2_) | (have H2_ := (Option.bind_some _ _).symm.trans H; with_reducible exact H2_) | with_reducible exact H | (rw [hy419]; exact H) | exact H
    have Ny419 := Aside0.mk hy419
    clear hy419
    have c42b0 := eq_true (of_decide_eq_true qgsrt_2 : 0 ≤ x5_2)
    have c43b0 := eq_true (of_decide_eq_true qgsrt_2 : x5_2 ≤ (x3_1.length : Int))
    obtain ⟨y422, hy422⟩ : ∃ y_ : List Int, y_ = (x3_1.drop (x5_2 : Int).toNat) := ⟨_, rfl⟩
    replace H : (if y419.length + y422.length < 17592186044416 then (sleuthref05_Sorted.l0 k2 l0 (y419 ++ y422) (wrap64 (x4_1 + 1))) else (none)) = some r := by first | (rw [hy422]; with_reducible exact H) | (have H2_ := (Option.bind_some _ _).symm.trans H; rw [hy422]; with_reducible exact H2_) | (have H2_ := (Option.bind_some _ _).symm.trans H; with_reducible exact H2_) | with_reducible exact H | (rw [hy422]; exact H) | exact H
    have Ny422 := Aside0.mk hy422
    clear hy422
    by_cases c44 : y419.length + y422.length < 17592186044416
    rotate_left
    ·rw [if_neg c44] at H
     exact absurd H (by simp)
    rw [if_pos c44] at H
    have LMc44 := Aside0.mk c44
    clear c44
    obtain ⟨y426, hy426⟩ : ∃ y_ : List Int, y_ = (y419 ++ y422) := ⟨_, rfl⟩
    replace H : (sleuthref05_Sorted.l0 k2 l0 y426 (wrap64 (x4_1 + 1))) = some r := by first | (rw [hy426]; with_reducible exact H) | (have H2_ := (Option.bind_some _ _).symm.trans H; rw [hy426]; with_reducible exact H2_) | (have H2_ := (Option.bind_some _ _).symm.trans H; with_reducible exact H2_) | with_reducible exact H | (rw [hy426]; exact H) | exact H
    have Ny426 := Aside0.mk hy426
    clear hy426
    have H' := Aside0.mk H
    clear H
    try go_wp2
    have n0_ := Aside0.mk (Kd.R_drew HO_3.out)
    have n1_ := Aside0.mk (below_drew1 HB.out)
    clear HO_3
    clear HB
    have HO_3 := n0_
    have HB := n1_
    clear n0_ n1_
    refine start_ (n := 14) (S := fun w' => True) (ds := []) A99993_0 (by kernel_rfl) rfl rfl trivial (fun hHeld => ?_); refine with_tabW sleuthref05_Sorted.tab6 sleuthref05_Sorted.bits6 (fun HT_ HW_ => ?_)
    generalize wr.drew = w45 at HO_3 HB hHeld ⊢
    refine pA_ 0 14 A99993_1 HT_ ?_
    refine pA_ 1 15 A99993_2 HT_ ?_
    refine pA_ 2 16 A99993_3 HT_ ?_
    refine pB_ 3 17 A99993_4 HT_ ?_
    refine pB_ 4 18 A99993_5 HT_ ?_
    refine pB_ 5 19 A99993_6 HT_ ?_
    refine pB_ 6 20 A99993_7 HT_ ?_
    refine pB_ 7 21 A99993_8 HT_ ?_
    refine pB_ 8 22 A99993_9 HT_ ?_
    refine pB_ 9 23 A99993_10 HT_ ?_
    refine pB_ 10 24 A99993_11 HT_ ?_
    refine pB_ 11 25 A99993_12 HT_ ?_
    refine pB_ 12 26 A99993_13 HT_ ?_
    refine pA_ 13 27 A99993_14 HT_ ?_
    refine done_ (done_of HT_.out (by kernel_rfl)) ?_
    try go_wp2
    have n0_ := Aside0.mk (Kd.R_drew HO_3.out)
    have n1_ := Aside0.mk (below_drew1 HB.out)
    clear HO_3
    clear HB
    have HO_3 := n0_
    have HB := n1_
    clear n0_ n1_
    refine start_ (n := 14) (S := fun w' => True) (ds := []) A99993_0 (by kernel_rfl) rfl rfl trivial (fun hHeld => ?_); refine with_tabW sleuthref05_Sorted.tab8 sleuthref05_Sorted.bits8 (fun HT_ HW_ => ?_)
    generalize w45.drew = w46 at HO_3 HB hHeld ⊢
    refine pA_ 0 30 A99993_1 HT_ ?_
    refine pA_ 1 31 A99993_2 HT_ ?_
    refine pA_ 2 32 A99993_3 HT_ ?_
    refine pB_ 3 33 A99993_4 HT_ ?_
    refine pB_ 4 34 A99993_5 HT_ ?_
    refine pB_ 5 35 A99993_6 HT_ ?_
    refine pB_ 6 36 A99993_7 HT_ ?_
    refine pB_ 7 37 A99993_8 HT_ ?_
    refine pB_ 8 38 A99993_9 HT_ ?_
    refine pB_ 9 39 A99993_10 HT_ ?_
    refine pB_ 10 40 A99993_11 HT_ ?_
    refine pB_ 11 41 A99993_12 HT_ ?_
    refine pB_ 12 42 A99993_13 HT_ ?_
    refine pA_ 13 43 A99993_14 HT_ ?_
    refine done_ (done_of HT_.out (by kernel_rfl)) ?_
    try go_wp2
    have n0_ := Aside0.mk (Kd.R_drew HO_3.out)
    have n1_ := Aside0.mk (below_drew1 HB.out)
    clear HO_3
    clear HB
    have HO_3 := n0_
    have HB := n1_
    clear n0_ n1_
    have q48 : (x5_2 : Int) ≤ ((x3_1.length : Int) : Int) := of_decide_eq_true qgsrt_2
    obtain ⟨i048, hi048, _, hsz48, _⟩ := info_parts info3
    have hroom48 : x3_1.length ≤ co3 := (Kd.R_reads' HO_3.out).2.1
    have hC48 : Kd.C (Kd.int .i64) _ Ao3 x3_1.length x3_1 := (Kd.R_reads' HO_3.out).2.2
    have hcut48 := cut_to (P := Try.prog) 26 3 .i64 Try.underlying26 hi048 Ao3 x3_1.length co3 x5_2 (of_decide_eq_true qgsrt_2) q48 hroom48
    have hr48 := Kd.C_take (m := (x5_2 : Int).toNat) hC48 (by omega)
    have hy48 : y408.length = (x5_2 : Int).toNat := (by rw [Ny408.out, List.length_take]; omega)
    rw [← Ny408.out] at hr48
    rw [← hy48] at hcut48
    have HR411 := Aside0.mk hr48
    have HC411 := Aside0.mk (show y408.length ≤ co3 from by omega)
    clear hr48 hC48 hroom48 hi048 hsz48
    have KY48 := Aside0.mk hy48
    clear hy48
    have KL48 := Aside0.mk (show (x5_2 : Int).toNat ≤ x3_1.length from by omega)
    replace q48 := eq_true q48
    have p415 : 0 ≤ (x4_1 : Int) := of_decide_eq_true qgsrt_2
    have q415 : x4_1 < (l0.length : Int) := of_decide_eq_true qgsrt_2
    obtain ⟨ad415, e415, hx415_0⟩ := Kd.at_int HR0.out x4_1 p415 q415
    have hw415_0 := hx415_0
    cases e415
    replace hx415_0 := (HB.out.cell (World.block_lt_of_cell? w _ hx415_0)).trans hx415_0
    replace p415 := eq_true p415
    replace q415 := eq_true q415
    have q49 : (x5_2 : Int) ≤ ((x3_1.length : Int) : Int) := of_decide_eq_true qgsrt_2
    obtain ⟨i049, hi049, _, hsz49, _⟩ := info_parts info3
    have hroom49 : x3_1.length ≤ co3 := (Kd.R_reads' HO_3.out).2.1
    have hC49 : Kd.C (Kd.int .i64) _ Ao3 x3_1.length x3_1 := (Kd.R_reads' HO_3.out).2.2
    have q049 : (0 : Int) ≤ (x5_2 : Int) := of_decide_eq_true qgsrt_2
    have hcut49 := cut_from (P := Try.prog) 26 3 .i64 Try.underlying26 hi049 1 hsz49 Ao3 x3_1.length co3 x5_2 q049 q49
    have hr49 := Kd.C_drop (m := (x5_2 : Int).toNat) (c := co3) hC49 (by omega) hroom49
    obtain ⟨A49, hA49⟩ : ∃ A1, A1 = (if co3 = (x5_2 : Int).toNat then Ao3 else (Ao3 : Option Addr).map (·.add ((x5_2 : Int).toNat * 1))) := ⟨_, rfl⟩
    obtain ⟨c49, hc49⟩ : ∃ c1, c1 = co3 - (x5_2 : Int).toNat := ⟨_, rfl⟩
    have hy49 : y422.length = x3_1.length - (x5_2 : Int).toNat := (by rw [Ny422.out, List.length_drop] <;> omega)
    rw [show (x3_1).drop (x5_2 : Int).toNat = y422 from Ny422.out.symm] at hr49
    replace hr49 : Kd.C (Kd.int .i64) _ A49 y422.length y422 := (by rw [hA49]; exact hr49)
    rw [← hy49, ← hA49, ← hc49] at hcut49
    have HR425 := Aside0.mk hr49
    have HC425 := Aside0.mk (show y422.length ≤ c49 from by rw [hy49, hc49]; exact Nat.sub_le_sub_right hroom49 _)
    clear hr49 hC49 hroom49 hi049 hsz49 hc49
    have KY49 := Aside0.mk hy49
    have KA49 := Aside0.mk hA49
    clear hy49 hA49
    have KL49 := Aside0.mk (show (x5_2 : Int).toNat ≤ x3_1.length from by omega)
    replace q49 := eq_true q49
    refine start_ (n := 16) (S := fun w' => w'.cell? (ad415.add (x4_1).toNat) = some (.int .i64 (rd l0 x4_1))) (ds := []) A99993_15 (by kernel_rfl) rfl rfl (((HB.out.cell (World.block_lt_of_cell? w _ hw415_0)).trans hw415_0)) (fun hHeld => ?_); refine with_tabW sleuthref05_Sorted.tab9 sleuthref05_Sorted.bits9 (fun HT_ HW_ => ?_)
    generalize w46.drew = w47 at HO_3 HB HR411 HR425 hx415_0 hHeld ⊢
    refine pA_ 1 45 A99993_16 HT_ ?_
    refine pA_ 2 46 A99993_17 HT_ ?_
    refine pA_ 3 47 A99993_18 HT_ ?_
    refine pA_ 5 49 A99993_19 HT_ ?_
    refine pA_ 6 50 A99993_20 HT_ ?_
    refine pA_ 7 51 A99993_21 HT_ ?_
    refine pA_ 11 55 A99993_22 HT_ ?_
    refine pA_ 12 56 A99993_23 HT_ ?_
    refine pA_ 13 57 A99993_24 HT_ ?_
    refine take_ (i := 8) (N := some 52) (v := ?_) (a' := ?_) A99993_25 rfl rfl (take_ofW HT_.out HW_.out (by kernel_rfl)) (fun _ _ _ h => h) (Or.inl ⟨by rfl, ?_⟩) hHeld ?_ ?_
    rotate_left
    ·intro w' s0
     go_simp
     with_reducible rfl
    rotate_left
    ·simp only [Act.put, List.setIfInBounds_toArray, List.set_cons_zero, List.set_cons_succ, i64_w, i32_w]
     rfl
    have SF : ∀ w', Aside0 (Below w.heap.size w w') → w'.cell? (ad415.add (x4_1).toNat) = some (.int .i64 (rd l0 x4_1)) := fun w' HB => (((HB.out.cell (World.block_lt_of_cell? w _ hw415_0)).trans hw415_0))
    have HR : Aside0 (Rws _ w.heap.size [(.slice none 0 0, []), (.slice none 0 0, []), (.slice Ao3 x3_1.length co3, x3_1)]) := ⟨Rws.nil_ (Rws.nil_ (Rws.cons HO_3.out (fun _ _ _ hq => absurd hq List.not_mem_nil) Rws.empty))⟩
    clear HO_3
    refine join_ (σ := Value × Value × Value) 3 A99993_26 (fun s_ => [(44, s_.1), (48, s_.2.1), (53, s_.2.2)]) (fun s_ w' => (w'.cell? (ad415.add (x4_1).toNat) = some (.int .i64 (rd l0 x4_1))) ∧ Aside0 (Rws w' w.heap.size [(s_.2.1, y412), (s_.2.2, y416), (.slice Ao3 x3_1.length co3, x3_1)]) ∧ Aside0 (Below w.heap.size w w')) ?_ ?_
    rotate_left
    ·intro hCont
     refine two_ (i := 0) (j := 9) (Ni := some 44) (Nj := some 53) A99993_27 A99993_28 rfl rfl rfl rfl (two_of HT_.out (by kernel_rfl)) (by decide) (by decide) (fun K hK => ?_) (fun K hK => ?_)
     ·refine lt_ HR HB 0 44 Ny405 rfl (fun v44 w' HR HB => ?_)
      refine hK.out _ _ (SF _ HB) (fun hHeld => ?_)
      clear hK K
      refine nm_ ?_
      refine two_ (i := 4) (j := 9) (Ni := some 48) (Nj := some 53) A99993_29 A99993_30 rfl rfl rfl rfl (two_of HT_.out (by kernel_rfl)) (by decide) (by decide) (fun K hK => ?_) (fun K hK => ?_)
      ·refine apC_ (.tmp 44) (.tmp 47) 0 48 HR HB Ny412 rfl rfl rfl (by rw [Ny408.out]; exact Kd.C_take (Kd.R_reads' (HR.out.1 2 _ rfl)).2.2 KL48.out) rfl LMc38.out (fun v48 w' HR HB => ?_)
       refine hK.out _ _ (SF _ HB) (fun hHeld => ?_)
       clear hK K
       refine nm_ ?_
       refine one_ (i := 9) (N := some 53) A99993_26 rfl rfl (one_of HT_.out (by kernel_rfl)) (by decide) (fun K hK => ?_)
       refine lt_ HR HB 1 53 Ny416 rfl (fun v53 w' HR HB => ?_)
       refine hK.out _ _ (SF _ HB) (fun hHeld => ?_)
       clear hK K
       exact nm_ (hCont (v44, v48, v53) _ ⟨hHeld, HR, HB⟩)
      ·refine lt_ HR HB 1 53 Ny416 rfl (fun v53 w' HR HB => ?_)
       refine hK.out _ _ (SF _ HB) (fun hHeld => ?_)
       clear hK K
       refine nm_ ?_
       refine one_ (i := 4) (N := some 48) A99993_26 rfl rfl (one_of HT_.out (by kernel_rfl)) (by decide) (fun K hK => ?_)
       refine apC_ (.tmp 44) (.tmp 47) 0 48 HR HB Ny412 rfl rfl rfl (by rw [Ny408.out]; exact Kd.C_take (Kd.R_reads' (HR.out.1 2 _ rfl)).2.2 KL48.out) rfl LMc38.out (fun v48 w' HR HB => ?_)
       refine hK.out _ _ (SF _ HB) (fun hHeld => ?_)
       clear hK K
       exact nm_ (hCont (v44, v48, v53) _ ⟨hHeld, HR, HB⟩)
     ·refine lt_ HR HB 1 53 Ny416 rfl (fun v53 w' HR HB => ?_)
      refine hK.out _ _ (SF _ HB) (fun hHeld => ?_)
      clear hK K
      refine nm_ ?_
      refine one_ (i := 0) (N := some 44) A99993_30 rfl rfl (one_of HT_.out (by kernel_rfl)) (by decide) (fun K hK => ?_)
      refine lt_ HR HB 0 44 Ny405 rfl (fun v44 w' HR HB => ?_)
      refine hK.out _ _ (SF _ HB) (fun hHeld => ?_)
      clear hK K
      refine nm_ ?_
      refine one_ (i := 4) (N := some 48) A99993_26 rfl rfl (one_of HT_.out (by kernel_rfl)) (by decide) (fun K hK => ?_)
      refine apC_ (.tmp 44) (.tmp 47) 0 48 HR HB Ny412 rfl rfl rfl (by rw [Ny408.out]; exact Kd.C_take (Kd.R_reads' (HR.out.1 2 _ rfl)).2.2 KL48.out) rfl LMc38.out (fun v48 w' HR HB => ?_)
      refine hK.out _ _ (SF _ HB) (fun hHeld => ?_)
      clear hK K
      exact nm_ (hCont (v44, v48, v53) _ ⟨hHeld, HR, HB⟩)
    clear HR HB hHeld
    rintro ⟨v44, v48, v53⟩ w' ⟨hHeld, HR, HB⟩
    refine nm_ ?_
    refine one_ (i := 10) (N := some 54) A99993_31 rfl rfl (one_of HT_.out (by kernel_rfl)) (by decide) (fun K hK => ?_)
    refine ap_ (.tmp 48) (.tmp 53) 1 0 54 HR HB Ny419 rfl rfl rfl rfl rfl LMc41.out (fun v54 w' HR HB => ?_)
    refine hK.out _ _ (SF _ HB) (fun hHeld => ?_)
    clear hK K
    refine nm_ ?_
    refine one_ (i := 14) (N := some 58) A99993_32 rfl rfl (one_of HT_.out (by kernel_rfl)) (by decide) (fun K hK => ?_)
    refine apC_ (.tmp 54) (.tmp 57) 0 58 HR HB Ny426 rfl rfl rfl (by rw [Ny422.out, KA49.out]; exact Kd.C_drop (m := (x5_2 : Int).toNat) (c := co3) (Kd.R_reads' (HR.out.1 2 _ rfl)).2.2 KL49.out (Kd.R_reads' (HR.out.1 2 _ rfl)).2.1) rfl LMc44.out (fun v58 w' HR HB => ?_)
    refine hK.out _ _ (SF _ HB) (fun hHeld => ?_)
    clear hK K
    refine nm_ ?_
    refine pA_ 15 3 A99993_33 HT_ ?_
    refine done_ (done_of HT_.out (by kernel_rfl)) ?_
    try go_wp2
    go_roundg k2
    case measure => have := HK1.out; have := HK2.out; omega
    case rel => exact ⟨(y426), (wrap64 (x4_1 + 1)), qgsrt_23, H', ⟨by have := HK1.out; have := HK2.out; omega⟩, ⟨by (with_reducible repeat (first | apply Kd.R_alloc | apply Kd.R_drewN | apply Kd.R_drew)); exact Rws.out HR.out 0 rfl (fun _ _ => trivial)⟩, ⟨qgsrt_0⟩⟩
   rw [if_pos c4] at H
   have c4b0 : decide (0 < x5_2) = true := decide_eq_true c4
   clear c4
   obtain ⟨ji5, hji5⟩ : ∃ j_ : Int, (wrap64 (x5_2 - 1)) = j_ := ⟨_, rfl⟩
   replace H : (if 0 ≤ (ji5) then (if (ji5) < (x3_1.length : Int) then (if 0 ≤ x4_1 then (if x4_1 < (l0.length : Int) then (if (rd x3_1 (ji5)) > (rd l0 x4_1) then (sleuthref05_Sorted.l1 k2 l0 x3_1 x4_1 ji5) else (if (rd x3_1 (ji5)) = (rd l0 x4_1) then (sleuthref05_Sorted.l0 k2 l0 x3_1 (wrap64 (x4_1 + 1))) else ((some (([] : List Int) : List Int)).bind fun y381 => (if 0 ≤ x5_2 then (if x5_2 ≤ (x3_1.length : Int) then ((some (x3_1.take (x5_2 : Int).toNat : List Int)).bind fun y384 => (if y381.length + y384.length < 17592186044416 then ((some (y381 ++ y384 : List Int)).bind fun y388 => ((some (([rd l0 x4_1] : List Int) : List Int)).bind fun y392 => (if y388.length + y392.length < 17592186044416 then ((some (y388 ++ y392 : List Int)).bind fun y395 => ((some (x3_1.drop (x5_2 : Int).toNat : List Int)).bind fun y398 => (if y395.length + y398.length < 17592186044416 then (sleuthref05_Sorted.l0 k2 l0 (y395 ++ y398) (wrap64 (x4_1 + 1))) else (none)))) else (none)))) else (none))) else (none)) else (none))))) else (none)) else (none)) else (none)) else (none)) = some r := by first | (rw [hji5] at H; exact H) | (simp only [hji5] at H ⊢; exact H)
   have hji5w : (IntKind.i64.wrap (x5_2 - 1)) = ji5 := (i64_w _).trans hji5
   by_cases c6 : 0 ≤ (ji5)
   rotate_left
   ·rw [if_neg c6] at H
    exact absurd H (by simp)
   rw [if_pos c6] at H
   have c6b0 : decide (0 ≤ (ji5)) = true := decide_eq_true c6
   clear c6
   by_cases c7 : (ji5) < (x3_1.length : Int)
   rotate_left
   ·rw [if_neg c7] at H
    exact absurd H (by simp)
   rw [if_pos c7] at H
   have c7b0 : decide ((ji5) < (x3_1.length : Int)) = true := decide_eq_true c7
   clear c7
   by_cases c8 : 0 ≤ x4_1
   rotate_left
   ·rw [if_neg c8] at H
    exact absurd H (by simp)
   rw [if_pos c8] at H
   have c8b0 : decide (0 ≤ x4_1) = true := decide_eq_true c8
   clear c8
   by_cases c9 : x4_1 < (l0.length : Int)
   rotate_left
   ·rw [if_neg c9] at H
    exact absurd H (by simp)
   rw [if_pos c9] at H
   have c9b0 : decide (x4_1 < (l0.length : Int)) = true := decide_eq_true c9
   clear c9
   by_cases c10 : (rd x3_1 (ji5)) > (rd l0 x4_1)
   ·rw [if_pos c10] at H
    have c10b0 : decide ((rd l0 x4_1) < (rd x3_1 (ji5))) = true := decide_eq_true c10
    clear c10
    have H' := Aside0.mk H
    clear H
    try go_wp2
    have n0_ := Aside0.mk (Kd.R_drew HO_3.out)
    have n1_ := Aside0.mk (below_drew1 HB.out)
    clear HO_3
    clear HB
    have HO_3 := n0_
    have HB := n1_
    clear n0_ n1_
    have p377 : 0 ≤ ((ji5) : Int) := of_decide_eq_true qgsrt_2
    have q377 : (ji5) < (x3_1.length : Int) := of_decide_eq_true qgsrt_2
    obtain ⟨ad377, e377, hx377_0⟩ := Kd.at_int (Kd.R_reads' HO_3.out).2.2 (ji5) p377 q377
    cases e377
    replace p377 := eq_true p377
    replace q377 := eq_true q377
    have p378 : 0 ≤ (x4_1 : Int) := of_decide_eq_true qgsrt_2
    have q378 : x4_1 < (l0.length : Int) := of_decide_eq_true qgsrt_2
    obtain ⟨ad378, e378, hx378_0⟩ := Kd.at_int HR0.out x4_1 p378 q378
    have hw378_0 := hx378_0
    cases e378
    replace hx378_0 := (HB.out.cell (World.block_lt_of_cell? w _ hx378_0)).trans hx378_0
    replace p378 := eq_true p378
    replace q378 := eq_true q378
    refine start_ (n := 14) (S := fun w' => w'.cell? (ad377.add ((ji5)).toNat) = some (.int .i64 (rd x3_1 (ji5))) ∧ w'.cell? (ad378.add (x4_1).toNat) = some (.int .i64 (rd l0 x4_1))) (ds := []) A99993_0 (by kernel_rfl) rfl rfl ⟨hx377_0, ((HB.out.cell (World.block_lt_of_cell? w _ hw378_0)).trans hw378_0)⟩ (fun hHeld => ?_); refine with_tabW sleuthref05_Sorted.tab6 sleuthref05_Sorted.bits6 (fun HT_ HW_ => ?_)
    generalize wr.drew = w11 at HO_3 HB hx377_0 hx378_0 hHeld ⊢
    refine pA_ 0 14 A99993_1 HT_ ?_
    refine pA_ 1 15 A99993_2 HT_ ?_
    refine pA_ 2 16 A99993_3 HT_ ?_
    refine pA_ 3 17 A99993_4 HT_ ?_
    refine pA_ 4 18 A99993_5 HT_ ?_
    refine pA_ 5 19 A99993_6 HT_ ?_
    refine pA_ 6 20 A99993_7 HT_ ?_
    refine pA_ 8 22 A99993_34 HT_ ?_
    refine pA_ 9 23 A99993_35 HT_ ?_
    refine pA_ 10 24 A99993_36 HT_ ?_
    refine take_ (i := 7) (N := some 21) (v := ?_) (a' := ?_) A99993_11 rfl rfl (take_ofW HT_.out HW_.out (by kernel_rfl)) (fun _ _ _ h => h) (Or.inl ⟨by rfl, ?_⟩) hHeld ?_ ?_
    rotate_left
    ·rintro w' ⟨s0, s1⟩
     go_simp
     with_reducible rfl
    rotate_left
    ·simp only [Act.put, List.setIfInBounds_toArray, List.set_cons_zero, List.set_cons_succ, i64_w, i32_w]
     rfl
    refine take_ (i := 11) (N := some 25) (v := ?_) (a' := ?_) A99993_12 rfl rfl (take_ofW HT_.out HW_.out (by kernel_rfl)) (fun _ _ _ h => h) (Or.inl ⟨by rfl, ?_⟩) hHeld ?_ ?_
    rotate_left
    ·rintro w' ⟨s0, s1⟩
     go_simp
     with_reducible rfl
    rotate_left
    ·simp only [Act.put, List.setIfInBounds_toArray, List.set_cons_zero, List.set_cons_succ, i64_w, i32_w]
     rfl
    refine pA_ 12 26 A99993_13 HT_ ?_
    refine pA_ 13 27 A99993_14 HT_ ?_
    refine done_ (done_of HT_.out (by kernel_rfl)) ?_
    try go_wp2
    go_roundg k2
    case measure => have := HK1.out; have := HK2.out; omega
    case rel => exact ⟨(ji5), (by first | rfl | (simp; done) | (simp only [← hji5] <;> (first | rfl | simp)) | (simp [*]; done)), H', ⟨by have := HK1.out; have := HK2.out; omega⟩, ⟨qgsrt_1⟩, ⟨qgsrt_0⟩⟩
   rw [if_neg c10] at H
   have c10b0 : decide ((rd l0 x4_1) < (rd x3_1 (ji5))) = false := decide_eq_false c10
   clear c10
   by_cases c12 : (rd x3_1 (ji5)) = (rd l0 x4_1)
   ·rw [if_pos c12] at H
    have c12b0 : ((rd x3_1 (ji5)) == (rd l0 x4_1)) = true := beq_iff_eq.mpr c12
    have c12b1 : ((rd x3_1 (ji5)) != (rd l0 x4_1)) = false := bne_eq_false_iff_eq.mpr c12
    clear c12
    have H' := Aside0.mk H
    clear H
    try go_wp2
    have n0_ := Aside0.mk (Kd.R_drew HO_3.out)
    have n1_ := Aside0.mk (below_drew1 HB.out)
    clear HO_3
    clear HB
    have HO_3 := n0_
    have HB := n1_
    clear n0_ n1_
    have p377 : 0 ≤ ((ji5) : Int) := of_decide_eq_true qgsrt_2
    have q377 : (ji5) < (x3_1.length : Int) := of_decide_eq_true qgsrt_2
    obtain ⟨ad377, e377, hx377_0⟩ := Kd.at_int (Kd.R_reads' HO_3.out).2.2 (ji5) p377 q377
    cases e377
    replace p377 := eq_true p377
    replace q377 := eq_true q377
    have p378 : 0 ≤ (x4_1 : Int) := of_decide_eq_true qgsrt_2
    have q378 : x4_1 < (l0.length : Int) := of_decide_eq_true qgsrt_2
    obtain ⟨ad378, e378, hx378_0⟩ := Kd.at_int HR0.out x4_1 p378 q378
    have hw378_0 := hx378_0
    cases e378
    replace hx378_0 := (HB.out.cell (World.block_lt_of_cell? w _ hx378_0)).trans hx378_0
    replace p378 := eq_true p378
    replace q378 := eq_true q378
    refine start_ (n := 14) (S := fun w' => w'.cell? (ad377.add ((ji5)).toNat) = some (.int .i64 (rd x3_1 (ji5))) ∧ w'.cell? (ad378.add (x4_1).toNat) = some (.int .i64 (rd l0 x4_1))) (ds := []) A99993_0 (by kernel_rfl) rfl rfl ⟨hx377_0, ((HB.out.cell (World.block_lt_of_cell? w _ hw378_0)).trans hw378_0)⟩ (fun hHeld => ?_); refine with_tabW sleuthref05_Sorted.tab6 sleuthref05_Sorted.bits6 (fun HT_ HW_ => ?_)
    generalize wr.drew = w13 at HO_3 HB hx377_0 hx378_0 hHeld ⊢
    refine pA_ 0 14 A99993_1 HT_ ?_
    refine pA_ 1 15 A99993_2 HT_ ?_
    refine pA_ 2 16 A99993_3 HT_ ?_
    refine pA_ 3 17 A99993_4 HT_ ?_
    refine pA_ 4 18 A99993_5 HT_ ?_
    refine pA_ 5 19 A99993_6 HT_ ?_
    refine pA_ 6 20 A99993_7 HT_ ?_
    refine pA_ 8 22 A99993_34 HT_ ?_
    refine pA_ 9 23 A99993_35 HT_ ?_
    refine pA_ 10 24 A99993_36 HT_ ?_
    refine take_ (i := 7) (N := some 21) (v := ?_) (a' := ?_) A99993_11 rfl rfl (take_ofW HT_.out HW_.out (by kernel_rfl)) (fun _ _ _ h => h) (Or.inl ⟨by rfl, ?_⟩) hHeld ?_ ?_
    rotate_left
    ·rintro w' ⟨s0, s1⟩
     go_simp
     with_reducible rfl
    rotate_left
    ·simp only [Act.put, List.setIfInBounds_toArray, List.set_cons_zero, List.set_cons_succ, i64_w, i32_w]
     rfl
    refine take_ (i := 11) (N := some 25) (v := ?_) (a' := ?_) A99993_12 rfl rfl (take_ofW HT_.out HW_.out (by kernel_rfl)) (fun _ _ _ h => h) (Or.inl ⟨by rfl, ?_⟩) hHeld ?_ ?_
    rotate_left
    ·rintro w' ⟨s0, s1⟩
     go_simp
     with_reducible rfl
    rotate_left
    ·simp only [Act.put, List.setIfInBounds_toArray, List.set_cons_zero, List.set_cons_succ, i64_w, i32_w]
     rfl
    refine pA_ 12 26 A99993_13 HT_ ?_
    refine pA_ 13 27 A99993_14 HT_ ?_
    refine done_ (done_of HT_.out (by kernel_rfl)) ?_
    try go_wp2
    have n0_ := Aside0.mk (Kd.R_drew HO_3.out)
    have n1_ := Aside0.mk (below_drew1 HB.out)
    clear HO_3
    clear HB
    have HO_3 := n0_
    have HB := n1_
    clear n0_ n1_
    have p379 : 0 ≤ ((ji5) : Int) := of_decide_eq_true qgsrt_2
    have q379 : (ji5) < (x3_1.length : Int) := of_decide_eq_true qgsrt_2
    obtain ⟨ad379, e379, hx379_0⟩ := Kd.at_int (Kd.R_reads' HO_3.out).2.2 (ji5) p379 q379
    obtain rfl : ad377 = ad379 := (by injection e379)
    replace p379 := eq_true p379
    replace q379 := eq_true q379
    have p380 : 0 ≤ (x4_1 : Int) := of_decide_eq_true qgsrt_2
    have q380 : x4_1 < (l0.length : Int) := of_decide_eq_true qgsrt_2
    obtain ⟨ad380, e380, hx380_0⟩ := Kd.at_int HR0.out x4_1 p380 q380
    have hw380_0 := hx380_0
    obtain rfl : ad378 = ad380 := (by injection e380)
    replace hx380_0 := (HB.out.cell (World.block_lt_of_cell? w _ hx380_0)).trans hx380_0
    replace p380 := eq_true p380
    replace q380 := eq_true q380
    refine start_ (n := 14) (S := fun w' => w'.cell? (ad377.add ((ji5)).toNat) = some (.int .i64 (rd x3_1 (ji5))) ∧ w'.cell? (ad378.add (x4_1).toNat) = some (.int .i64 (rd l0 x4_1))) (ds := []) A99993_0 (by kernel_rfl) rfl rfl ⟨hx379_0, ((HB.out.cell (World.block_lt_of_cell? w _ hw380_0)).trans hw380_0)⟩ (fun hHeld => ?_); refine with_tabW sleuthref05_Sorted.tab8 sleuthref05_Sorted.bits8 (fun HT_ HW_ => ?_)
    generalize w13.drew = w14 at HO_3 HB hx379_0 hx380_0 hHeld ⊢
    refine pA_ 0 30 A99993_1 HT_ ?_
    refine pA_ 1 31 A99993_2 HT_ ?_
    refine pA_ 2 32 A99993_3 HT_ ?_
    refine pA_ 3 33 A99993_4 HT_ ?_
    refine pA_ 4 34 A99993_5 HT_ ?_
    refine pA_ 5 35 A99993_6 HT_ ?_
    refine pA_ 6 36 A99993_7 HT_ ?_
    refine pA_ 8 38 A99993_34 HT_ ?_
    refine pA_ 9 39 A99993_35 HT_ ?_
    refine pA_ 10 40 A99993_36 HT_ ?_
    refine take_ (i := 7) (N := some 37) (v := ?_) (a' := ?_) A99993_11 rfl rfl (take_ofW HT_.out HW_.out (by kernel_rfl)) (fun _ _ _ h => h) (Or.inl ⟨by rfl, ?_⟩) hHeld ?_ ?_
    rotate_left
    ·rintro w' ⟨s0, s1⟩
     go_simp
     with_reducible rfl
    rotate_left
    ·simp only [Act.put, List.setIfInBounds_toArray, List.set_cons_zero, List.set_cons_succ, i64_w, i32_w]
     rfl
    refine take_ (i := 11) (N := some 41) (v := ?_) (a' := ?_) A99993_12 rfl rfl (take_ofW HT_.out HW_.out (by kernel_rfl)) (fun _ _ _ h => h) (Or.inl ⟨by rfl, ?_⟩) hHeld ?_ ?_
    rotate_left
    ·rintro w' ⟨s0, s1⟩
     go_simp
     with_reducible rfl
    rotate_left
    ·simp only [Act.put, List.setIfInBounds_toArray, List.set_cons_zero, List.set_cons_succ, i64_w, i32_w]
     rfl
    refine pA_ 12 42 A99993_13 HT_ ?_
    refine pA_ 13 43 A99993_14 HT_ ?_
    refine done_ (done_of HT_.out (by kernel_rfl)) ?_
    try go_wp2
    go_roundg k2
    case measure => have := HK1.out; have := HK2.out; omega
    case rel => exact ⟨(x3_1), (wrap64 (x4_1 + 1)), qgsrt_23, H', ⟨by have := HK1.out; have := HK2.out; omega⟩, ⟨qgsrt_1⟩, ⟨qgsrt_0⟩⟩
   rw [if_neg c12] at H
   have c12b0 : ((rd x3_1 (ji5)) == (rd l0 x4_1)) = false := beq_eq_false_iff_ne.mpr c12
   have c12b1 : ((rd x3_1 (ji5)) != (rd l0 x4_1)) = true := bne_iff_ne.mpr c12
   obtain ⟨y381, hy381⟩ : ∃ y_ : List Int, y_ = (([] : List Int)) := ⟨_, rfl⟩
   replace H : (if 0 ≤ x5_2 then (if x5_2 ≤ (x3_1.length : Int) then ((some (x3_1.take (x5_2 : Int).toNat : List Int)).bind fun y384 => (if y381.length + y384.length < 17592186044416 then ((some (y381 ++ y384 : List Int)).bind fun y388 => ((some (([rd l0 x4_1] : List Int) : List Int)).bind fun y392 => (if y388.length + y392.length < 17592186044416 then ((some (y388 ++ y392 : List Int)).bind fun y395 => ((some (x3_1.drop (x5_2 : Int).toNat : List Int)).bind fun y398 => (if y395.length + y398.length < 17592186044416 then (sleuthref05_Sorted.l0 k2 l0 (y395 ++ y398) (wrap64 (x4_1 + 1))) else (none)))) else (none)))) else (none))) else (none)) else (none)) = some r := by first | (rw [hy381]; with_reducible exact H) | (have H2_ := (Option.bind_some _ _).symm.trans H; rw [hy381]; with_reducible exact H2_) | (have H2_ := (Option.bind_some _ _).symm.trans H; with_reducible exact H2_) | with_reducible exact H | (rw [hy381]; exact H) | exact H
   have Ny381 := Aside0.mk hy381
   clear hy381
   by_cases c15 : 0 ≤ x5_2
   rotate_left
   ·rw [if_neg c15] at H
    exact absurd H (by simp)
   rw [if_pos c15] at H
   have c15b0 := eq_true c15
   have c15b1 : decide (0 ≤ x5_2) = true := decide_eq_true c15
   clear c15
   by_cases c16 : x5_2 ≤ (x3_1.length : Int)
   rotate_left
   ·rw [if_neg c16] at H
    exact absurd H (by simp)
   rw [if_pos c16] at H
   have c16b0 := eq_true c16
   have c16b1 : decide (x5_2 ≤ (x3_1.length : Int)) = true := decide_eq_true c16
   clear c16
   obtain ⟨y384, hy384⟩ : ∃ y_ : List Int, y_ = (x3_1.take (x5_2 : Int).toNat) := ⟨_, rfl⟩
   replace H : (if y381.length + y384.length < 17592186044416 then ((some (y381 ++ y384 : List Int)).bind fun y388 => ((some (([rd l0 x4_1] : List Int) : List Int)).bind fun y392 => (if y388.length + y392.length < 17592186044416 then ((some (y388 ++ y392 : List Int)).bind fun y395 => ((some (x3_1.drop (x5_2 : Int).toNat : List Int)).bind fun y398 => (if y395.length + y398.length < 17592186044416 then (sleuthref05_Sorted.l0 k2 l0 (y395 ++ y398) (wrap64 (x4_1 + 1))) else (none)))) else (none)))) else (none)) = some r := by first | (rw [hy384]; with_reducible exact H) | (have H2_ := (Option.bind_some _ _).symm.trans H; rw [hy384]; with_reducible exact H2_) | (have H2_ := (Option.bind_some _ _).symm.trans H; with_reducible exact H2_) | with_reducible exact H | (rw [hy384]; exact H) | exact H
   have Ny384 := Aside0.mk hy384
   clear hy384
   by_cases c17 : y381.length + y384.length < 17592186044416
   rotate_left
   ·rw [if_neg c17] at H
    exact absurd H (by simp)
   rw [if_pos c17] at H
   have LMc17 := Aside0.mk c17
   clear c17
   obtain ⟨y388, hy388⟩ : ∃ y_ : List Int, y_ = (y381 ++ y384) := ⟨_, rfl⟩
   replace H : ((some (([rd l0 x4_1] : List Int) : List Int)).bind fun y392 => (if y388.length + y392.length < 17592186044416 then ((some (y388 ++ y392 : List Int)).bind fun y395 => ((some (x3_1.drop (x5_2 : Int).toNat : List Int)).bind fun y398 => (if y395.length + y398.length < 17592186044416 then (sleuthref05_Sorted.l0 k2 l0 (y395 ++ y398) (wrap64 (x4_1 + 1))) else (none)))) else (none))) = some r := by first | (rw [hy388]; with_reducible exact H) | (have H2_ := (Option.bind_some _ _).symm.trans H; rw [hy388]; with_reducible exact H2_) | (have H2_ := (Option.bind_some _ _).symm.trans H; with_reducible exact H2_) | with_reducible exact H | (rw [hy388]; exact H) | exact H
   have Ny388 := Aside0.mk hy388
   clear hy388
   obtain ⟨y392, hy392⟩ : ∃ y_ : List Int, y_ = (([rd l0 x4_1] : List Int)) := ⟨_, rfl⟩
   replace H : (if y388.length + y392.length < 17592186044416 then ((some (y388 ++ y392 : List Int)).bind fun y395 => ((some (x3_1.drop (x5_2 : Int).toNat : List Int)).bind fun y398 => (if y395.length + y398.length < 17592186044416 then (sleuthref05_Sorted.l0 k2 l0 (y395 ++ y398) (wrap64 (x4_1 + 1))) else (none)))) else (none)) = some r := by first | (rw [hy392]; with_reducible exact H) | (have H2_ := (Option.bind_some _ _).symm.trans H; rw [hy392]; with_reducible exact H2_) | (have H2_ := (Option.bind_some _ _).symm.trans H; with_reducible exact H2_) | with_reducible exact H | (rw [hy392]; exact H) | exact H
   have Ny392 := Aside0.mk hy392
   clear hy392
   by_cases c18 : y388.length + y392.length < 17592186044416
   rotate_left
   ·rw [if_neg c18] at H
    exact absurd H (by simp)
   rw [if_pos c18] at H
   have LMc18 := Aside0.mk c18
   clear c18
   obtain ⟨y395, hy395⟩ : ∃ y_ : List Int, y_ = (y388 ++ y392) := ⟨_, rfl⟩
   replace H : ((some (x3_1.drop (x5_2 : Int).toNat : List Int)).bind fun y398 => (if y395.length + y398.length < 17592186044416 then (sleuthref05_Sorted.l0 k2 l0 (y395 ++ y398) (wrap64 (x4_1 + 1))) else (none))) = some r := by first | (rw [hy395]; with_reducible exact H) | (have H2_ := (Option.bind_some _ _).symm.trans H; rw [hy395]; with_reducible exact H2_) | (have H2_ := (Option.bind_some _ _).symm.trans H; with_reducible exact H2_) | with_reducible exact H | (rw [hy395]; exact H) | exact H
   have Ny395 := Aside0.mk hy395
   clear hy395
   have c19b0 := eq_true (of_decide_eq_true qgsrt_2 : 0 ≤ x5_2)
   have c20b0 := eq_true (of_decide_eq_true qgsrt_2 : x5_2 ≤ (x3_1.length : Int))
   obtain ⟨y398, hy398⟩ : ∃ y_ : List Int, y_ = (x3_1.drop (x5_2 : Int).toNat) := ⟨_, rfl⟩
   replace H : (if y395.length + y398.length < 17592186044416 then (sleuthref05_Sorted.l0 k2 l0 (y395 ++ y398) (wrap64 (x4_1 + 1))) else (none)) = some r := by first | (rw [hy398]; with_reducible exact H) | (have H2_ := (Option.bind_some _ _).symm.trans H; rw [hy398]; with_reducible exact H2_) | (have H2_ := (Option.bind_some _ _).symm.trans H; with_reducible exact H2_) | with_reducible exact H | (rw [hy398]; exact H) | exact H
   have Ny398 := Aside0.mk hy398
   clear hy398
   by_cases c21 : y395.length + y398.length < 17592186044416
   rotate_left
   ·rw [if_neg c21] at H
    exact absurd H (by simp)
   rw [if_pos c21] at H
   have LMc21 := Aside0.mk c21
   clear c21
   obtain ⟨y402, hy402⟩ : ∃ y_ : List Int, y_ = (y395 ++ y398) := ⟨_, rfl⟩
   replace H : (sleuthref05_Sorted.l0 k2 l0 y402 (wrap64 (x4_1 + 1))) = some r := by first | (rw [hy402]; with_reducible exact H) | (have H2_ := (Option.bind_some _ _).symm.trans H; rw [hy402]; with_reducible exact H2_) | (have H2_ := (Option.bind_some _ _).symm.trans H; with_reducible exact H2_) | with_reducible exact H | (rw [hy402]; exact H) | exact H
   have Ny402 := Aside0.mk hy402
   clear hy402
   have H' := Aside0.mk H
   clear H
   try go_wp2
   have n0_ := Aside0.mk (Kd.R_drew HO_3.out)
   have n1_ := Aside0.mk (below_drew1 HB.out)
   clear HO_3
   clear HB
   have HO_3 := n0_
   have HB := n1_
   clear n0_ n1_
   have p377 : 0 ≤ ((ji5) : Int) := of_decide_eq_true qgsrt_2
   have q377 : (ji5) < (x3_1.length : Int) := of_decide_eq_true qgsrt_2
   obtain ⟨ad377, e377, hx377_0⟩ := Kd.at_int (Kd.R_reads' HO_3.out).2.2 (ji5) p377 q377
   cases e377
   replace p377 := eq_true p377
   replace q377 := eq_true q377
   have p378 : 0 ≤ (x4_1 : Int) := of_decide_eq_true qgsrt_2
   have q378 : x4_1 < (l0.length : Int) := of_decide_eq_true qgsrt_2
   obtain ⟨ad378, e378, hx378_0⟩ := Kd.at_int HR0.out x4_1 p378 q378
   have hw378_0 := hx378_0
   cases e378
   replace hx378_0 := (HB.out.cell (World.block_lt_of_cell? w _ hx378_0)).trans hx378_0
   replace p378 := eq_true p378
   replace q378 := eq_true q378
   refine start_ (n := 14) (S := fun w' => w'.cell? (ad377.add ((ji5)).toNat) = some (.int .i64 (rd x3_1 (ji5))) ∧ w'.cell? (ad378.add (x4_1).toNat) = some (.int .i64 (rd l0 x4_1))) (ds := []) A99993_0 (by kernel_rfl) rfl rfl ⟨hx377_0, ((HB.out.cell (World.block_lt_of_cell? w _ hw378_0)).trans hw378_0)⟩ (fun hHeld => ?_); refine with_tabW sleuthref05_Sorted.tab6 sleuthref05_Sorted.bits6 (fun HT_ HW_ => ?_)
   generalize wr.drew = w22 at HO_3 HB hx377_0 hx378_0 hHeld ⊢
   refine pA_ 0 14 A99993_1 HT_ ?_
   refine pA_ 1 15 A99993_2 HT_ ?_
   refine pA_ 2 16 A99993_3 HT_ ?_
   refine pA_ 3 17 A99993_4 HT_ ?_
   refine pA_ 4 18 A99993_5 HT_ ?_
   refine pA_ 5 19 A99993_6 HT_ ?_
   refine pA_ 6 20 A99993_7 HT_ ?_
   refine pA_ 8 22 A99993_34 HT_ ?_
   refine pA_ 9 23 A99993_35 HT_ ?_
   refine pA_ 10 24 A99993_36 HT_ ?_
   refine take_ (i := 7) (N := some 21) (v := ?_) (a' := ?_) A99993_11 rfl rfl (take_ofW HT_.out HW_.out (by kernel_rfl)) (fun _ _ _ h => h) (Or.inl ⟨by rfl, ?_⟩) hHeld ?_ ?_
   rotate_left
   ·rintro w' ⟨s0, s1⟩
    go_simp
    with_reducible rfl
   rotate_left
   ·simp only [Act.put, List.setIfInBounds_toArray, List.set_cons_zero, List.set_cons_succ, i64_w, i32_w]
    rfl
   refine take_ (i := 11) (N := some 25) (v := ?_) (a' := ?_) A99993_12 rfl rfl (take_ofW HT_.out HW_.out (by kernel_rfl)) (fun _ _ _ h => h) (Or.inl ⟨by rfl, ?_⟩) hHeld ?_ ?_
   rotate_left
   ·rintro w' ⟨s0, s1⟩
    go_simp
    with_reducible rfl
   rotate_left
   ·simp only [Act.put, List.setIfInBounds_toArray, List.set_cons_zero, List.set_cons_succ, i64_w, i32_w]
    rfl
   refine pA_ 12 26 A99993_13 HT_ ?_
   refine pA_ 13 27 A99993_14 HT_ ?_
   refine done_ (done_of HT_.out (by kernel_rfl)) ?_
   try go_wp2
   have n0_ := Aside0.mk (Kd.R_drew HO_3.out)
   have n1_ := Aside0.mk (below_drew1 HB.out)
   clear HO_3
   clear HB
   have HO_3 := n0_
   have HB := n1_
   clear n0_ n1_
   have p379 : 0 ≤ ((ji5) : Int) := of_decide_eq_true qgsrt_2
   have q379 : (ji5) < (x3_1.length : Int) := of_decide_eq_true qgsrt_2
   obtain ⟨ad379, e379, hx379_0⟩ := Kd.at_int (Kd.R_reads' HO_3.out).2.2 (ji5) p379 q379
   obtain rfl : ad377 = ad379 := (by injection e379)
   replace p379 := eq_true p379
   replace q379 := eq_true q379
   have p380 : 0 ≤ (x4_1 : Int) := of_decide_eq_true qgsrt_2
   have q380 : x4_1 < (l0.length : Int) := of_decide_eq_true qgsrt_2
   obtain ⟨ad380, e380, hx380_0⟩ := Kd.at_int HR0.out x4_1 p380 q380
   have hw380_0 := hx380_0
   obtain rfl : ad378 = ad380 := (by injection e380)
   replace hx380_0 := (HB.out.cell (World.block_lt_of_cell? w _ hx380_0)).trans hx380_0
   replace p380 := eq_true p380
   replace q380 := eq_true q380
   refine start_ (n := 14) (S := fun w' => w'.cell? (ad377.add ((ji5)).toNat) = some (.int .i64 (rd x3_1 (ji5))) ∧ w'.cell? (ad378.add (x4_1).toNat) = some (.int .i64 (rd l0 x4_1))) (ds := []) A99993_0 (by kernel_rfl) rfl rfl ⟨hx379_0, ((HB.out.cell (World.block_lt_of_cell? w _ hw380_0)).trans hw380_0)⟩ (fun hHeld => ?_); refine with_tabW sleuthref05_Sorted.tab8 sleuthref05_Sorted.bits8 (fun HT_ HW_ => ?_)
   generalize w22.drew = w23 at HO_3 HB hx379_0 hx380_0 hHeld ⊢
   refine pA_ 0 30 A99993_1 HT_ ?_
   refine pA_ 1 31 A99993_2 HT_ ?_
   refine pA_ 2 32 A99993_3 HT_ ?_
   refine pA_ 3 33 A99993_4 HT_ ?_
   refine pA_ 4 34 A99993_5 HT_ ?_
   refine pA_ 5 35 A99993_6 HT_ ?_
   refine pA_ 6 36 A99993_7 HT_ ?_
   refine pA_ 8 38 A99993_34 HT_ ?_
   refine pA_ 9 39 A99993_35 HT_ ?_
   refine pA_ 10 40 A99993_36 HT_ ?_
   refine take_ (i := 7) (N := some 37) (v := ?_) (a' := ?_) A99993_11 rfl rfl (take_ofW HT_.out HW_.out (by kernel_rfl)) (fun _ _ _ h => h) (Or.inl ⟨by rfl, ?_⟩) hHeld ?_ ?_
   rotate_left
   ·rintro w' ⟨s0, s1⟩
    go_simp
    with_reducible rfl
   rotate_left
   ·simp only [Act.put, List.setIfInBounds_toArray, List.set_cons_zero, List.set_cons_succ, i64_w, i32_w]
    rfl
   refine take_ (i := 11) (N := some 41) (v := ?_) (a' := ?_) A99993_12 rfl rfl (take_ofW HT_.out HW_.out (by kernel_rfl)) (fun _ _ _ h => h) (Or.inl ⟨by rfl, ?_⟩) hHeld ?_ ?_
   rotate_left
   ·rintro w' ⟨s0, s1⟩
    go_simp
    with_reducible rfl
   rotate_left
   ·simp only [Act.put, List.setIfInBounds_toArray, List.set_cons_zero, List.set_cons_succ, i64_w, i32_w]
    rfl
   refine pA_ 12 42 A99993_13 HT_ ?_
   refine pA_ 13 43 A99993_14 HT_ ?_
   refine done_ (done_of HT_.out (by kernel_rfl)) ?_
   try go_wp2
   have n0_ := Aside0.mk (Kd.R_drew HO_3.out)
   have n1_ := Aside0.mk (below_drew1 HB.out)
   clear HO_3
   clear HB
   have HO_3 := n0_
   have HB := n1_
   clear n0_ n1_
   have q25 : (x5_2 : Int) ≤ ((x3_1.length : Int) : Int) := of_decide_eq_true qgsrt_2
   obtain ⟨i025, hi025, _, hsz25, _⟩ := info_parts info3
   have hroom25 : x3_1.length ≤ co3 := (Kd.R_reads' HO_3.out).2.1
   have hC25 : Kd.C (Kd.int .i64) _ (some ad377) x3_1.length x3_1 := (Kd.R_reads' HO_3.out).2.2
   have hcut25 := cut_to (P := Try.prog) 26 3 .i64 Try.underlying26 hi025 (some ad377) x3_1.length co3 x5_2 (of_decide_eq_true qgsrt_2) q25 hroom25
   have hr25 := Kd.C_take (m := (x5_2 : Int).toNat) hC25 (by omega)
   have hy25 : y384.length = (x5_2 : Int).toNat := (by rw [Ny384.out, List.length_take]; omega)
   rw [← Ny384.out] at hr25
   rw [← hy25] at hcut25
   have HR387 := Aside0.mk hr25
   have HC387 := Aside0.mk (show y384.length ≤ co3 from by omega)
   clear hr25 hC25 hroom25 hi025 hsz25
   have KY25 := Aside0.mk hy25
   clear hy25
   have KL25 := Aside0.mk (show (x5_2 : Int).toNat ≤ x3_1.length from by omega)
   replace q25 := eq_true q25
   have p391 : 0 ≤ (x4_1 : Int) := of_decide_eq_true qgsrt_2
   have q391 : x4_1 < (l0.length : Int) := of_decide_eq_true qgsrt_2
   obtain ⟨ad391, e391, hx391_0⟩ := Kd.at_int HR0.out x4_1 p391 q391
   have hw391_0 := hx391_0
   obtain rfl : ad378 = ad391 := (by injection e391)
   replace hx391_0 := (HB.out.cell (World.block_lt_of_cell? w _ hx391_0)).trans hx391_0
   replace p391 := eq_true p391
   replace q391 := eq_true q391
   have q26 : (x5_2 : Int) ≤ ((x3_1.length : Int) : Int) := of_decide_eq_true qgsrt_2
   obtain ⟨i026, hi026, _, hsz26, _⟩ := info_parts info3
   have hroom26 : x3_1.length ≤ co3 := (Kd.R_reads' HO_3.out).2.1
   have hC26 : Kd.C (Kd.int .i64) _ (some ad377) x3_1.length x3_1 := (Kd.R_reads' HO_3.out).2.2
   have q026 : (0 : Int) ≤ (x5_2 : Int) := of_decide_eq_true qgsrt_2
   have hcut26 := cut_from (P := Try.prog) 26 3 .i64 Try.underlying26 hi026 1 hsz26 (some ad377) x3_1.length co3 x5_2 q026 q26
   have hr26 := Kd.C_drop (m := (x5_2 : Int).toNat) (c := co3) hC26 (by omega) hroom26
   obtain ⟨A26, hA26⟩ : ∃ A1, A1 = (if co3 = (x5_2 : Int).toNat then (some ad377) else ((some ad377) : Option Addr).map (·.add ((x5_2 : Int).toNat * 1))) := ⟨_, rfl⟩
   obtain ⟨c26, hc26⟩ : ∃ c1, c1 = co3 - (x5_2 : Int).toNat := ⟨_, rfl⟩
   have hy26 : y398.length = x3_1.length - (x5_2 : Int).toNat := (by rw [Ny398.out, List.length_drop] <;> omega)
   rw [show (x3_1).drop (x5_2 : Int).toNat = y398 from Ny398.out.symm] at hr26
   replace hr26 : Kd.C (Kd.int .i64) _ A26 y398.length y398 := (by rw [hA26]; exact hr26)
   rw [← hy26, ← hA26, ← hc26] at hcut26
   have HR401 := Aside0.mk hr26
   have HC401 := Aside0.mk (show y398.length ≤ c26 from by rw [hy26, hc26]; exact Nat.sub_le_sub_right hroom26 _)
   clear hr26 hC26 hroom26 hi026 hsz26 hc26
   have KY26 := Aside0.mk hy26
   have KA26 := Aside0.mk hA26
   clear hy26 hA26
   have KL26 := Aside0.mk (show (x5_2 : Int).toNat ≤ x3_1.length from by omega)
   replace q26 := eq_true q26
   refine start_ (n := 16) (S := fun w' => w'.cell? (ad378.add (x4_1).toNat) = some (.int .i64 (rd l0 x4_1))) (ds := []) A99993_15 (by kernel_rfl) rfl rfl (((HB.out.cell (World.block_lt_of_cell? w _ hw391_0)).trans hw391_0)) (fun hHeld => ?_); refine with_tabW sleuthref05_Sorted.tab9 sleuthref05_Sorted.bits9 (fun HT_ HW_ => ?_)
   generalize w23.drew = w24 at HO_3 HB HR387 HR401 hx391_0 hHeld ⊢
   refine pA_ 1 45 A99993_16 HT_ ?_
   refine pA_ 2 46 A99993_17 HT_ ?_
   refine pA_ 3 47 A99993_18 HT_ ?_
   refine pA_ 5 49 A99993_19 HT_ ?_
   refine pA_ 6 50 A99993_20 HT_ ?_
   refine pA_ 7 51 A99993_21 HT_ ?_
   refine pA_ 11 55 A99993_22 HT_ ?_
   refine pA_ 12 56 A99993_23 HT_ ?_
   refine pA_ 13 57 A99993_24 HT_ ?_
   refine take_ (i := 8) (N := some 52) (v := ?_) (a' := ?_) A99993_25 rfl rfl (take_ofW HT_.out HW_.out (by kernel_rfl)) (fun _ _ _ h => h) (Or.inl ⟨by rfl, ?_⟩) hHeld ?_ ?_
   rotate_left
   ·intro w' s0
    go_simp
    with_reducible rfl
   rotate_left
   ·simp only [Act.put, List.setIfInBounds_toArray, List.set_cons_zero, List.set_cons_succ, i64_w, i32_w]
    rfl
   have SF : ∀ w', Aside0 (Below w.heap.size w w') → w'.cell? (ad378.add (x4_1).toNat) = some (.int .i64 (rd l0 x4_1)) := fun w' HB => (((HB.out.cell (World.block_lt_of_cell? w _ hw391_0)).trans hw391_0))
   have HR : Aside0 (Rws _ w.heap.size [(.slice none 0 0, []), (.slice none 0 0, []), (.slice (some ad377) x3_1.length co3, x3_1)]) := ⟨Rws.nil_ (Rws.nil_ (Rws.cons HO_3.out (fun _ _ _ hq => absurd hq List.not_mem_nil) Rws.empty))⟩
   clear HO_3
   refine join_ (σ := Value × Value × Value) 3 A99993_26 (fun s_ => [(44, s_.1), (48, s_.2.1), (53, s_.2.2)]) (fun s_ w' => (w'.cell? (ad378.add (x4_1).toNat) = some (.int .i64 (rd l0 x4_1))) ∧ Aside0 (Rws w' w.heap.size [(s_.2.1, y388), (s_.2.2, y392), (.slice (some ad377) x3_1.length co3, x3_1)]) ∧ Aside0 (Below w.heap.size w w')) ?_ ?_
   rotate_left
   ·intro hCont
    refine two_ (i := 0) (j := 9) (Ni := some 44) (Nj := some 53) A99993_27 A99993_28 rfl rfl rfl rfl (two_of HT_.out (by kernel_rfl)) (by decide) (by decide) (fun K hK => ?_) (fun K hK => ?_)
    ·refine lt_ HR HB 0 44 Ny381 rfl (fun v44 w' HR HB => ?_)
     refine hK.out _ _ (SF _ HB) (fun hHeld => ?_)
     clear hK K
     refine nm_ ?_
     refine two_ (i := 4) (j := 9) (Ni := some 48) (Nj := some 53) A99993_29 A99993_30 rfl rfl rfl rfl (two_of HT_.out (by kernel_rfl)) (by decide) (by decide) (fun K hK => ?_) (fun K hK => ?_)
     ·refine apC_ (.tmp 44) (.tmp 47) 0 48 HR HB Ny388 rfl rfl rfl (by rw [Ny384.out]; exact Kd.C_take (Kd.R_reads' (HR.out.1 2 _ rfl)).2.2 KL25.out) rfl LMc17.out (fun v48 w' HR HB => ?_)
      refine hK.out _ _ (SF _ HB) (fun hHeld => ?_)
      clear hK K
      refine nm_ ?_
      refine one_ (i := 9) (N := some 53) A99993_26 rfl rfl (one_of HT_.out (by kernel_rfl)) (by decide) (fun K hK => ?_)
      refine lt_ HR HB 1 53 Ny392 rfl (fun v53 w' HR HB => ?_)
      refine hK.out _ _ (SF _ HB) (fun hHeld => ?_)
      clear hK K
      exact nm_ (hCont (v44, v48, v53) _ ⟨hHeld, HR, HB⟩)
     ·refine lt_ HR HB 1 53 Ny392 rfl (fun v53 w' HR HB => ?_)
      refine hK.out _ _ (SF _ HB) (fun hHeld => ?_)
      clear hK K
      refine nm_ ?_
      refine one_ (i := 4) (N := some 48) A99993_26 rfl rfl (one_of HT_.out (by kernel_rfl)) (by decide) (fun K hK => ?_)
      refine apC_ (.tmp 44) (.tmp 47) 0 48 HR HB Ny388 rfl rfl rfl (by rw [Ny384.out]; exact Kd.C_take (Kd.R_reads' (HR.out.1 2 _ rfl)).2.2 KL25.out) rfl LMc17.out (fun v48 w' HR HB => ?_)
      refine hK.out _ _ (SF _ HB) (fun hHeld => ?_)
      clear hK K
      exact nm_ (hCont (v44, v48, v53) _ ⟨hHeld, HR, HB⟩)
    ·refine lt_ HR HB 1 53 Ny392 rfl (fun v53 w' HR HB => ?_)
     refine hK.out _ _ (SF _ HB) (fun hHeld => ?_)
     clear hK K
     refine nm_ ?_
     refine one_ (i := 0) (N := some 44) A99993_30 rfl rfl (one_of HT_.out (by kernel_rfl)) (by decide) (fun K hK => ?_)
     refine lt_ HR HB 0 44 Ny381 rfl (fun v44 w' HR HB => ?_)
     refine hK.out _ _ (SF _ HB) (fun hHeld => ?_)
     clear hK K
     refine nm_ ?_
     refine one_ (i := 4) (N := some 48) A99993_26 rfl rfl (one_of HT_.out (by kernel_rfl)) (by decide) (fun K hK => ?_)
     refine apC_ (.tmp 44) (.tmp 47) 0 48 HR HB Ny388 rfl rfl rfl (by rw [Ny384.out]; exact Kd.C_take (Kd.R_reads' (HR.out.1 2 _ rfl)).2.2 KL25.out) rfl LMc17.out (fun v48 w' HR HB => ?_)
     refine hK.out _ _ (SF _ HB) (fun hHeld => ?_)
     clear hK K
     exact nm_ (hCont (v44, v48, v53) _ ⟨hHeld, HR, HB⟩)
   clear HR HB hHeld
   rintro ⟨v44, v48, v53⟩ w' ⟨hHeld, HR, HB⟩
   refine nm_ ?_
   refine one_ (i := 10) (N := some 54) A99993_31 rfl rfl (one_of HT_.out (by kernel_rfl)) (by decide) (fun K hK => ?_)
   refine ap_ (.tmp 48) (.tmp 53) 1 0 54 HR HB Ny395 rfl rfl rfl rfl rfl LMc18.out (fun v54 w' HR HB => ?_)
   refine hK.out _ _ (SF _ HB) (fun hHeld => ?_)
   clear hK K
   refine nm_ ?_
   refine one_ (i := 14) (N := some 58) A99993_32 rfl rfl (one_of HT_.out (by kernel_rfl)) (by decide) (fun K hK => ?_)
   refine apC_ (.tmp 54) (.tmp 57) 0 58 HR HB Ny402 rfl rfl rfl (by rw [Ny398.out, KA26.out]; exact Kd.C_drop (m := (x5_2 : Int).toNat) (c := co3) (Kd.R_reads' (HR.out.1 2 _ rfl)).2.2 KL26.out (Kd.R_reads' (HR.out.1 2 _ rfl)).2.1) rfl LMc21.out (fun v58 w' HR HB => ?_)
   refine hK.out _ _ (SF _ HB) (fun hHeld => ?_)
   clear hK K
   refine nm_ ?_
   refine pA_ 15 3 A99993_33 HT_ ?_
   refine done_ (done_of HT_.out (by kernel_rfl)) ?_
   try go_wp2
   go_roundg k2
   case measure => have := HK1.out; have := HK2.out; omega
   case rel => exact ⟨(y402), (wrap64 (x4_1 + 1)), qgsrt_23, H', ⟨by have := HK1.out; have := HK2.out; omega⟩, ⟨by (with_reducible repeat (first | apply Kd.R_alloc | apply Kd.R_drewN | apply Kd.R_drew)); exact Rws.out HR.out 0 rfl (fun _ _ => trivial)⟩, ⟨qgsrt_0⟩⟩

end Go.Proofs.Ytcjgmofgfblmnaa.Q