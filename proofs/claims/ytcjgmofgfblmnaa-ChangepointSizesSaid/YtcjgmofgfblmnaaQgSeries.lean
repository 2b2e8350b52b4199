-- Laid by myprint.py (a program of this session's, over the kit's printer and with functions proved by hand)
import Derived.Test.YtcjgmofgfblmnaaTy
namespace Go.Proofs.Ytcjgmofgfblmnaa.Q
open Go.RowKit Go.Proofs.YtcjgmofgfblmnaaW.PrintWords Go.Proofs.YtcjgmofgfblmnaaW.PrintLast Go.Proofs.YtcjgmofgfblmnaaW.PrintMore
attribute [local go_sem] max2_int min2_int max_two min_two max_three min_three max_four min_four   -- for this text's walks alone
set_option linter.unusedVariables false
set_option linter.unusedSimpArgs false

attribute [local go_sem high] eqA25
theorem qgseries_0 {p : Prop} (h : p := by repeat (first | (with_reducible first | exact HB.out | apply below_alloc | apply pw_below_drewN | apply below_drew1) | exact HB.out)) : p := h
theorem qgseries_1 {p : Prop} (h : p := by repeat (first | (with_reducible first | exact HB.out | apply below_alloc | apply pw_below_drewN | apply below_drew1 | refine below_set ?_ GE257.out) | exact HB.out)) : p := h
theorem qgseries_2 {p : Prop} (h : p := by repeat (first | (with_reducible first | exact HB.out | apply below_alloc | apply pw_below_drewN | apply below_drew1 | refine below_set ?_ GE269.out) | exact HB.out)) : p := h
theorem qgseries_3 {p : Prop} (h : p := by (with_reducible repeat (first | refine blk_drewN ?_ _ | refine blk_drew ?_ | refine blk_alloc ?_ _)); exact BK257.out) : p := h
theorem qgseries_4 {p : Prop} (h : p := by repeat (first | (with_reducible first | exact HB.out | apply below_alloc | apply pw_below_drewN | apply below_drew1 | refine below_set ?_ GE262.out) | exact HB.out)) : p := h
theorem qgseries_5 {p : Prop} (h : p := by first | rfl | (simp [errW_none, errW_some] <;> rfl) | (simp [*, errW_none, errW_some] <;> rfl)) : p := h
theorem qgseries_6 {p : Prop} (h : p := by (try simp only [List.map_toArray, List.map_cons, List.map_nil]); first | done | rfl | (simp only [List.length_drop, List.length_take]; rfl)) : p := h
theorem qgseries_7 {p : Prop} (h : p := by (with_reducible repeat (first | refine blk_drewN ?_ _ | refine blk_drew ?_ | refine blk_alloc ?_ _)); exact BK262.out) : p := h
theorem qgseries_8 {p : Prop} (h : p := by (with_reducible repeat (first | refine blk_drewN ?_ _ | refine blk_drew ?_ | refine blk_alloc ?_ _)); exact BK269.out) : p := h
theorem qgseries_9 {p : Prop} (h : p := by first | rfl | (simp; done) | (simp [*]; done)) : p := h
theorem qgseries_10 {p : Prop} (h : p := by repeat (first | (with_reducible first | exact HB.out | apply below_alloc | apply pw_below_drewN | apply below_drew1 | refine below_set ?_ GE267.out) | exact HB.out)) : p := h
theorem qgseries_11 {p : Prop} (h : p := by repeat (first | exact Drawn0.refl _ | apply Drawn0.step)) : p := h
theorem qgseries_12 {p : Prop} (h : p := by first | (go_simp; done) | (go_simp; rfl)) : p := h
theorem qgseries_13 {p : Prop} (h : p := by (with_reducible repeat (first | refine blk_drewN ?_ _ | refine blk_drew ?_ | refine blk_alloc ?_ _)); refine blk_put (cs := #[.int .i64 0, .int .i64 0]) ?_ 1 _ rfl; (with_reducible repeat (first | refine blk_drewN ?_ _ | refine blk_drew ?_ | refine blk_alloc ?_ _)); refine blk_put (cs := #[.int .i64 0, .int .i64 0]) ?_ 0 _ rfl; (with_reducible repeat (first | refine blk_drewN ?_ _ | refine blk_drew ?_ | refine blk_alloc ?_ _)); exact BK257.out) : p := h
theorem qgseries_14 {p : Prop} (h : p := by first | (with_reducible assumption) | assumption) : p := h
theorem qgseries_15 {p : Prop} (h : p := by repeat (first | (with_reducible first | exact HB.out | apply below_alloc | apply pw_below_drewN | apply below_drew1 | refine below_set ?_ GE262.out | refine below_set ?_ GE266.out) | exact HB.out)) : p := h
theorem qgseries_16 {p : Prop} (h : p := by (with_reducible repeat (first | refine blk_drewN ?_ _ | refine blk_drew ?_ | refine blk_alloc ?_ _)); exact BK267.out) : p := h
theorem qgseries_17 {p : Prop} (h : p := by repeat (first | (with_reducible first | exact HB.out | apply below_alloc | apply pw_below_drewN | apply below_drew1 | refine below_set ?_ GE257.out | refine below_set ?_ GE261.out) | exact HB.out)) : p := h
theorem qgseries_18 {p : Prop} (h : p := by repeat (first | exact (Kd.C_below HR0_6.out HB.out) | (with_reducible refine Kd.C_alloc ?_ _) | (with_reducible refine Kd.C_drewN ?_ _) | (with_reducible refine Kd.C_drew ?_))) : p := h
/-! ### attribute_within: function 65 -/
def attribute_within.l0 : Nat → ByteArray → Int → Int → Int → Int → Option (Bool)
 | 0, _, _, _, _, _ => none
 | k + 1, x0, x1, x2, x9, x10 => if x10 < x9 then (if 0 ≤ x10 then (if x10 < (x0.size : Int) then (if (bt x0 x10) < x1 then (some false) else (if (bt x0 x10) > x2 then (some false) else (attribute_within.l0 k x0 x1 x2 x9 (wrap64 (x10 + 1))))) else (none)) else (none)) else (some true)
def attribute_within.f (k : Nat) (a0 : ByteArray) (a1 : Int) (a2 : Int) : Option (Bool) := attribute_within.l0 k a0 a1 a2 (a0.size : Int) 0
theorem attribute_within.mono_l : ∀ k, (∀ y0 y1 y2 y3 y4, LeO (attribute_within.l0 k y0 y1 y2 y3 y4) (attribute_within.l0 (k + 1) y0 y1 y2 y3 y4))
 | 0 => fun _ _ _ _ _ r h => by simp [attribute_within.l0] at h
 | k + 1 => by
  have ih0 := attribute_within.mono_l k
  ·intro y0 y1 y2 y3 y4
   unfold attribute_within.l0
   repeat' first
   | (with_reducible exact ih0 _ _ _ _ _)
   | (with_reducible exact LeO.refl _)
   | (with_reducible exact LeO.none _)
   | (with_reducible refine LeO.ite ?_ ?_)
   | (with_reducible refine LeO.bind ?_ (fun _ => ?_))
   | exact ih0 _ _ _ _ _
   | exact LeO.none _
   | refine LeO.ite ?_ ?_
   | refine LeO.bind ?_ (fun _ => ?_)
theorem attribute_within.mono : ∀ a0 a1 a2 k, LeO (attribute_within.f k a0 a1 a2) (attribute_within.f (k + 1) a0 a1 a2) := by
 intro a0 a1 a2 k
 have ih0 := attribute_within.mono_l k
 unfold attribute_within.f
 repeat' first
   | (with_reducible exact ih0 _ _ _ _ _)
   | (with_reducible exact LeO.refl _)
   | (with_reducible exact LeO.none _)
   | (with_reducible refine LeO.ite ?_ ?_)
   | (with_reducible refine LeO.bind ?_ (fun _ => ?_))
   | exact ih0 _ _ _ _ _
   | exact LeO.none _
   | refine LeO.ite ?_ ?_
   | refine LeO.bind ?_ (fun _ => ?_)
set_option maxHeartbeats 8000000 in
set_option maxRecDepth 100000 in
theorem attribute_within.calls (k : Nat) (a0 : ByteArray) (a1 : Int) (a2 : Int) (r : Bool) (w : World) (h : attribute_within.f k a0 a1 a2 = some r) :
  Calls Try.prog 65 #[.string a0, .int .u8 a1, .int .u8 a2] w fun e w' => e = .returned (.bool r) ∧ Drawn0 w w' := by
 have H : (attribute_within.l0 k a0 a1 a2 (a0.size : Int) 0) = some r := h
 clear h
 have H' := Aside0.mk H
 clear H
 go_enter Try.func65, Try.ntmps65
 go_wp2
 go_loopg [10] k (fun kq v10 w' => ∃ (x10_1 : Int), v10 = .int .i64 x10_1 ∧ Aside0 (attribute_within.l0 kq a0 a1 a2 (a0.size : Int) x10_1 = some r) ∧ Aside0 (kq ≤ k) ∧ Drawn0 w w')
 case atStart => exact ⟨(0), qgseries_9, H', ⟨Nat.le_refl _⟩, qgseries_11⟩
 clear H'
 try clear p2
 obtain ⟨x10_1, rfl, HA, HK1, ⟨m1, rfl⟩⟩ := hrel
 cases gk with
 | zero => exact absurd HA.out (by simp [attribute_within.l0])
 | succ k1 =>
  have H := HA.out
  clear HA
  simp only [attribute_within.l0] at H
  by_cases c4 : x10_1 < (a0.size : Int)
  rotate_left
  ·rw [if_neg c4] at H
   have c4b0 : decide (x10_1 < (a0.size : Int)) = false := decide_eq_false c4
   clear c4
   obtain rfl := Option.some.inj H
   go_wp2
   go_ret
   exact ⟨qgseries_9, qgseries_11⟩
  rw [if_pos c4] at H
  have c4b0 : decide (x10_1 < (a0.size : Int)) = true := decide_eq_true c4
  clear c4
  by_cases c5 : 0 ≤ x10_1
  rotate_left
  ·rw [if_neg c5] at H
   exact absurd H (by simp)
  rw [if_pos c5] at H
  have c5b0 : decide (0 ≤ x10_1) = true := decide_eq_true c5
  clear c5
  by_cases c6 : x10_1 < (a0.size : Int)
  rotate_left
  ·rw [if_neg c6] at H
   exact absurd H (by simp)
  rw [if_pos c6] at H
  have c6b0 : decide (x10_1 < (a0.size : Int)) = true := decide_eq_true c6
  clear c6
  by_cases c8 : (bt a0 x10_1) < a1
  ·rw [if_pos c8] at H
   have c8b0 : decide ((bt a0 x10_1) < a1) = true := decide_eq_true c8
   clear c8
   obtain rfl := Option.some.inj H
   have p7 : 0 ≤ (x10_1 : Int) := of_decide_eq_true qgseries_14
   have q7 : x10_1 < (a0.size : Int) := of_decide_eq_true qgseries_14
   have hx7 := bt_at a0 x10_1
   replace p7 := eq_true p7
   replace q7 := eq_true q7
   go_wp2
   go_ret
   exact ⟨qgseries_9, qgseries_11⟩
  rw [if_neg c8] at H
  have c8b0 : decide ((bt a0 x10_1) < a1) = false := decide_eq_false c8
  clear c8
  by_cases c10 : (bt a0 x10_1) > a2
  ·rw [if_pos c10] at H
   have c10b0 : decide (a2 < (bt a0 x10_1)) = true := decide_eq_true c10
   clear c10
   obtain rfl := Option.some.inj H
   have p7 : 0 ≤ (x10_1 : Int) := of_decide_eq_true qgseries_14
   have q7 : x10_1 < (a0.size : Int) := of_decide_eq_true qgseries_14
   have hx7 := bt_at a0 x10_1
   replace p7 := eq_true p7
   replace q7 := eq_true q7
   have p9 : 0 ≤ (x10_1 : Int) := of_decide_eq_true qgseries_14
   have q9 : x10_1 < (a0.size : Int) := of_decide_eq_true qgseries_14
   have hx9 := bt_at a0 x10_1
   replace p9 := eq_true p9
   replace q9 := eq_true q9
   go_wp2
   go_ret
   exact ⟨qgseries_9, qgseries_11⟩
  rw [if_neg c10] at H
  have c10b0 : decide (a2 < (bt a0 x10_1)) = false := decide_eq_false c10
  clear c10
  have H' := Aside0.mk H
  clear H
  have p7 : 0 ≤ (x10_1 : Int) := of_decide_eq_true qgseries_14
  have q7 : x10_1 < (a0.size : Int) := of_decide_eq_true qgseries_14
  have hx7 := bt_at a0 x10_1
  replace p7 := eq_true p7
  replace q7 := eq_true q7
  have p9 : 0 ≤ (x10_1 : Int) := of_decide_eq_true qgseries_14
  have q9 : x10_1 < (a0.size : Int) := of_decide_eq_true qgseries_14
  have hx9 := bt_at a0 x10_1
  replace p9 := eq_true p9
  replace q9 := eq_true q9
  go_wp2
  go_roundg k1
  case measure => have := HK1.out; omega
  case rel => exact ⟨(wrap64 (x10_1 + 1)), qgseries_9, H', ⟨by have := HK1.out; omega⟩, qgseries_11⟩

/-! ### attribute_IsName: function 40 -/
def attribute_IsName.f (k : Nat) (a0 : ByteArray) : Option (Bool) := if a0.toList = ([] : List UInt8) then (some false) else (if (a0.size : Int) ≤ 64 then ((attribute_within.f k a0 33 126).bind fun t256 => (some t256)) else (some false))
theorem attribute_IsName.mono : ∀ a0 k, LeO (attribute_IsName.f k a0) (attribute_IsName.f (k + 1) a0) := by
 intro a0 k
 unfold attribute_IsName.f
 repeat' first
   | (with_reducible exact attribute_within.mono _ _ _ _)
   | (with_reducible exact LeO.refl _)
   | (with_reducible exact LeO.none _)
   | (with_reducible refine LeO.ite ?_ ?_)
   | (with_reducible refine LeO.bind ?_ (fun _ => ?_))
   | exact attribute_within.mono _ _ _ _
   | exact LeO.none _
   | refine LeO.ite ?_ ?_
   | refine LeO.bind ?_ (fun _ => ?_)
set_option maxHeartbeats 8000000 in
set_option maxRecDepth 100000 in
theorem attribute_IsName.calls (k : Nat) (a0 : ByteArray) (r : Bool) (w : World) (h : attribute_IsName.f k a0 = some r) :
  Calls Try.prog 40 #[.string a0] w fun e w' => e = .returned (.bool r) ∧ Drawn0 w w' := by
 have H : (if a0.toList = ([] : List UInt8) then (some false) else (if (a0.size : Int) ≤ 64 then ((attribute_within.f k a0 33 126).bind fun t256 => (some t256)) else (some false))) = some r := h
 clear h
 by_cases c2 : a0.toList = ([] : List UInt8)
 ·rw [if_pos c2] at H
  have c2b0 : (a0.toList == ([] : List UInt8)) = true := beq_iff_eq.mpr c2
  have c2b1 : (a0.toList != ([] : List UInt8)) = false := bne_eq_false_iff_eq.mpr c2
  clear c2
  obtain rfl := Option.some.inj H
  go_enter Try.func40, Try.ntmps40
  go_wp2
  go_ret
  exact ⟨qgseries_9, qgseries_11⟩
 rw [if_neg c2] at H
 have c2b0 : (a0.toList == ([] : List UInt8)) = false := beq_eq_false_iff_ne.mpr c2
 have c2b1 : (a0.toList != ([] : List UInt8)) = true := bne_iff_ne.mpr c2
 by_cases c3 : (a0.size : Int) ≤ 64
 rotate_left
 ·rw [if_neg c3] at H
  have c3b0 : decide ((a0.size : Int) ≤ 64) = false := decide_eq_false c3
  have c3b1 : decide (a0.size ≤ 64) = false := decide_eq_false (by omega)
  clear c3
  obtain rfl := Option.some.inj H
  go_enter Try.func40, Try.ntmps40
  go_wp2
  go_ret
  exact ⟨qgseries_9, qgseries_11⟩
 rw [if_pos c3] at H
 have c3b0 : decide ((a0.size : Int) ≤ 64) = true := decide_eq_true c3
 have c3b1 : decide (a0.size ≤ 64) = true := decide_eq_true (by omega)
 clear c3
 replace H := Option.bind_eq_some_iff.mp H
 obtain ⟨t256, A40, H⟩ := H
 replace H : (some t256) = some r := H
 have A4 := Aside0.mk A40
 clear A40
 obtain rfl := Option.some.inj H
 go_enter Try.func40, Try.ntmps40
 go_wp2_with (first | (go_at_call 65; (with_reducible refine (attribute_within.calls k a0 33 126 t256 _ A4.out).mono ?_); rintro e w' ⟨rfl, ⟨nd, rfl⟩⟩))
 go_ret
 exact ⟨qgseries_9, qgseries_11⟩

/-! ### fraction_magnitude: function 104 -/
def fraction_magnitude.f (a0 : Int) : Option (Int) := if a0 < 0 then (some (IntKind.u64.wrap (-(IntKind.u64.wrap (a0))))) else (some (IntKind.u64.wrap (a0)))
set_option maxHeartbeats 8000000 in
set_option maxRecDepth 100000 in
theorem fraction_magnitude.calls (a0 : Int) (r : Int) (w : World) (h : fraction_magnitude.f a0 = some r) :
  Calls Try.prog 104 #[.int .i64 a0] w fun e w' => e = .returned (.int .u64 r) ∧ Drawn0 w w' := by
 have H : (if a0 < 0 then (some (IntKind.u64.wrap (-(IntKind.u64.wrap (a0))))) else (some (IntKind.u64.wrap (a0)))) = some r := h
 clear h
 by_cases c2 : a0 < 0
 ·rw [if_pos c2] at H
  have c2b0 : decide (a0 < 0) = true := decide_eq_true c2
  clear c2
  obtain rfl := Option.some.inj H
  go_enter Try.func104, Try.ntmps104
  go_wp2
  go_ret
  exact ⟨qgseries_9, qgseries_11⟩
 rw [if_neg c2] at H
 have c2b0 : decide (a0 < 0) = false := decide_eq_false c2
 clear c2
 obtain rfl := Option.some.inj H
 go_enter Try.func104, Try.ntmps104
 go_wp2
 go_ret
 exact ⟨qgseries_9, qgseries_11⟩

/-! ### fraction_gcd: function 105 -/
def fraction_gcd.l0 : Nat → Int → Int → Option (Int)
 | 0, _, _ => none
 | k + 1, x0, x1 => if x1 = 0 then (some x0) else (fraction_gcd.l0 k x1 (Int.tmod x0 x1))
def fraction_gcd.f (k : Nat) (a0 : Int) (a1 : Int) : Option (Int) := fraction_gcd.l0 k a0 a1
theorem fraction_gcd.mono_l : ∀ k, (∀ y0 y1, LeO (fraction_gcd.l0 k y0 y1) (fraction_gcd.l0 (k + 1) y0 y1))
 | 0 => fun _ _ r h => by simp [fraction_gcd.l0] at h
 | k + 1 => by
  have ih0 := fraction_gcd.mono_l k
  ·intro y0 y1
   unfold fraction_gcd.l0
   repeat' first
   | (with_reducible exact ih0 _ _)
   | (with_reducible exact LeO.refl _)
   | (with_reducible exact LeO.none _)
   | (with_reducible refine LeO.ite ?_ ?_)
   | (with_reducible refine LeO.bind ?_ (fun _ => ?_))
   | exact ih0 _ _
   | exact LeO.none _
   | refine LeO.ite ?_ ?_
   | refine LeO.bind ?_ (fun _ => ?_)
theorem fraction_gcd.mono : ∀ a0 a1 k, LeO (fraction_gcd.f k a0 a1) (fraction_gcd.f (k + 1) a0 a1) := by
 intro a0 a1 k
 have ih0 := fraction_gcd.mono_l k
 unfold fraction_gcd.f
 repeat' first
   | (with_reducible exact ih0 _ _)
   | (with_reducible exact LeO.refl _)
   | (with_reducible exact LeO.none _)
   | (with_reducible refine LeO.ite ?_ ?_)
   | (with_reducible refine LeO.bind ?_ (fun _ => ?_))
   | exact ih0 _ _
   | exact LeO.none _
   | refine LeO.ite ?_ ?_
   | refine LeO.bind ?_ (fun _ => ?_)
set_option maxHeartbeats 8000000 in
set_option maxRecDepth 100000 in
theorem fraction_gcd.calls (k : Nat) (a0 : Int) (a1 : Int) (r : Int) (w : World) (h : fraction_gcd.f k a0 a1 = some r) :
  Calls Try.prog 105 #[.int .u64 a0, .int .u64 a1] w fun e w' => e = .returned (.int .u64 r) ∧ Drawn0 w w' := by
 have H : (fraction_gcd.l0 k a0 a1) = some r := h
 clear h
 have H' := Aside0.mk H
 clear H
 go_enter Try.func105, Try.ntmps105
 go_wp2
 repeat (go_quiet (fail); try go_wp2)
 go_loopg [0, 1] k (fun kq v0 v1 w' => ∃ (x0_1 : Int) (x1_1 : Int), v0 = .int .u64 x0_1 ∧ v1 = .int .u64 x1_1 ∧ Aside0 (fraction_gcd.l0 kq x0_1 x1_1 = some r) ∧ Aside0 (kq ≤ k) ∧ Drawn0 w w')
 case atStart => exact ⟨(a0), (a1), qgseries_9, qgseries_9, H', ⟨Nat.le_refl _⟩, qgseries_11⟩
 clear H'
 try clear c1
 try clear p2
 obtain ⟨x0_1, x1_1, rfl, rfl, HA, HK1, ⟨m1, rfl⟩⟩ := hrel
 cases gk with
 | zero => exact absurd HA.out (by simp [fraction_gcd.l0])
 | succ k1 =>
  have H := HA.out
  clear HA
  simp only [fraction_gcd.l0] at H
  by_cases c3 : x1_1 = 0
  ·rw [if_pos c3] at H
   have c3b0 : (x1_1 == 0) = true := beq_iff_eq.mpr c3
   have c3b1 : (x1_1 != 0) = false := bne_eq_false_iff_eq.mpr c3
   clear c3
   obtain rfl := Option.some.inj H
   go_wp2
   repeat (go_quiet (fail); try go_wp2)
   go_ret
   exact ⟨qgseries_9, qgseries_11⟩
  rw [if_neg c3] at H
  have c3b0 : (x1_1 == 0) = false := beq_eq_false_iff_ne.mpr c3
  have c3b1 : (x1_1 != 0) = true := bne_iff_ne.mpr c3
  have H' := Aside0.mk H
  clear H
  go_wp2
  repeat (go_quiet (fail); try go_wp2)
  go_roundg k1
  case measure => have := HK1.out; omega
  case rel => exact ⟨(x1_1), (Int.tmod x0_1 x1_1), qgseries_9, qgseries_9, H', ⟨by have := HK1.out; omega⟩, qgseries_11⟩

/-! ### fraction_Make: function 80 -/
def fraction_Make.j0 : Nat → Int → Int → Int → Int → Bool → Option (Int × Int × Int)
 | 0, _, _, _, _, _ => none
 | k + 1, x0, x1, x6, x7, x31 => if x31 = true then (some (0, 0, 20)) else (if ((decide (x0 < 0)) != (decide (x1 < 0))) = true then (some (wrap64 (-(wrap64 (x6))), wrap64 (x7), 0)) else (some (wrap64 (x6), wrap64 (x7), 0)))
def fraction_Make.f (k : Nat) (a0 : Int) (a1 : Int) : Option (Int × Int × Int) := if a1 = 0 then (some (0, 0, 19)) else ((fraction_magnitude.f a0).bind fun t258 => ((fraction_magnitude.f a1).bind fun t259 => ((fraction_gcd.f k t258 t259).bind fun t260 => (if t260 = 0 then (none) else (if (IntKind.u64.wrap (Int.tdiv t258 t260)) > 1048576 then (fraction_Make.j0 k a0 a1 (IntKind.u64.wrap (Int.tdiv t258 t260)) (IntKind.u64.wrap (Int.tdiv t259 t260)) true) else (fraction_Make.j0 k a0 a1 (IntKind.u64.wrap (Int.tdiv t258 t260)) (IntKind.u64.wrap (Int.tdiv t259 t260)) (decide ((IntKind.u64.wrap (Int.tdiv t259 t260)) > 1048576))))))))
theorem fraction_Make.mono_l : ∀ k, (∀ y0 y1 y2 y3 y4, LeO (fraction_Make.j0 k y0 y1 y2 y3 y4) (fraction_Make.j0 (k + 1) y0 y1 y2 y3 y4))
 | 0 => fun _ _ _ _ _ r h => by simp [fraction_Make.j0] at h
 | k + 1 => by
  have ih0 := fraction_Make.mono_l k
  ·intro y0 y1 y2 y3 y4
   unfold fraction_Make.j0
   repeat' first
   | (with_reducible exact ih0 _ _ _ _ _)
   | (with_reducible exact fraction_gcd.mono _ _ _)
   | (with_reducible exact LeO.refl _)
   | (with_reducible exact LeO.none _)
   | (with_reducible refine LeO.ite ?_ ?_)
   | (with_reducible refine LeO.bind ?_ (fun _ => ?_))
   | exact ih0 _ _ _ _ _
   | exact fraction_gcd.mono _ _ _
   | exact LeO.none _
   | refine LeO.ite ?_ ?_
   | refine LeO.bind ?_ (fun _ => ?_)
theorem fraction_Make.mono : ∀ a0 a1 k, LeO (fraction_Make.f k a0 a1) (fraction_Make.f (k + 1) a0 a1) := by
 intro a0 a1 k
 have ih0 := fraction_Make.mono_l k
 unfold fraction_Make.f
 repeat' first
   | (with_reducible exact ih0 _ _ _ _ _)
   | (with_reducible exact fraction_gcd.mono _ _ _)
   | (with_reducible exact LeO.refl _)
   | (with_reducible exact LeO.none _)
   | (with_reducible refine LeO.ite ?_ ?_)
   | (with_reducible refine LeO.bind ?_ (fun _ => ?_))
   | exact ih0 _ _ _ _ _
   | exact fraction_gcd.mono _ _ _
   | exact LeO.none _
   | refine LeO.ite ?_ ?_
   | refine LeO.bind ?_ (fun _ => ?_)
set_option maxHeartbeats 8000000 in
set_option maxRecDepth 100000 in
theorem fraction_Make.calls (k : Nat) (a0 : Int) (a1 : Int) (r1 : Int) (r2 : Int) (r3 : Int) (w : World) (h : fraction_Make.f k a0 a1 = some (r1, r2, r3)) :
  Calls Try.prog 80 #[.int .i64 a0, .int .i64 a1] w fun e w' => e = .returned (.tuple #[.agg #[.int .i64 r1, .int .i64 r2], .int .i64 r3]) ∧ Below w.heap.size w w' := by
 have hu25 := Try.underlying25
 have HB := Aside0.mk (Below.refl w.heap.size w)
 have H : (if a1 = 0 then (some (0, 0, 19)) else ((fraction_magnitude.f a0).bind fun t258 => ((fraction_magnitude.f a1).bind fun t259 => ((fraction_gcd.f k t258 t259).bind fun t260 => (if t260 = 0 then (none) else (if (IntKind.u64.wrap (Int.tdiv t258 t260)) > 1048576 then (fraction_Make.j0 k a0 a1 (IntKind.u64.wrap (Int.tdiv t258 t260)) (IntKind.u64.wrap (Int.tdiv t259 t260)) true) else (fraction_Make.j0 k a0 a1 (IntKind.u64.wrap (Int.tdiv t258 t260)) (IntKind.u64.wrap (Int.tdiv t259 t260)) (decide ((IntKind.u64.wrap (Int.tdiv t259 t260)) > 1048576))))))))) = some (r1, r2, r3) := h
 clear h
 by_cases c3 : a1 = 0
 ·rw [if_pos c3] at H
  have c3b0 : (a1 == 0) = true := beq_iff_eq.mpr c3
  have c3b1 : (a1 != 0) = false := bne_eq_false_iff_eq.mpr c3
  clear c3
  simp only [Option.some.injEq, Prod.mk.injEq] at H
  obtain ⟨rfl, rfl, rfl⟩ := H
  go_enter Try.func80, Try.ntmps80
  go_wp2_with (first | ((with_reducible refine gate_dst (N := 4) rfl ?_); refine box_event ?hg (N := 4) ?hd (cs := #[.int .i64 0, .int .i64 0]) (t := 25) ?hr ?_; (case hd => rfl); (case hg => rfl); (case hr => exact qgseries_12); intro gb257 hg w4 hbox hb; have n0_ := Aside0.mk (below_step qgseries_0 hb); have n1_ := Aside0.mk (hbox); have n2_ := Aside0.mk ((by rw [hg]; exact (below_size qgseries_0) : w.heap.size ≤ gb257)); have n3_ := Aside0.mk ((by rw [hg]; exact (below_size qgseries_0) : w.heap.size ≤ gb257)); clear HB; have HB := n0_; have BK257 := n1_; have GW257 := n2_; have GE257 := n3_; clear n0_ n1_ n2_ n3_; clear hb hbox hg; have hcz5_0 : w4.cell? ⟨gb257, 0, none⟩ = some (.int .i64 0) := (blk_cell BK257.out 0).trans rfl; have hcz5_1 : w4.cell? ⟨gb257, 1, none⟩ = some (.int .i64 0) := (blk_cell BK257.out 1).trans rfl; have hfz5_0 := blk_frozen BK257.out 0; have hfz5_1 := blk_frozen BK257.out 1))
  repeat (go_quiet (fail); try go_wp2_with (first | ((with_reducible refine gate_dst (N := 4) rfl ?_); refine box_event ?hg (N := 4) ?hd (cs := #[.int .i64 0, .int .i64 0]) (t := 25) ?hr ?_; (case hd => rfl); (case hg => rfl); (case hr => exact qgseries_12); intro gb257 hg w4 hbox hb; have n0_ := Aside0.mk (below_step qgseries_0 hb); have n1_ := Aside0.mk (hbox); have n2_ := Aside0.mk ((by rw [hg]; exact (below_size qgseries_0) : w.heap.size ≤ gb257)); have n3_ := Aside0.mk ((by rw [hg]; exact (below_size qgseries_0) : w.heap.size ≤ gb257)); clear HB; have HB := n0_; have BK257 := n1_; have GW257 := n2_; have GE257 := n3_; clear n0_ n1_ n2_ n3_; clear hb hbox hg; have hcz5_0 : w4.cell? ⟨gb257, 0, none⟩ = some (.int .i64 0) := (blk_cell BK257.out 0).trans rfl; have hcz5_1 : w4.cell? ⟨gb257, 1, none⟩ = some (.int .i64 0) := (blk_cell BK257.out 1).trans rfl; have hfz5_0 := blk_frozen BK257.out 0; have hfz5_1 := blk_frozen BK257.out 1)))
  refine bodyPost_ret (results_ct rfl _ _ gb257 25 #[.int .i64 0, .int .i64 0] (0, 0) _ rfl qgseries_13 Try.underlying25 rfl (by kernel_rfl)) rfl ?_
  exact ⟨qgseries_5, qgseries_1⟩
 rw [if_neg c3] at H
 have c3b0 : (a1 == 0) = false := beq_eq_false_iff_ne.mpr c3
 have c3b1 : (a1 != 0) = true := bne_iff_ne.mpr c3
 replace H := Option.bind_eq_some_iff.mp H
 obtain ⟨t258, A60, H⟩ := H
 replace H : ((fraction_magnitude.f a1).bind fun t259 => ((fraction_gcd.f k t258 t259).bind fun t260 => (if t260 = 0 then (none) else (if (IntKind.u64.wrap (Int.tdiv t258 t260)) > 1048576 then (fraction_Make.j0 k a0 a1 (IntKind.u64.wrap (Int.tdiv t258 t260)) (IntKind.u64.wrap (Int.tdiv t259 t260)) true) else (fraction_Make.j0 k a0 a1 (IntKind.u64.wrap (Int.tdiv t258 t260)) (IntKind.u64.wrap (Int.tdiv t259 t260)) (decide ((IntKind.u64.wrap (Int.tdiv t259 t260)) > 1048576))))))) = some (r1, r2, r3) := H
 have A6 := Aside0.mk A60
 clear A60
 replace H := Option.bind_eq_some_iff.mp H
 obtain ⟨t259, A70, H⟩ := H
 replace H : ((fraction_gcd.f k t258 t259).bind fun t260 => (if t260 = 0 then (none) else (if (IntKind.u64.wrap (Int.tdiv t258 t260)) > 1048576 then (fraction_Make.j0 k a0 a1 (IntKind.u64.wrap (Int.tdiv t258 t260)) (IntKind.u64.wrap (Int.tdiv t259 t260)) true) else (fraction_Make.j0 k a0 a1 (IntKind.u64.wrap (Int.tdiv t258 t260)) (IntKind.u64.wrap (Int.tdiv t259 t260)) (decide ((IntKind.u64.wrap (Int.tdiv t259 t260)) > 1048576)))))) = some (r1, r2, r3) := H
 have A7 := Aside0.mk A70
 clear A70
 replace H := Option.bind_eq_some_iff.mp H
 obtain ⟨t260, A80, H⟩ := H
 replace H : (if t260 = 0 then (none) else (if (IntKind.u64.wrap (Int.tdiv t258 t260)) > 1048576 then (fraction_Make.j0 k a0 a1 (IntKind.u64.wrap (Int.tdiv t258 t260)) (IntKind.u64.wrap (Int.tdiv t259 t260)) true) else (fraction_Make.j0 k a0 a1 (IntKind.u64.wrap (Int.tdiv t258 t260)) (IntKind.u64.wrap (Int.tdiv t259 t260)) (decide ((IntKind.u64.wrap (Int.tdiv t259 t260)) > 1048576))))) = some (r1, r2, r3) := H
 have A8 := Aside0.mk A80
 clear A80
 by_cases c9 : t260 = 0
 ·rw [if_pos c9] at H
  exact absurd H (by simp)
 rw [if_neg c9] at H
 have c9b0 : (t260 == 0) = false := beq_eq_false_iff_ne.mpr c9
 have c9b1 : (t260 != 0) = true := bne_iff_ne.mpr c9
 have HC10 := Aside0.mk H
 clear H
 go_enter Try.func80, Try.ntmps80
 go_upto_region 6 with (first | ((with_reducible refine gate_dst (N := 4) rfl ?_); refine box_event ?hg (N := 4) ?hd (cs := #[.int .i64 0, .int .i64 0]) (t := 25) ?hr ?_; (case hd => rfl); (case hg => rfl); (case hr => exact qgseries_12); intro gb257 hg w11 hbox hb; have n0_ := Aside0.mk (below_step qgseries_0 hb); have n1_ := Aside0.mk (hbox); have n2_ := Aside0.mk ((by rw [hg]; exact (below_size qgseries_0) : w.heap.size ≤ gb257)); have n3_ := Aside0.mk ((by rw [hg]; exact (below_size qgseries_0) : w.heap.size ≤ gb257)); clear HB; have HB := n0_; have BK257 := n1_; have GW257 := n2_; have GE257 := n3_; clear n0_ n1_ n2_ n3_; clear hb hbox hg) | (go_at_call 104; (with_reducible refine (fraction_magnitude.calls a0 t258 _ A6.out).mono ?_); rintro e w' ⟨rfl, ⟨nd, rfl⟩⟩; (try first | exact ⟨rfl, _, World.drewN_drewN _ _ _⟩ | exact ⟨rfl, _, Eq.trans (World.drewN_drewN _ _ _) (congrArg (World.drewN _) (Nat.add_assoc _ _ _))⟩)) | (go_at_call 104; (with_reducible refine (fraction_magnitude.calls a1 t259 _ A7.out).mono ?_); rintro e w' ⟨rfl, ⟨nd, rfl⟩⟩; (try first | exact ⟨rfl, _, World.drewN_drewN _ _ _⟩ | exact ⟨rfl, _, Eq.trans (World.drewN_drewN _ _ _) (congrArg (World.drewN _) (Nat.add_assoc _ _ _))⟩)) | (go_at_call 105; (with_reducible refine (fraction_gcd.calls k t258 t259 t260 _ A8.out).mono ?_); rintro e w' ⟨rfl, ⟨nd, rfl⟩⟩; (try first | exact ⟨rfl, _, World.drewN_drewN _ _ _⟩ | exact ⟨rfl, _, Eq.trans (World.drewN_drewN _ _ _) (congrArg (World.drewN _) (Nat.add_assoc _ _ _))⟩)))
 repeat (go_quiet (first | ((with_reducible refine gate_dst (N := 4) rfl ?_); refine box_event ?hg (N := 4) ?hd (cs := #[.int .i64 0, .int .i64 0]) (t := 25) ?hr ?_; (case hd => rfl); (case hg => rfl); (case hr => exact qgseries_12); intro gb257 hg w11 hbox hb; have n0_ := Aside0.mk (below_step qgseries_0 hb); have n1_ := Aside0.mk (hbox); have n2_ := Aside0.mk ((by rw [hg]; exact (below_size qgseries_0) : w.heap.size ≤ gb257)); have n3_ := Aside0.mk ((by rw [hg]; exact (below_size qgseries_0) : w.heap.size ≤ gb257)); clear HB; have HB := n0_; have BK257 := n1_; have GW257 := n2_; have GE257 := n3_; clear n0_ n1_ n2_ n3_; clear hb hbox hg) | (go_at_call 104; (with_reducible refine (fraction_magnitude.calls a0 t258 _ A6.out).mono ?_); rintro e w' ⟨rfl, ⟨nd, rfl⟩⟩; (try first | exact ⟨rfl, _, World.drewN_drewN _ _ _⟩ | exact ⟨rfl, _, Eq.trans (World.drewN_drewN _ _ _) (congrArg (World.drewN _) (Nat.add_assoc _ _ _))⟩)) | (go_at_call 104; (with_reducible refine (fraction_magnitude.calls a1 t259 _ A7.out).mono ?_); rintro e w' ⟨rfl, ⟨nd, rfl⟩⟩; (try first | exact ⟨rfl, _, World.drewN_drewN _ _ _⟩ | exact ⟨rfl, _, Eq.trans (World.drewN_drewN _ _ _) (congrArg (World.drewN _) (Nat.add_assoc _ _ _))⟩)) | (go_at_call 105; (with_reducible refine (fraction_gcd.calls k t258 t259 t260 _ A8.out).mono ?_); rintro e w' ⟨rfl, ⟨nd, rfl⟩⟩; (try first | exact ⟨rfl, _, World.drewN_drewN _ _ _⟩ | exact ⟨rfl, _, Eq.trans (World.drewN_drewN _ _ _) (congrArg (World.drewN _) (Nat.add_assoc _ _ _))⟩))); go_upto_region 6 with (first | ((with_reducible refine gate_dst (N := 4) rfl ?_); refine box_event ?hg (N := 4) ?hd (cs := #[.int .i64 0, .int .i64 0]) (t := 25) ?hr ?_; (case hd => rfl); (case hg => rfl); (case hr => exact qgseries_12); intro gb257 hg w11 hbox hb; have n0_ := Aside0.mk (below_step qgseries_0 hb); have n1_ := Aside0.mk (hbox); have n2_ := Aside0.mk ((by rw [hg]; exact (below_size qgseries_0) : w.heap.size ≤ gb257)); have n3_ := Aside0.mk ((by rw [hg]; exact (below_size qgseries_0) : w.heap.size ≤ gb257)); clear HB; have HB := n0_; have BK257 := n1_; have GW257 := n2_; have GE257 := n3_; clear n0_ n1_ n2_ n3_; clear hb hbox hg) | (go_at_call 104; (with_reducible refine (fraction_magnitude.calls a0 t258 _ A6.out).mono ?_); rintro e w' ⟨rfl, ⟨nd, rfl⟩⟩; (try first | exact ⟨rfl, _, World.drewN_drewN _ _ _⟩ | exact ⟨rfl, _, Eq.trans (World.drewN_drewN _ _ _) (congrArg (World.drewN _) (Nat.add_assoc _ _ _))⟩)) | (go_at_call 104; (with_reducible refine (fraction_magnitude.calls a1 t259 _ A7.out).mono ?_); rintro e w' ⟨rfl, ⟨nd, rfl⟩⟩; (try first | exact ⟨rfl, _, World.drewN_drewN _ _ _⟩ | exact ⟨rfl, _, Eq.trans (World.drewN_drewN _ _ _) (congrArg (World.drewN _) (Nat.add_assoc _ _ _))⟩)) | (go_at_call 105; (with_reducible refine (fraction_gcd.calls k t258 t259 t260 _ A8.out).mono ?_); rintro e w' ⟨rfl, ⟨nd, rfl⟩⟩; (try first | exact ⟨rfl, _, World.drewN_drewN _ _ _⟩ | exact ⟨rfl, _, Eq.trans (World.drewN_drewN _ _ _) (congrArg (World.drewN _) (Nat.add_assoc _ _ _))⟩))))
 (try simp only [Act.put, List.setIfInBounds_toArray, List.set_cons_zero, List.set_cons_succ])
 go_cut [31] (fun v31 wc => ∃ (kq : Nat) (x31_9 : Bool), v31 = .bool x31_9 ∧ Aside0 (fraction_Make.j0 kq a0 a1 (IntKind.u64.wrap (Int.tdiv t258 t260)) (IntKind.u64.wrap (Int.tdiv t259 t260)) x31_9 = some (r1, r2, r3)) ∧ Aside0 (kq ≤ k) ∧ Aside0 (wc.heap[gb257]? = some (.cells #[.int .i64 0, .int .i64 0] 25 (0, 0))) ∧ Aside0 (Below w.heap.size w wc))
 case first =>
  have H := HC10.out
  clear HC10
  by_cases c12 : (IntKind.u64.wrap (Int.tdiv t258 t260)) > 1048576
  ·rw [if_pos c12] at H
   have c12b0 : decide (1048576 < (IntKind.u64.wrap (Int.tdiv t258 t260))) = true := decide_eq_true c12
   clear c12
   (first | rw [c12b0] | (simp only [i64_w, i32_w]; rw [c12b0]) | skip)
   have H' := Aside0.mk H
   clear H
   go_wp2
   repeat (go_quiet (fail); try go_wp2)
   go_meet
   case rel => exact ⟨_, (true), qgseries_9, H', ⟨by first | omega | exact Nat.le_refl _⟩, ⟨qgseries_3⟩, ⟨qgseries_1⟩⟩
  rw [if_neg c12] at H
  have c12b0 : decide (1048576 < (IntKind.u64.wrap (Int.tdiv t258 t260))) = false := decide_eq_false c12
  clear c12
  (first | rw [c12b0] | (simp only [i64_w, i32_w]; rw [c12b0]) | skip)
  have H' := Aside0.mk H
  clear H
  go_wp2
  repeat (go_quiet (fail); try go_wp2)
  go_meet
  case rel => exact ⟨_, (decide ((IntKind.u64.wrap (Int.tdiv t259 t260)) > 1048576)), qgseries_9, H', ⟨by first | omega | exact Nat.le_refl _⟩, ⟨qgseries_3⟩, ⟨qgseries_1⟩⟩
 clear HC10
 try clear c1
 try clear p2
 try clear c3
 try clear c3b0
 try clear c3b1
 try clear c8
 try clear c9
 try clear c9b0
 try clear c9b1
 try clear c12
 try clear c12b0
 try clear hcz5_0
 try clear hcz5_1
 try clear hfz5_0
 try clear hfz5_1
 obtain ⟨kq, x31_9, rfl, HA, HJ9, BK257, HB⟩ := hcut
 cases kq with
 | zero => exact absurd HA.out (by simp [fraction_Make.j0])
 | succ kj9 =>
  have H := HA.out
  clear HA
  simp only [fraction_Make.j0] at H
  by_cases c13 : x31_9 = true
  ·subst c13
   have H1 : (some (0, 0, 20)) = some (r1, r2, r3) := by rw [if_pos rfl] at H; exact H
   clear H
   have H := H1
   clear H1
   simp only [Option.some.injEq, Prod.mk.injEq] at H
   obtain ⟨rfl, rfl, rfl⟩ := H
   have hcz14_0 : wc.cell? ⟨gb257, 0, none⟩ = some (.int .i64 0) := (blk_cell BK257.out 0).trans rfl
   have hcz14_1 : wc.cell? ⟨gb257, 1, none⟩ = some (.int .i64 0) := (blk_cell BK257.out 1).trans rfl
   have hfz14_0 := blk_frozen BK257.out 0
   have hfz14_1 := blk_frozen BK257.out 1
   go_wp2
   repeat (go_quiet (fail); try go_wp2)
   refine bodyPost_ret (results_ct rfl _ _ gb257 25 #[.int .i64 0, .int .i64 0] (0, 0) _ rfl qgseries_13 Try.underlying25 rfl (by kernel_rfl)) rfl ?_
   exact ⟨qgseries_5, qgseries_1⟩
  replace c13 := Bool.eq_false_iff.mpr c13
  subst c13
  have H1 : (if ((decide (a0 < 0)) != (decide (a1 < 0))) = true then (some (wrap64 (-(wrap64 ((IntKind.u64.wrap (Int.tdiv t258 t260))))), wrap64 ((IntKind.u64.wrap (Int.tdiv t259 t260))), 0)) else (some (wrap64 ((IntKind.u64.wrap (Int.tdiv t258 t260))), wrap64 ((IntKind.u64.wrap (Int.tdiv t259 t260))), 0))) = some (r1, r2, r3) := by rw [if_neg (show ¬ (false = true) by decide)] at H; exact H
  clear H
  have H := H1
  clear H1
  by_cases c15 : ((decide (a0 < 0)) != (decide (a1 < 0))) = true
  rotate_left
  ·rw [if_neg c15] at H
   have c15b0 : ((decide (a0 < 0)) != (decide (a1 < 0))) = false := by simpa using c15
   (try (have c15b1 : decide ((decide (a0 < 0)) = (decide (a1 < 0))) = true := by simpa using c15))
   (try (have c15b2 : ((decide (a0 < 0)) == (decide (a1 < 0))) = true := by simpa using c15))
   clear c15
   simp only [Option.some.injEq, Prod.mk.injEq] at H
   obtain ⟨rfl, rfl, rfl⟩ := H
   go_wp2_with (first | ((with_reducible refine gate_dst (N := 9) rfl ?_); refine box_event ?hg (N := 9) ?hd (cs := #[.int .i64 0, .int .i64 0]) (t := 25) ?hr ?_; (case hd => rfl); (case hg => rfl); (case hr => exact qgseries_12); intro gb261 hg w20 hbox hb; have n0_ := Aside0.mk (blk_below (g := gb257) (o := .cells #[.int .i64 0, .int .i64 0] 25 (0, 0)) qgseries_3 hb); have n1_ := Aside0.mk (below_step qgseries_1 hb); have n2_ := Aside0.mk (hbox); have n3_ := Aside0.mk ((by rw [hg]; exact (below_size qgseries_1) : w.heap.size ≤ gb261)); have n4_ := Aside0.mk ((by rw [hg]; exact (below_size qgseries_1) : w.heap.size ≤ gb261)); have n5_ := Aside0.mk ((by rw [hg]; exact Nat.ne_of_lt (blk_lt (g := gb257) (o := .cells #[.int .i64 0, .int .i64 0] 25 (0, 0)) qgseries_3) : gb257 ≠ gb261)); have n6_ := Aside0.mk ((by rw [hg]; exact Nat.ne_of_gt (blk_lt (g := gb257) (o := .cells #[.int .i64 0, .int .i64 0] 25 (0, 0)) qgseries_3) : gb261 ≠ gb257)); clear BK257; clear HB; have BK257 := n0_; have HB := n1_; have BK261 := n2_; have GW261 := n3_; have GE261 := n4_; have NB257_261 := n5_; have NB261_257 := n6_; clear n0_ n1_ n2_ n3_ n4_ n5_ n6_; clear hb hbox hg; have hnb21 := NB261_257.out; have hnc21 := NB257_261.out; have hcz22_0 : w20.cell? ⟨gb261, 0, none⟩ = some (.int .i64 0) := (blk_cell BK261.out 0).trans rfl; have hcz22_1 : w20.cell? ⟨gb261, 1, none⟩ = some (.int .i64 0) := (blk_cell BK261.out 1).trans rfl; have hfz22_0 := blk_frozen BK261.out 0; have hfz22_1 := blk_frozen BK261.out 1; have hcz23_0 : w20.cell? ⟨gb257, 0, none⟩ = some (.int .i64 0) := (blk_cell BK257.out 0).trans rfl; have hcz23_1 : w20.cell? ⟨gb257, 1, none⟩ = some (.int .i64 0) := (blk_cell BK257.out 1).trans rfl; have hfz23_0 := blk_frozen BK257.out 0; have hfz23_1 := blk_frozen BK257.out 1))
   repeat (go_quiet (fail); try go_wp2_with (first | ((with_reducible refine gate_dst (N := 9) rfl ?_); refine box_event ?hg (N := 9) ?hd (cs := #[.int .i64 0, .int .i64 0]) (t := 25) ?hr ?_; (case hd => rfl); (case hg => rfl); (case hr => exact qgseries_12); intro gb261 hg w20 hbox hb; have n0_ := Aside0.mk (blk_below (g := gb257) (o := .cells #[.int .i64 0, .int .i64 0] 25 (0, 0)) qgseries_3 hb); have n1_ := Aside0.mk (below_step qgseries_1 hb); have n2_ := Aside0.mk (hbox); have n3_ := Aside0.mk ((by rw [hg]; exact (below_size qgseries_1) : w.heap.size ≤ gb261)); have n4_ := Aside0.mk ((by rw [hg]; exact (below_size qgseries_1) : w.heap.size ≤ gb261)); have n5_ := Aside0.mk ((by rw [hg]; exact Nat.ne_of_lt (blk_lt (g := gb257) (o := .cells #[.int .i64 0, .int .i64 0] 25 (0, 0)) qgseries_3) : gb257 ≠ gb261)); have n6_ := Aside0.mk ((by rw [hg]; exact Nat.ne_of_gt (blk_lt (g := gb257) (o := .cells #[.int .i64 0, .int .i64 0] 25 (0, 0)) qgseries_3) : gb261 ≠ gb257)); clear BK257; clear HB; have BK257 := n0_; have HB := n1_; have BK261 := n2_; have GW261 := n3_; have GE261 := n4_; have NB257_261 := n5_; have NB261_257 := n6_; clear n0_ n1_ n2_ n3_ n4_ n5_ n6_; clear hb hbox hg; have hnb21 := NB261_257.out; have hnc21 := NB257_261.out; have hcz22_0 : w20.cell? ⟨gb261, 0, none⟩ = some (.int .i64 0) := (blk_cell BK261.out 0).trans rfl; have hcz22_1 : w20.cell? ⟨gb261, 1, none⟩ = some (.int .i64 0) := (blk_cell BK261.out 1).trans rfl; have hfz22_0 := blk_frozen BK261.out 0; have hfz22_1 := blk_frozen BK261.out 1; have hcz23_0 : w20.cell? ⟨gb257, 0, none⟩ = some (.int .i64 0) := (blk_cell BK257.out 0).trans rfl; have hcz23_1 : w20.cell? ⟨gb257, 1, none⟩ = some (.int .i64 0) := (blk_cell BK257.out 1).trans rfl; have hfz23_0 := blk_frozen BK257.out 0; have hfz23_1 := blk_frozen BK257.out 1)))
   refine bodyPost_ret (results_ct rfl _ _ gb257 25 #[.int .i64 (wrap64 ((IntKind.u64.wrap (Int.tdiv t258 t260)))), .int .i64 (wrap64 ((IntKind.u64.wrap (Int.tdiv t259 t260))))] (0, 0) _ rfl (by (with_reducible repeat (first | refine blk_drewN ?_ _ | refine blk_drew ?_ | refine blk_alloc ?_ _)); refine blk_put (cs := #[.int .i64 (wrap64 ((IntKind.u64.wrap (Int.tdiv t258 t260)))), .int .i64 0]) ?_ 1 _ rfl; (with_reducible repeat (first | refine blk_drewN ?_ _ | refine blk_drew ?_ | refine blk_alloc ?_ _)); refine blk_put (cs := #[.int .i64 0, .int .i64 0]) ?_ 0 _ rfl; (with_reducible repeat (first | refine blk_drewN ?_ _ | refine blk_drew ?_ | refine blk_alloc ?_ _)); refine blk_far ?_ NB257_261.out _; (with_reducible repeat (first | refine blk_drewN ?_ _ | refine blk_drew ?_ | refine blk_alloc ?_ _)); refine blk_far ?_ NB257_261.out _; (with_reducible repeat (first | refine blk_drewN ?_ _ | refine blk_drew ?_ | refine blk_alloc ?_ _)); exact BK257.out) Try.underlying25 rfl (by kernel_rfl)) rfl ?_
   exact ⟨qgseries_5, qgseries_17⟩
  rw [if_pos c15] at H
  have c15b0 : ((decide (a0 < 0)) != (decide (a1 < 0))) = true := c15
  (try (have c15b1 : decide ((decide (a0 < 0)) = (decide (a1 < 0))) = false := by simpa using c15))
  (try (have c15b2 : ((decide (a0 < 0)) == (decide (a1 < 0))) = false := by simpa using c15))
  (try (have c15b3 : ¬ ((decide (a0 < 0)) = (decide (a1 < 0))) := by simpa using c15))
  clear c15
  simp only [Option.some.injEq, Prod.mk.injEq] at H
  obtain ⟨rfl, rfl, rfl⟩ := H
  go_wp2_with (first | ((with_reducible refine gate_dst (N := 9) rfl ?_); refine box_event ?hg (N := 9) ?hd (cs := #[.int .i64 0, .int .i64 0]) (t := 25) ?hr ?_; (case hd => rfl); (case hg => rfl); (case hr => exact qgseries_12); intro gb261 hg w16 hbox hb; have n0_ := Aside0.mk (blk_below (g := gb257) (o := .cells #[.int .i64 0, .int .i64 0] 25 (0, 0)) qgseries_3 hb); have n1_ := Aside0.mk (below_step qgseries_1 hb); have n2_ := Aside0.mk (hbox); have n3_ := Aside0.mk ((by rw [hg]; exact (below_size qgseries_1) : w.heap.size ≤ gb261)); have n4_ := Aside0.mk ((by rw [hg]; exact (below_size qgseries_1) : w.heap.size ≤ gb261)); have n5_ := Aside0.mk ((by rw [hg]; exact Nat.ne_of_lt (blk_lt (g := gb257) (o := .cells #[.int .i64 0, .int .i64 0] 25 (0, 0)) qgseries_3) : gb257 ≠ gb261)); have n6_ := Aside0.mk ((by rw [hg]; exact Nat.ne_of_gt (blk_lt (g := gb257) (o := .cells #[.int .i64 0, .int .i64 0] 25 (0, 0)) qgseries_3) : gb261 ≠ gb257)); clear BK257; clear HB; have BK257 := n0_; have HB := n1_; have BK261 := n2_; have GW261 := n3_; have GE261 := n4_; have NB257_261 := n5_; have NB261_257 := n6_; clear n0_ n1_ n2_ n3_ n4_ n5_ n6_; clear hb hbox hg; have hnb17 := NB261_257.out; have hnc17 := NB257_261.out; have hcz18_0 : w16.cell? ⟨gb261, 0, none⟩ = some (.int .i64 0) := (blk_cell BK261.out 0).trans rfl; have hcz18_1 : w16.cell? ⟨gb261, 1, none⟩ = some (.int .i64 0) := (blk_cell BK261.out 1).trans rfl; have hfz18_0 := blk_frozen BK261.out 0; have hfz18_1 := blk_frozen BK261.out 1; have hcz19_0 : w16.cell? ⟨gb257, 0, none⟩ = some (.int .i64 0) := (blk_cell BK257.out 0).trans rfl; have hcz19_1 : w16.cell? ⟨gb257, 1, none⟩ = some (.int .i64 0) := (blk_cell BK257.out 1).trans rfl; have hfz19_0 := blk_frozen BK257.out 0; have hfz19_1 := blk_frozen BK257.out 1))
  repeat (go_quiet (fail); try go_wp2_with (first | ((with_reducible refine gate_dst (N := 9) rfl ?_); refine box_event ?hg (N := 9) ?hd (cs := #[.int .i64 0, .int .i64 0]) (t := 25) ?hr ?_; (case hd => rfl); (case hg => rfl); (case hr => exact qgseries_12); intro gb261 hg w16 hbox hb; have n0_ := Aside0.mk (blk_below (g := gb257) (o := .cells #[.int .i64 0, .int .i64 0] 25 (0, 0)) qgseries_3 hb); have n1_ := Aside0.mk (below_step qgseries_1 hb); have n2_ := Aside0.mk (hbox); have n3_ := Aside0.mk ((by rw [hg]; exact (below_size qgseries_1) : w.heap.size ≤ gb261)); have n4_ := Aside0.mk ((by rw [hg]; exact (below_size qgseries_1) : w.heap.size ≤ gb261)); have n5_ := Aside0.mk ((by rw [hg]; exact Nat.ne_of_lt (blk_lt (g := gb257) (o := .cells #[.int .i64 0, .int .i64 0] 25 (0, 0)) qgseries_3) : gb257 ≠ gb261)); have n6_ := Aside0.mk ((by rw [hg]; exact Nat.ne_of_gt (blk_lt (g := gb257) (o := .cells #[.int .i64 0, .int .i64 0] 25 (0, 0)) qgseries_3) : gb261 ≠ gb257)); clear BK257; clear HB; have BK257 := n0_; have HB := n1_; have BK261 := n2_; have GW261 := n3_; have GE261 := n4_; have NB257_261 := n5_; have NB261_257 := n6_; clear n0_ n1_ n2_ n3_ n4_ n5_ n6_; clear hb hbox hg; have hnb17 := NB261_257.out; have hnc17 := NB257_261.out; have hcz18_0 : w16.cell? ⟨gb261, 0, none⟩ = some (.int .i64 0) := (blk_cell BK261.out 0).trans rfl; have hcz18_1 : w16.cell? ⟨gb261, 1, none⟩ = some (.int .i64 0) := (blk_cell BK261.out 1).trans rfl; have hfz18_0 := blk_frozen BK261.out 0; have hfz18_1 := blk_frozen BK261.out 1; have hcz19_0 : w16.cell? ⟨gb257, 0, none⟩ = some (.int .i64 0) := (blk_cell BK257.out 0).trans rfl; have hcz19_1 : w16.cell? ⟨gb257, 1, none⟩ = some (.int .i64 0) := (blk_cell BK257.out 1).trans rfl; have hfz19_0 := blk_frozen BK257.out 0; have hfz19_1 := blk_frozen BK257.out 1)))
  refine bodyPost_ret (results_ct rfl _ _ gb257 25 #[.int .i64 (wrap64 (-(wrap64 ((IntKind.u64.wrap (Int.tdiv t258 t260)))))), .int .i64 (wrap64 ((IntKind.u64.wrap (Int.tdiv t259 t260))))] (0, 0) _ rfl (by (with_reducible repeat (first | refine blk_drewN ?_ _ | refine blk_drew ?_ | refine blk_alloc ?_ _)); refine blk_put (cs := #[.int .i64 (wrap64 (-(wrap64 ((IntKind.u64.wrap (Int.tdiv t258 t260)))))), .int .i64 0]) ?_ 1 _ rfl; (with_reducible repeat (first | refine blk_drewN ?_ _ | refine blk_drew ?_ | refine blk_alloc ?_ _)); refine blk_put (cs := #[.int .i64 0, .int .i64 0]) ?_ 0 _ rfl; (with_reducible repeat (first | refine blk_drewN ?_ _ | refine blk_drew ?_ | refine blk_alloc ?_ _)); refine blk_far ?_ NB257_261.out _; (with_reducible repeat (first | refine blk_drewN ?_ _ | refine blk_drew ?_ | refine blk_alloc ?_ _)); refine blk_far ?_ NB257_261.out _; (with_reducible repeat (first | refine blk_drewN ?_ _ | refine blk_drew ?_ | refine blk_alloc ?_ _)); refine blk_far ?_ NB257_261.out _; (with_reducible repeat (first | refine blk_drewN ?_ _ | refine blk_drew ?_ | refine blk_alloc ?_ _)); exact BK257.out) Try.underlying25 rfl (by kernel_rfl)) rfl ?_
  exact ⟨qgseries_5, qgseries_17⟩

/-! ### fraction_Check: function 66 -/
def fraction_Check.f (k : Nat) (a0_0 : Int) (a0_1 : Int) : Option (Int) := (fraction_Make.f k a0_0 a0_1).bind fun bt263 => (if bt263.2.2 = 0 then (if (!(bt263.1 == a0_0) || (!(bt263.2.1 == a0_1))) = true then (some 3) else (some 0)) else (some 3))
theorem fraction_Check.mono : ∀ a0 a1 k, LeO (fraction_Check.f k a0 a1) (fraction_Check.f (k + 1) a0 a1) := by
 intro a0 a1 k
 unfold fraction_Check.f
 repeat' first
   | (with_reducible exact fraction_Make.mono _ _ _)
   | (with_reducible exact LeO.refl _)
   | (with_reducible exact LeO.none _)
   | (with_reducible refine LeO.ite ?_ ?_)
   | (with_reducible refine LeO.bind ?_ (fun _ => ?_))
   | exact fraction_Make.mono _ _ _
   | exact LeO.none _
   | refine LeO.ite ?_ ?_
   | refine LeO.bind ?_ (fun _ => ?_)
set_option maxHeartbeats 8000000 in
set_option maxRecDepth 100000 in
theorem fraction_Check.calls (k : Nat) (a0_0 : Int) (a0_1 : Int) (r : Int) (w : World) (h : fraction_Check.f k a0_0 a0_1 = some r) :
  Calls Try.prog 66 #[.agg #[.int .i64 a0_0, .int .i64 a0_1]] w fun e w' => e = .returned (.int .i64 r) ∧ Below w.heap.size w w' := by
 have hu25 := Try.underlying25
 have HB := Aside0.mk (Below.refl w.heap.size w)
 have H : ((fraction_Make.f k a0_0 a0_1).bind fun bt263 => (if bt263.2.2 = 0 then (if (!(bt263.1 == a0_0) || (!(bt263.2.1 == a0_1))) = true then (some 3) else (some 0)) else (some 3))) = some r := h
 clear h
 replace H := Option.bind_eq_some_iff.mp H
 obtain ⟨⟨t263, t264, t265⟩, A20, H⟩ := H
 replace H : (if t265 = 0 then (if (!(t263 == a0_0) || (!(t264 == a0_1))) = true then (some 3) else (some 0)) else (some 3)) = some r := H
 have A2 := Aside0.mk A20
 clear A20
 by_cases c3 : t265 = 0
 rotate_left
 ·rw [if_neg c3] at H
  have c3b0 : (t265 == 0) = false := beq_eq_false_iff_ne.mpr c3
  have c3b1 : (t265 != 0) = true := bne_iff_ne.mpr c3
  obtain rfl := Option.some.inj H
  go_enter Try.func66, Try.ntmps66
  go_wp2_with (first | ((with_reducible refine gate_dst (N := 1) rfl ?_); refine box_event ?hg (N := 1) ?hd (cs := #[.int .i64 a0_0, .int .i64 a0_1]) (t := 25) ?hr ?_; (case hd => rfl); (case hg => rfl); (case hr => exact qgseries_12); intro gb262 hg w19 hbox hb; have n0_ := Aside0.mk (below_step qgseries_0 hb); have n1_ := Aside0.mk (hbox); have n2_ := Aside0.mk ((by rw [hg]; exact (below_size qgseries_0) : w.heap.size ≤ gb262)); have n3_ := Aside0.mk ((by rw [hg]; exact (below_size qgseries_0) : w.heap.size ≤ gb262)); clear HB; have HB := n0_; have BK262 := n1_; have GW262 := n2_; have GE262 := n3_; clear n0_ n1_ n2_ n3_; clear hb hbox hg; have hcz20_0 : w19.cell? ⟨gb262, 0, none⟩ = some (.int .i64 a0_0) := (blk_cell BK262.out 0).trans rfl; have hcz20_1 : w19.cell? ⟨gb262, 1, none⟩ = some (.int .i64 a0_1) := (blk_cell BK262.out 1).trans rfl; have hfz20_0 := blk_frozen BK262.out 0; have hfz20_1 := blk_frozen BK262.out 1) | ((with_reducible refine gate_callee (f := 80) rfl ?_); refine goesL_ (some 10) rfl rfl Try.func80 (by kernel_rfl) rfl #[.int .i64 a0_0, .int .i64 a0_1] rfl qgseries_6 ?_; (with_reducible refine (fraction_Make.calls k a0_0 a0_1 t263 t264 t265 _ A2.out).mono ?_); rintro e w21 ⟨rfl, hb⟩; refine ⟨_, rfl, ?_⟩; have n0_ := Aside0.mk (blk_below (g := gb262) (o := .cells #[.int .i64 a0_0, .int .i64 a0_1] 25 (0, 0)) qgseries_7 hb); have n1_ := Aside0.mk (below_step qgseries_4 hb); clear BK262; clear HB; have BK262 := n0_; have HB := n1_; clear n0_ n1_; (try clear hb); (try clear hb2); (try clear hk); (try clear hi)) | ((with_reducible refine gate_dst (N := 3) rfl ?_); refine box_event ?hg (N := 3) ?hd (cs := #[.int .i64 0, .int .i64 0]) (t := 25) ?hr ?_; (case hd => rfl); (case hg => rfl); (case hr => exact qgseries_12); intro gb266 hg w22 hbox hb; have n0_ := Aside0.mk (blk_below (g := gb262) (o := .cells #[.int .i64 a0_0, .int .i64 a0_1] 25 (0, 0)) qgseries_7 hb); have n1_ := Aside0.mk (below_step qgseries_4 hb); have n2_ := Aside0.mk (hbox); have n3_ := Aside0.mk ((by rw [hg]; exact (below_size qgseries_4) : w.heap.size ≤ gb266)); have n4_ := Aside0.mk ((by rw [hg]; exact (below_size qgseries_4) : w.heap.size ≤ gb266)); have n5_ := Aside0.mk ((by rw [hg]; exact Nat.ne_of_lt (blk_lt (g := gb262) (o := .cells #[.int .i64 a0_0, .int .i64 a0_1] 25 (0, 0)) qgseries_7) : gb262 ≠ gb266)); have n6_ := Aside0.mk ((by rw [hg]; exact Nat.ne_of_gt (blk_lt (g := gb262) (o := .cells #[.int .i64 a0_0, .int .i64 a0_1] 25 (0, 0)) qgseries_7) : gb266 ≠ gb262)); clear BK262; clear HB; have BK262 := n0_; have HB := n1_; have BK266 := n2_; have GW266 := n3_; have GE266 := n4_; have NB262_266 := n5_; have NB266_262 := n6_; clear n0_ n1_ n2_ n3_ n4_ n5_ n6_; clear hb hbox hg; have hnb23 := NB266_262.out; have hnc23 := NB262_266.out; have hcz24_0 : w22.cell? ⟨gb266, 0, none⟩ = some (.int .i64 0) := (blk_cell BK266.out 0).trans rfl; have hcz24_1 : w22.cell? ⟨gb266, 1, none⟩ = some (.int .i64 0) := (blk_cell BK266.out 1).trans rfl; have hfz24_0 := blk_frozen BK266.out 0; have hfz24_1 := blk_frozen BK266.out 1))
  go_ret
  exact ⟨qgseries_5, qgseries_15⟩
 rw [if_pos c3] at H
 have c3b0 : (t265 == 0) = true := beq_iff_eq.mpr c3
 have c3b1 : (t265 != 0) = false := bne_eq_false_iff_eq.mpr c3
 clear c3
 by_cases c4 : (!(t263 == a0_0) || (!(t264 == a0_1))) = true
 ·rw [if_pos c4] at H
  have c4b0 : (!(t263 == a0_0) || (!(t264 == a0_1))) = true := c4
  clear c4
  obtain rfl := Option.some.inj H
  go_enter Try.func66, Try.ntmps66
  go_wp2_with (first | ((with_reducible refine gate_dst (N := 1) rfl ?_); refine box_event ?hg (N := 1) ?hd (cs := #[.int .i64 a0_0, .int .i64 a0_1]) (t := 25) ?hr ?_; (case hd => rfl); (case hg => rfl); (case hr => exact qgseries_12); intro gb262 hg w5 hbox hb; have n0_ := Aside0.mk (below_step qgseries_0 hb); have n1_ := Aside0.mk (hbox); have n2_ := Aside0.mk ((by rw [hg]; exact (below_size qgseries_0) : w.heap.size ≤ gb262)); have n3_ := Aside0.mk ((by rw [hg]; exact (below_size qgseries_0) : w.heap.size ≤ gb262)); clear HB; have HB := n0_; have BK262 := n1_; have GW262 := n2_; have GE262 := n3_; clear n0_ n1_ n2_ n3_; clear hb hbox hg; have hcz6_0 : w5.cell? ⟨gb262, 0, none⟩ = some (.int .i64 a0_0) := (blk_cell BK262.out 0).trans rfl; have hcz6_1 : w5.cell? ⟨gb262, 1, none⟩ = some (.int .i64 a0_1) := (blk_cell BK262.out 1).trans rfl; have hfz6_0 := blk_frozen BK262.out 0; have hfz6_1 := blk_frozen BK262.out 1) | ((with_reducible refine gate_callee (f := 80) rfl ?_); refine goesL_ (some 10) rfl rfl Try.func80 (by kernel_rfl) rfl #[.int .i64 a0_0, .int .i64 a0_1] rfl qgseries_6 ?_; (with_reducible refine (fraction_Make.calls k a0_0 a0_1 t263 t264 t265 _ A2.out).mono ?_); rintro e w7 ⟨rfl, hb⟩; refine ⟨_, rfl, ?_⟩; have n0_ := Aside0.mk (blk_below (g := gb262) (o := .cells #[.int .i64 a0_0, .int .i64 a0_1] 25 (0, 0)) qgseries_7 hb); have n1_ := Aside0.mk (below_step qgseries_4 hb); clear BK262; clear HB; have BK262 := n0_; have HB := n1_; clear n0_ n1_; (try clear hb); (try clear hb2); (try clear hk); (try clear hi)) | ((with_reducible refine gate_dst (N := 3) rfl ?_); refine box_event ?hg (N := 3) ?hd (cs := #[.int .i64 0, .int .i64 0]) (t := 25) ?hr ?_; (case hd => rfl); (case hg => rfl); (case hr => exact qgseries_12); intro gb266 hg w8 hbox hb; have n0_ := Aside0.mk (blk_below (g := gb262) (o := .cells #[.int .i64 a0_0, .int .i64 a0_1] 25 (0, 0)) qgseries_7 hb); have n1_ := Aside0.mk (below_step qgseries_4 hb); have n2_ := Aside0.mk (hbox); have n3_ := Aside0.mk ((by rw [hg]; exact (below_size qgseries_4) : w.heap.size ≤ gb266)); have n4_ := Aside0.mk ((by rw [hg]; exact (below_size qgseries_4) : w.heap.size ≤ gb266)); have n5_ := Aside0.mk ((by rw [hg]; exact Nat.ne_of_lt (blk_lt (g := gb262) (o := .cells #[.int .i64 a0_0, .int .i64 a0_1] 25 (0, 0)) qgseries_7) : gb262 ≠ gb266)); have n6_ := Aside0.mk ((by rw [hg]; exact Nat.ne_of_gt (blk_lt (g := gb262) (o := .cells #[.int .i64 a0_0, .int .i64 a0_1] 25 (0, 0)) qgseries_7) : gb266 ≠ gb262)); clear BK262; clear HB; have BK262 := n0_; have HB := n1_; have BK266 := n2_; have GW266 := n3_; have GE266 := n4_; have NB262_266 := n5_; have NB266_262 := n6_; clear n0_ n1_ n2_ n3_ n4_ n5_ n6_; clear hb hbox hg; have hnb9 := NB266_262.out; have hnc9 := NB262_266.out; have hcz10_0 : w8.cell? ⟨gb266, 0, none⟩ = some (.int .i64 0) := (blk_cell BK266.out 0).trans rfl; have hcz10_1 : w8.cell? ⟨gb266, 1, none⟩ = some (.int .i64 0) := (blk_cell BK266.out 1).trans rfl; have hfz10_0 := blk_frozen BK266.out 0; have hfz10_1 := blk_frozen BK266.out 1; have hcz11_0 : w8.cell? ⟨gb262, 0, none⟩ = some (.int .i64 a0_0) := (blk_cell BK262.out 0).trans rfl; have hcz11_1 : w8.cell? ⟨gb262, 1, none⟩ = some (.int .i64 a0_1) := (blk_cell BK262.out 1).trans rfl; have hfz11_0 := blk_frozen BK262.out 0; have hfz11_1 := blk_frozen BK262.out 1))
  go_ret
  exact ⟨qgseries_5, qgseries_15⟩
 rw [if_neg c4] at H
 have c4b0 : (!(t263 == a0_0) || (!(t264 == a0_1))) = false := by simpa using c4
 clear c4
 obtain rfl := Option.some.inj H
 go_enter Try.func66, Try.ntmps66
 go_wp2_with (first | ((with_reducible refine gate_dst (N := 1) rfl ?_); refine box_event ?hg (N := 1) ?hd (cs := #[.int .i64 a0_0, .int .i64 a0_1]) (t := 25) ?hr ?_; (case hd => rfl); (case hg => rfl); (case hr => exact qgseries_12); intro gb262 hg w12 hbox hb; have n0_ := Aside0.mk (below_step qgseries_0 hb); have n1_ := Aside0.mk (hbox); have n2_ := Aside0.mk ((by rw [hg]; exact (below_size qgseries_0) : w.heap.size ≤ gb262)); have n3_ := Aside0.mk ((by rw [hg]; exact (below_size qgseries_0) : w.heap.size ≤ gb262)); clear HB; have HB := n0_; have BK262 := n1_; have GW262 := n2_; have GE262 := n3_; clear n0_ n1_ n2_ n3_; clear hb hbox hg; have hcz13_0 : w12.cell? ⟨gb262, 0, none⟩ = some (.int .i64 a0_0) := (blk_cell BK262.out 0).trans rfl; have hcz13_1 : w12.cell? ⟨gb262, 1, none⟩ = some (.int .i64 a0_1) := (blk_cell BK262.out 1).trans rfl; have hfz13_0 := blk_frozen BK262.out 0; have hfz13_1 := blk_frozen BK262.out 1) | ((with_reducible refine gate_callee (f := 80) rfl ?_); refine goesL_ (some 10) rfl rfl Try.func80 (by kernel_rfl) rfl #[.int .i64 a0_0, .int .i64 a0_1] rfl qgseries_6 ?_; (with_reducible refine (fraction_Make.calls k a0_0 a0_1 t263 t264 t265 _ A2.out).mono ?_); rintro e w14 ⟨rfl, hb⟩; refine ⟨_, rfl, ?_⟩; have n0_ := Aside0.mk (blk_below (g := gb262) (o := .cells #[.int .i64 a0_0, .int .i64 a0_1] 25 (0, 0)) qgseries_7 hb); have n1_ := Aside0.mk (below_step qgseries_4 hb); clear BK262; clear HB; have BK262 := n0_; have HB := n1_; clear n0_ n1_; (try clear hb); (try clear hb2); (try clear hk); (try clear hi)) | ((with_reducible refine gate_dst (N := 3) rfl ?_); refine box_event ?hg (N := 3) ?hd (cs := #[.int .i64 0, .int .i64 0]) (t := 25) ?hr ?_; (case hd => rfl); (case hg => rfl); (case hr => exact qgseries_12); intro gb266 hg w15 hbox hb; have n0_ := Aside0.mk (blk_below (g := gb262) (o := .cells #[.int .i64 a0_0, .int .i64 a0_1] 25 (0, 0)) qgseries_7 hb); have n1_ := Aside0.mk (below_step qgseries_4 hb); have n2_ := Aside0.mk (hbox); have n3_ := Aside0.mk ((by rw [hg]; exact (below_size qgseries_4) : w.heap.size ≤ gb266)); have n4_ := Aside0.mk ((by rw [hg]; exact (below_size qgseries_4) : w.heap.size ≤ gb266)); have n5_ := Aside0.mk ((by rw [hg]; exact Nat.ne_of_lt (blk_lt (g := gb262) (o := .cells #[.int .i64 a0_0, .int .i64 a0_1] 25 (0, 0)) qgseries_7) : gb262 ≠ gb266)); have n6_ := Aside0.mk ((by rw [hg]; exact Nat.ne_of_gt (blk_lt (g := gb262) (o := .cells #[.int .i64 a0_0, .int .i64 a0_1] 25 (0, 0)) qgseries_7) : gb266 ≠ gb262)); clear BK262; clear HB; have BK262 := n0_; have HB := n1_; have BK266 := n2_; have GW266 := n3_; have GE266 := n4_; have NB262_266 := n5_; have NB266_262 := n6_; clear n0_ n1_ n2_ n3_ n4_ n5_ n6_; clear hb hbox hg; have hnb16 := NB266_262.out; have hnc16 := NB262_266.out; have hcz17_0 : w15.cell? ⟨gb266, 0, none⟩ = some (.int .i64 0) := (blk_cell BK266.out 0).trans rfl; have hcz17_1 : w15.cell? ⟨gb266, 1, none⟩ = some (.int .i64 0) := (blk_cell BK266.out 1).trans rfl; have hfz17_0 := blk_frozen BK266.out 0; have hfz17_1 := blk_frozen BK266.out 1; have hcz18_0 : w15.cell? ⟨gb262, 0, none⟩ = some (.int .i64 a0_0) := (blk_cell BK262.out 0).trans rfl; have hcz18_1 : w15.cell? ⟨gb262, 1, none⟩ = some (.int .i64 a0_1) := (blk_cell BK262.out 1).trans rfl; have hfz18_0 := blk_frozen BK262.out 0; have hfz18_1 := blk_frozen BK262.out 1))
 go_ret
 exact ⟨qgseries_5, qgseries_15⟩

/-! ### series_quantile: function 41 -/
def series_quantile.f (k : Nat) (a0_0 : Int) (a0_1 : Int) : Option (Bool) := (fraction_Check.f k a0_0 a0_1).bind fun t268 => (if t268 = 0 then (if a0_0 > 0 then (some (decide (a0_0 ≤ a0_1))) else (some false)) else (some false))
theorem series_quantile.mono : ∀ a0 a1 k, LeO (series_quantile.f k a0 a1) (series_quantile.f (k + 1) a0 a1) := by
 intro a0 a1 k
 unfold series_quantile.f
 repeat' first
   | (with_reducible exact fraction_Check.mono _ _ _)
   | (with_reducible exact LeO.refl _)
   | (with_reducible exact LeO.none _)
   | (with_reducible refine LeO.ite ?_ ?_)
   | (with_reducible refine LeO.bind ?_ (fun _ => ?_))
   | exact fraction_Check.mono _ _ _
   | exact LeO.none _
   | refine LeO.ite ?_ ?_
   | refine LeO.bind ?_ (fun _ => ?_)
set_option maxHeartbeats 8000000 in
set_option maxRecDepth 100000 in
theorem series_quantile.calls (k : Nat) (a0_0 : Int) (a0_1 : Int) (r : Bool) (w : World) (h : series_quantile.f k a0_0 a0_1 = some r) :
  Calls Try.prog 41 #[.agg #[.int .i64 a0_0, .int .i64 a0_1]] w fun e w' => e = .returned (.bool r) ∧ Below w.heap.size w w' := by
 have hu25 := Try.underlying25
 have HB := Aside0.mk (Below.refl w.heap.size w)
 have H : ((fraction_Check.f k a0_0 a0_1).bind fun t268 => (if t268 = 0 then (if a0_0 > 0 then (some (decide (a0_0 ≤ a0_1))) else (some false)) else (some false))) = some r := h
 clear h
 replace H := Option.bind_eq_some_iff.mp H
 obtain ⟨t268, A20, H⟩ := H
 replace H : (if t268 = 0 then (if a0_0 > 0 then (some (decide (a0_0 ≤ a0_1))) else (some false)) else (some false)) = some r := H
 have A2 := Aside0.mk A20
 clear A20
 by_cases c3 : t268 = 0
 rotate_left
 ·rw [if_neg c3] at H
  have c3b0 : (t268 == 0) = false := beq_eq_false_iff_ne.mpr c3
  have c3b1 : (t268 != 0) = true := bne_iff_ne.mpr c3
  obtain rfl := Option.some.inj H
  go_enter Try.func41, Try.ntmps41
  go_wp2_with (first | ((with_reducible refine gate_dst (N := 1) rfl ?_); refine box_event ?hg (N := 1) ?hd (cs := #[.int .i64 a0_0, .int .i64 a0_1]) (t := 25) ?hr ?_; (case hd => rfl); (case hg => rfl); (case hr => exact qgseries_12); intro gb267 hg w13 hbox hb; have n0_ := Aside0.mk (below_step qgseries_0 hb); have n1_ := Aside0.mk (hbox); have n2_ := Aside0.mk ((by rw [hg]; exact (below_size qgseries_0) : w.heap.size ≤ gb267)); have n3_ := Aside0.mk ((by rw [hg]; exact (below_size qgseries_0) : w.heap.size ≤ gb267)); clear HB; have HB := n0_; have BK267 := n1_; have GW267 := n2_; have GE267 := n3_; clear n0_ n1_ n2_ n3_; clear hb hbox hg; have hcz14_0 : w13.cell? ⟨gb267, 0, none⟩ = some (.int .i64 a0_0) := (blk_cell BK267.out 0).trans rfl; have hcz14_1 : w13.cell? ⟨gb267, 1, none⟩ = some (.int .i64 a0_1) := (blk_cell BK267.out 1).trans rfl; have hfz14_0 := blk_frozen BK267.out 0; have hfz14_1 := blk_frozen BK267.out 1) | ((with_reducible refine gate_callee (f := 66) rfl ?_); refine goesL_ (some 4) rfl rfl Try.func66 (by kernel_rfl) rfl #[.agg #[.int .i64 a0_0, .int .i64 a0_1]] rfl qgseries_6 ?_; (with_reducible refine (fraction_Check.calls k a0_0 a0_1 t268 _ A2.out).mono ?_); rintro e w15 ⟨rfl, hb⟩; refine ⟨_, rfl, ?_⟩; have n0_ := Aside0.mk (blk_below (g := gb267) (o := .cells #[.int .i64 a0_0, .int .i64 a0_1] 25 (0, 0)) qgseries_16 hb); have n1_ := Aside0.mk (below_step qgseries_10 hb); clear BK267; clear HB; have BK267 := n0_; have HB := n1_; clear n0_ n1_; (try clear hb); (try clear hb2); (try clear hk); (try clear hi)))
  go_ret
  exact ⟨qgseries_5, qgseries_10⟩
 rw [if_pos c3] at H
 have c3b0 : (t268 == 0) = true := beq_iff_eq.mpr c3
 have c3b1 : (t268 != 0) = false := bne_eq_false_iff_eq.mpr c3
 clear c3
 by_cases c4 : a0_0 > 0
 ·rw [if_pos c4] at H
  have c4b0 : decide (0 < a0_0) = true := decide_eq_true c4
  clear c4
  obtain rfl := Option.some.inj H
  go_enter Try.func41, Try.ntmps41
  go_wp2_with (first | ((with_reducible refine gate_dst (N := 1) rfl ?_); refine box_event ?hg (N := 1) ?hd (cs := #[.int .i64 a0_0, .int .i64 a0_1]) (t := 25) ?hr ?_; (case hd => rfl); (case hg => rfl); (case hr => exact qgseries_12); intro gb267 hg w5 hbox hb; have n0_ := Aside0.mk (below_step qgseries_0 hb); have n1_ := Aside0.mk (hbox); have n2_ := Aside0.mk ((by rw [hg]; exact (below_size qgseries_0) : w.heap.size ≤ gb267)); have n3_ := Aside0.mk ((by rw [hg]; exact (below_size qgseries_0) : w.heap.size ≤ gb267)); clear HB; have HB := n0_; have BK267 := n1_; have GW267 := n2_; have GE267 := n3_; clear n0_ n1_ n2_ n3_; clear hb hbox hg; have hcz6_0 : w5.cell? ⟨gb267, 0, none⟩ = some (.int .i64 a0_0) := (blk_cell BK267.out 0).trans rfl; have hcz6_1 : w5.cell? ⟨gb267, 1, none⟩ = some (.int .i64 a0_1) := (blk_cell BK267.out 1).trans rfl; have hfz6_0 := blk_frozen BK267.out 0; have hfz6_1 := blk_frozen BK267.out 1) | ((with_reducible refine gate_callee (f := 66) rfl ?_); refine goesL_ (some 4) rfl rfl Try.func66 (by kernel_rfl) rfl #[.agg #[.int .i64 a0_0, .int .i64 a0_1]] rfl qgseries_6 ?_; (with_reducible refine (fraction_Check.calls k a0_0 a0_1 t268 _ A2.out).mono ?_); rintro e w7 ⟨rfl, hb⟩; refine ⟨_, rfl, ?_⟩; have n0_ := Aside0.mk (blk_below (g := gb267) (o := .cells #[.int .i64 a0_0, .int .i64 a0_1] 25 (0, 0)) qgseries_16 hb); have n1_ := Aside0.mk (below_step qgseries_10 hb); clear BK267; clear HB; have BK267 := n0_; have HB := n1_; clear n0_ n1_; (try clear hb); (try clear hb2); (try clear hk); (try clear hi); have hcz8_0 : w7.cell? ⟨gb267, 0, none⟩ = some (.int .i64 a0_0) := (blk_cell BK267.out 0).trans rfl; have hcz8_1 : w7.cell? ⟨gb267, 1, none⟩ = some (.int .i64 a0_1) := (blk_cell BK267.out 1).trans rfl; have hfz8_0 := blk_frozen BK267.out 0; have hfz8_1 := blk_frozen BK267.out 1))
  go_ret
  exact ⟨qgseries_5, qgseries_10⟩
 rw [if_neg c4] at H
 have c4b0 : decide (0 < a0_0) = false := decide_eq_false c4
 clear c4
 obtain rfl := Option.some.inj H
 go_enter Try.func41, Try.ntmps41
 go_wp2_with (first | ((with_reducible refine gate_dst (N := 1) rfl ?_); refine box_event ?hg (N := 1) ?hd (cs := #[.int .i64 a0_0, .int .i64 a0_1]) (t := 25) ?hr ?_; (case hd => rfl); (case hg => rfl); (case hr => exact qgseries_12); intro gb267 hg w9 hbox hb; have n0_ := Aside0.mk (below_step qgseries_0 hb); have n1_ := Aside0.mk (hbox); have n2_ := Aside0.mk ((by rw [hg]; exact (below_size qgseries_0) : w.heap.size ≤ gb267)); have n3_ := Aside0.mk ((by rw [hg]; exact (below_size qgseries_0) : w.heap.size ≤ gb267)); clear HB; have HB := n0_; have BK267 := n1_; have GW267 := n2_; have GE267 := n3_; clear n0_ n1_ n2_ n3_; clear hb hbox hg; have hcz10_0 : w9.cell? ⟨gb267, 0, none⟩ = some (.int .i64 a0_0) := (blk_cell BK267.out 0).trans rfl; have hcz10_1 : w9.cell? ⟨gb267, 1, none⟩ = some (.int .i64 a0_1) := (blk_cell BK267.out 1).trans rfl; have hfz10_0 := blk_frozen BK267.out 0; have hfz10_1 := blk_frozen BK267.out 1) | ((with_reducible refine gate_callee (f := 66) rfl ?_); refine goesL_ (some 4) rfl rfl Try.func66 (by kernel_rfl) rfl #[.agg #[.int .i64 a0_0, .int .i64 a0_1]] rfl qgseries_6 ?_; (with_reducible refine (fraction_Check.calls k a0_0 a0_1 t268 _ A2.out).mono ?_); rintro e w11 ⟨rfl, hb⟩; refine ⟨_, rfl, ?_⟩; have n0_ := Aside0.mk (blk_below (g := gb267) (o := .cells #[.int .i64 a0_0, .int .i64 a0_1] 25 (0, 0)) qgseries_16 hb); have n1_ := Aside0.mk (below_step qgseries_10 hb); clear BK267; clear HB; have BK267 := n0_; have HB := n1_; clear n0_ n1_; (try clear hb); (try clear hb2); (try clear hk); (try clear hi); have hcz12_0 : w11.cell? ⟨gb267, 0, none⟩ = some (.int .i64 a0_0) := (blk_cell BK267.out 0).trans rfl; have hcz12_1 : w11.cell? ⟨gb267, 1, none⟩ = some (.int .i64 a0_1) := (blk_cell BK267.out 1).trans rfl; have hfz12_0 := blk_frozen BK267.out 0; have hfz12_1 := blk_frozen BK267.out 1))
 go_ret
 exact ⟨qgseries_5, qgseries_10⟩

/-! ### slices_ContainsFunc_int_int: function 42 -/
def slices_ContainsFunc_int_int.f (l0 : List Int) : Option Bool := some (l0.any HandC.bad)
theorem slices_ContainsFunc_int_int.calls (A0 : Option Addr) (c0 : Nat) (l0 : List Int) (r : Bool) (w : World) (hr0 : Kd.C (Kd.int .i64) w A0 l0.length l0) (hc0 : l0.length ≤ c0) (h : slices_ContainsFunc_int_int.f l0 = some r) :
  Calls Try.prog 42 #[.slice A0 l0.length c0, .func (.func 43) #[] #[]] w fun e w' => e = .returned (.bool r) ∧ Drawn0 w w' := by
 unfold slices_ContainsFunc_int_int.f at h
 cases h
 exact HandC.contains_calls A0 c0 l0 w hr0 hc0

/-! ### series_Check: function 18 -/
mutual
def series_Check.j0 : Nat → Bool → ByteArray → ByteArray → Int → Int → Int → Int → List Int → Option (Int)
 | 0, _, _, _, _, _, _, _, _ => none
 | k + 1, x3, x270000, x270001, x270002, x270003, x270004, x270005, x270006 => if x3 = true then (some 11) else (if x270002 < 1 then (series_Check.j1 k true x270000 x270001 x270002 x270003 x270004 x270005 x270006) else (series_Check.j1 k (decide (x270002 > 3)) x270000 x270001 x270002 x270003 x270004 x270005 x270006))
def series_Check.j1 : Nat → Bool → ByteArray → ByteArray → Int → Int → Int → Int → List Int → Option (Int)
 | 0, _, _, _, _, _, _, _, _ => none
 | k + 1, x19, x270000, x270001, x270002, x270003, x270004, x270005, x270006 => if x19 = true then (some 12) else (if x270002 = 3 then ((series_quantile.f k x270003 x270004).bind fun t272 => (if t272 = true then (series_Check.j2 k false x270000 x270001 x270002 x270003 x270004 x270005 x270006) else (series_Check.j2 k true x270000 x270001 x270002 x270003 x270004 x270005 x270006))) else (series_Check.j2 k (!(x270003 == 0) || (!(x270004 == 0))) x270000 x270001 x270002 x270003 x270004 x270005 x270006))
def series_Check.j2 : Nat → Bool → ByteArray → ByteArray → Int → Int → Int → Int → List Int → Option (Int)
 | 0, _, _, _, _, _, _, _, _ => none
 | k + 1, x28, x270000, x270001, x270002, x270003, x270004, x270005, x270006 => if x28 = true then (some 3) else (if x270005 < 0 then (series_Check.j3 k true x270000 x270001 x270002 x270003 x270004 x270005 x270006) else (series_Check.j3 k (decide (x270005 > 1048576)) x270000 x270001 x270002 x270003 x270004 x270005 x270006))
def series_Check.j3 : Nat → Bool → ByteArray → ByteArray → Int → Int → Int → Int → List Int → Option (Int)
 | 0, _, _, _, _, _, _, _, _ => none
 | k + 1, x49, x270000, x270001, x270002, x270003, x270004, x270005, x270006 => if x49 = true then (some 32) else (if (x270006.length : Int) > 1024 then (some 6) else (if (wrap64 (x270005 + (x270006.length : Int))) > 1048577 then (some 32) else ((slices_ContainsFunc_int_int.f x270006).bind fun t273 => (if t273 = true then (some 2) else (some 0)))))
end
def series_Check.f (k : Nat) (a0_0 : ByteArray) (a0_1 : ByteArray) (a0_2 : Int) (a0_3 : Int) (a0_4 : Int) (a0_5 : Int) (l0_6 : List Int) : Option (Int) := (attribute_IsName.f k a0_0).bind fun t270 => (if t270 = true then (if a0_1.toList = ([] : List UInt8) then (series_Check.j0 k false a0_0 a0_1 a0_2 a0_3 a0_4 a0_5 l0_6) else ((attribute_IsName.f k a0_1).bind fun t271 => (series_Check.j0 k (!t271) a0_0 a0_1 a0_2 a0_3 a0_4 a0_5 l0_6))) else (series_Check.j0 k true a0_0 a0_1 a0_2 a0_3 a0_4 a0_5 l0_6))
theorem series_Check.mono_l : ∀ k, (∀ y0 y1 y2 y3 y4 y5 y6 y7, LeO (series_Check.j0 k y0 y1 y2 y3 y4 y5 y6 y7) (series_Check.j0 (k + 1) y0 y1 y2 y3 y4 y5 y6 y7)) ∧ (∀ y0 y1 y2 y3 y4 y5 y6 y7, LeO (series_Check.j1 k y0 y1 y2 y3 y4 y5 y6 y7) (series_Check.j1 (k + 1) y0 y1 y2 y3 y4 y5 y6 y7)) ∧ (∀ y0 y1 y2 y3 y4 y5 y6 y7, LeO (series_Check.j2 k y0 y1 y2 y3 y4 y5 y6 y7) (series_Check.j2 (k + 1) y0 y1 y2 y3 y4 y5 y6 y7)) ∧ (∀ y0 y1 y2 y3 y4 y5 y6 y7, LeO (series_Check.j3 k y0 y1 y2 y3 y4 y5 y6 y7) (series_Check.j3 (k + 1) y0 y1 y2 y3 y4 y5 y6 y7))
 | 0 => ⟨fun _ _ _ _ _ _ _ _ r h => by simp [series_Check.j0] at h, fun _ _ _ _ _ _ _ _ r h => by simp [series_Check.j1] at h, fun _ _ _ _ _ _ _ _ r h => by simp [series_Check.j2] at h, fun _ _ _ _ _ _ _ _ r h => by simp [series_Check.j3] at h⟩
 | k + 1 => by
  obtain ⟨ih0, ih1, ih2, ih3⟩ := series_Check.mono_l k
  refine ⟨?_, ?_, ?_, ?_⟩
  ·intro y0 y1 y2 y3 y4 y5 y6 y7
   unfold series_Check.j0
   repeat' first
   | (with_reducible exact ih0 _ _ _ _ _ _ _ _)
   | (with_reducible exact ih1 _ _ _ _ _ _ _ _)
   | (with_reducible exact ih2 _ _ _ _ _ _ _ _)
   | (with_reducible exact ih3 _ _ _ _ _ _ _ _)
   | (with_reducible exact attribute_IsName.mono _ _)
   | (with_reducible exact series_quantile.mono _ _ _)
   | (with_reducible exact LeO.refl _)
   | (with_reducible exact LeO.none _)
   | (with_reducible refine LeO.ite ?_ ?_)
   | (with_reducible refine LeO.bind ?_ (fun _ => ?_))
   | exact ih0 _ _ _ _ _ _ _ _
   | exact ih1 _ _ _ _ _ _ _ _
   | exact ih2 _ _ _ _ _ _ _ _
   | exact ih3 _ _ _ _ _ _ _ _
   | exact attribute_IsName.mono _ _
   | exact series_quantile.mono _ _ _
   | exact LeO.none _
   | refine LeO.ite ?_ ?_
   | refine LeO.bind ?_ (fun _ => ?_)
  ·intro y0 y1 y2 y3 y4 y5 y6 y7
   unfold series_Check.j1
   repeat' first
   | (with_reducible exact ih0 _ _ _ _ _ _ _ _)
   | (with_reducible exact ih1 _ _ _ _ _ _ _ _)
   | (with_reducible exact ih2 _ _ _ _ _ _ _ _)
   | (with_reducible exact ih3 _ _ _ _ _ _ _ _)
   | (with_reducible exact attribute_IsName.mono _ _)
   | (with_reducible exact series_quantile.mono _ _ _)
   | (with_reducible exact LeO.refl _)
   | (with_reducible exact LeO.none _)
   | (with_reducible refine LeO.ite ?_ ?_)
   | (with_reducible refine LeO.bind ?_ (fun _ => ?_))
   | exact ih0 _ _ _ _ _ _ _ _
   | exact ih1 _ _ _ _ _ _ _ _
   | exact ih2 _ _ _ _ _ _ _ _
   | exact ih3 _ _ _ _ _ _ _ _
   | exact attribute_IsName.mono _ _
   | exact series_quantile.mono _ _ _
   | exact LeO.none _
   | refine LeO.ite ?_ ?_
   | refine LeO.bind ?_ (fun _ => ?_)
  ·intro y0 y1 y2 y3 y4 y5 y6 y7
   unfold series_Check.j2
   repeat' first
   | (with_reducible exact ih0 _ _ _ _ _ _ _ _)
   | (with_reducible exact ih1 _ _ _ _ _ _ _ _)
   | (with_reducible exact ih2 _ _ _ _ _ _ _ _)
   | (with_reducible exact ih3 _ _ _ _ _ _ _ _)
   | (with_reducible exact attribute_IsName.mono _ _)
   | (with_reducible exact series_quantile.mono _ _ _)
   | (with_reducible exact LeO.refl _)
   | (with_reducible exact LeO.none _)
   | (with_reducible refine LeO.ite ?_ ?_)
   | (with_reducible refine LeO.bind ?_ (fun _ => ?_))
   | exact ih0 _ _ _ _ _ _ _ _
   | exact ih1 _ _ _ _ _ _ _ _
   | exact ih2 _ _ _ _ _ _ _ _
   | exact ih3 _ _ _ _ _ _ _ _
   | exact attribute_IsName.mono _ _
   | exact series_quantile.mono _ _ _
   | exact LeO.none _
   | refine LeO.ite ?_ ?_
   | refine LeO.bind ?_ (fun _ => ?_)
  ·intro y0 y1 y2 y3 y4 y5 y6 y7
   unfold series_Check.j3
   repeat' first
   | (with_reducible exact ih0 _ _ _ _ _ _ _ _)
   | (with_reducible exact ih1 _ _ _ _ _ _ _ _)
   | (with_reducible exact ih2 _ _ _ _ _ _ _ _)
   | (with_reducible exact ih3 _ _ _ _ _ _ _ _)
   | (with_reducible exact attribute_IsName.mono _ _)
   | (with_reducible exact series_quantile.mono _ _ _)
   | (with_reducible exact LeO.refl _)
   | (with_reducible exact LeO.none _)
   | (with_reducible refine LeO.ite ?_ ?_)
   | (with_reducible refine LeO.bind ?_ (fun _ => ?_))
   | exact ih0 _ _ _ _ _ _ _ _
   | exact ih1 _ _ _ _ _ _ _ _
   | exact ih2 _ _ _ _ _ _ _ _
   | exact ih3 _ _ _ _ _ _ _ _
   | exact attribute_IsName.mono _ _
   | exact series_quantile.mono _ _ _
   | exact LeO.none _
   | refine LeO.ite ?_ ?_
   | refine LeO.bind ?_ (fun _ => ?_)
theorem series_Check.mono : ∀ a0 a1 a2 a3 a4 a5 a6 k, LeO (series_Check.f k a0 a1 a2 a3 a4 a5 a6) (series_Check.f (k + 1) a0 a1 a2 a3 a4 a5 a6) := by
 intro a0 a1 a2 a3 a4 a5 a6 k
 obtain ⟨ih0, ih1, ih2, ih3⟩ := series_Check.mono_l k
 unfold series_Check.f
 repeat' first
   | (with_reducible exact ih0 _ _ _ _ _ _ _ _)
   | (with_reducible exact ih1 _ _ _ _ _ _ _ _)
   | (with_reducible exact ih2 _ _ _ _ _ _ _ _)
   | (with_reducible exact ih3 _ _ _ _ _ _ _ _)
   | (with_reducible exact attribute_IsName.mono _ _)
   | (with_reducible exact series_quantile.mono _ _ _)
   | (with_reducible exact LeO.refl _)
   | (with_reducible exact LeO.none _)
   | (with_reducible refine LeO.ite ?_ ?_)
   | (with_reducible refine LeO.bind ?_ (fun _ => ?_))
   | exact ih0 _ _ _ _ _ _ _ _
   | exact ih1 _ _ _ _ _ _ _ _
   | exact ih2 _ _ _ _ _ _ _ _
   | exact ih3 _ _ _ _ _ _ _ _
   | exact attribute_IsName.mono _ _
   | exact series_quantile.mono _ _ _
   | exact LeO.none _
   | refine LeO.ite ?_ ?_
   | refine LeO.bind ?_ (fun _ => ?_)
set_option maxHeartbeats 8000000 in
set_option maxRecDepth 100000 in
theorem series_Check.calls (k : Nat) (a0_0 : ByteArray) (a0_1 : ByteArray) (a0_2 : Int) (a0_3 : Int) (a0_4 : Int) (a0_5 : Int) (A0_6 : Option Addr) (c0_6 : Nat) (l0_6 : List Int) (r : Int) (w : World) (hr0_6 : Kd.C (Kd.int .i64) w A0_6 l0_6.length l0_6) (hc0_6 : l0_6.length ≤ c0_6) (h : series_Check.f k a0_0 a0_1 a0_2 a0_3 a0_4 a0_5 l0_6 = some r) :
  Calls Try.prog 18 #[.agg #[.string a0_0, .string a0_1, .int .i64 a0_2, .int .i64 a0_3, .int .i64 a0_4, .int .i64 a0_5, .slice A0_6 l0_6.length c0_6]] w fun e w' => e = .returned (.int .i64 r) ∧ Below w.heap.size w w' := by
 have hu28 := Try.underlying28
 have hu25 := Try.underlying25
 have HR0_6 := Aside0.mk hr0_6
 have HC0_6 := Aside0.mk hc0_6
 clear hr0_6 hc0_6
 have HB := Aside0.mk (Below.refl w.heap.size w)
 have H : ((attribute_IsName.f k a0_0).bind fun t270 => (if t270 = true then (if a0_1.toList = ([] : List UInt8) then (series_Check.j0 k false a0_0 a0_1 a0_2 a0_3 a0_4 a0_5 l0_6) else ((attribute_IsName.f k a0_1).bind fun t271 => (series_Check.j0 k (!t271) a0_0 a0_1 a0_2 a0_3 a0_4 a0_5 l0_6))) else (series_Check.j0 k true a0_0 a0_1 a0_2 a0_3 a0_4 a0_5 l0_6))) = some r := h
 clear h
 have HC2 := Aside0.mk H
 clear H
 go_enter Try.func18, Try.ntmps18
 go_upto_region 1 with (first | ((with_reducible refine gate_dst (N := 1) rfl ?_); refine box_event ?hg (N := 1) ?hd (cs := #[.string a0_0, .string a0_1, .int .i64 a0_2, .int .i64 a0_3, .int .i64 a0_4, .int .i64 a0_5, .slice A0_6 l0_6.length c0_6]) (t := 28) ?hr ?_; (case hd => rfl); (case hg => rfl); (case hr => exact qgseries_12); intro gb269 hg w3 hbox hb; have n0_ := Aside0.mk (below_step qgseries_0 hb); have n1_ := Aside0.mk (hbox); have n2_ := Aside0.mk ((by rw [hg]; exact (below_size qgseries_0) : w.heap.size ≤ gb269)); have n3_ := Aside0.mk ((by rw [hg]; exact (below_size qgseries_0) : w.heap.size ≤ gb269)); clear HB; have HB := n0_; have BK269 := n1_; have GW269 := n2_; have GE269 := n3_; clear n0_ n1_ n2_ n3_; clear hb hbox hg))
 (try simp only [Act.put, List.setIfInBounds_toArray, List.set_cons_zero, List.set_cons_succ])
 go_cut [3] (fun v3 wc => ∃ (kq : Nat) (x3_1 : Bool), v3 = .bool x3_1 ∧ Aside0 (series_Check.j0 kq x3_1 a0_0 a0_1 a0_2 a0_3 a0_4 a0_5 l0_6 = some r) ∧ Aside0 (kq ≤ k) ∧ Aside0 (wc.heap[gb269]? = some (.cells #[.string a0_0, .string a0_1, .int .i64 a0_2, .int .i64 a0_3, .int .i64 a0_4, .int .i64 a0_5, (.slice A0_6 l0_6.length c0_6)] 28 (0, 0))) ∧ Aside0 (Below w.heap.size w wc))
 case first =>
  have H := HC2.out
  clear HC2
  replace H := Option.bind_eq_some_iff.mp H
  obtain ⟨t270, A40, H⟩ := H
  replace H : (if t270 = true then (if a0_1.toList = ([] : List UInt8) then (series_Check.j0 k false a0_0 a0_1 a0_2 a0_3 a0_4 a0_5 l0_6) else ((attribute_IsName.f k a0_1).bind fun t271 => (series_Check.j0 k (!t271) a0_0 a0_1 a0_2 a0_3 a0_4 a0_5 l0_6))) else (series_Check.j0 k true a0_0 a0_1 a0_2 a0_3 a0_4 a0_5 l0_6)) = some r := H
  have A4 := Aside0.mk A40
  clear A40
  by_cases c5 : t270 = true
  rotate_left
  ·replace c5 := Bool.eq_false_iff.mpr c5
   subst c5
   have H1 : (series_Check.j0 k true a0_0 a0_1 a0_2 a0_3 a0_4 a0_5 l0_6) = some r := by rw [if_neg (show ¬ (false = true) by decide)] at H; exact H
   clear H
   have H := H1
   clear H1
   have H' := Aside0.mk H
   clear H
   have hcz10_0 : w3.cell? ⟨gb269, 0, none⟩ = some (.string a0_0) := (blk_cell BK269.out 0).trans rfl
   have hcz10_1 : w3.cell? ⟨gb269, 1, none⟩ = some (.string a0_1) := (blk_cell BK269.out 1).trans rfl
   have hcz10_2 : w3.cell? ⟨gb269, 2, none⟩ = some (.int .i64 a0_2) := (blk_cell BK269.out 2).trans rfl
   have hcz10_3 : w3.cell? ⟨gb269, 3, none⟩ = some (.int .i64 a0_3) := (blk_cell BK269.out 3).trans rfl
   have hcz10_4 : w3.cell? ⟨gb269, 4, none⟩ = some (.int .i64 a0_4) := (blk_cell BK269.out 4).trans rfl
   have hcz10_5 : w3.cell? ⟨gb269, 5, none⟩ = some (.int .i64 a0_5) := (blk_cell BK269.out 5).trans rfl
   have hcz10_6 : w3.cell? ⟨gb269, 6, none⟩ = some (.slice A0_6 l0_6.length c0_6) := (blk_cell BK269.out 6).trans rfl
   have hfz10_0 := blk_frozen BK269.out 0
   have hfz10_1 := blk_frozen BK269.out 1
   have hfz10_2 := blk_frozen BK269.out 2
   have hfz10_3 := blk_frozen BK269.out 3
   have hfz10_4 := blk_frozen BK269.out 4
   have hfz10_5 := blk_frozen BK269.out 5
   have hfz10_6 := blk_frozen BK269.out 6
   go_wp2_with (first | ((with_reducible refine gate_callee (f := 40) rfl ?_); refine goesL_ (some 6) rfl rfl Try.func40 (by kernel_rfl) rfl #[.string a0_0] rfl qgseries_6 ?_; (with_reducible refine (attribute_IsName.calls k a0_0 false _ A4.out).mono ?_); rintro e w' ⟨rfl, ⟨nd, rfl⟩⟩; refine ⟨_, rfl, ?_⟩))
   go_meet
   case rel => exact ⟨_, (true), qgseries_9, H', ⟨by first | omega | exact Nat.le_refl _⟩, ⟨qgseries_8⟩, ⟨qgseries_2⟩⟩
  subst c5
  have H1 : (if a0_1.toList = ([] : List UInt8) then (series_Check.j0 k false a0_0 a0_1 a0_2 a0_3 a0_4 a0_5 l0_6) else ((attribute_IsName.f k a0_1).bind fun t271 => (series_Check.j0 k (!t271) a0_0 a0_1 a0_2 a0_3 a0_4 a0_5 l0_6))) = some r := by rw [if_pos rfl] at H; exact H
  clear H
  have H := H1
  clear H1
  by_cases c6 : a0_1.toList = ([] : List UInt8)
  ·rw [if_pos c6] at H
   have c6b0 : (a0_1.toList == ([] : List UInt8)) = true := beq_iff_eq.mpr c6
   have c6b1 : (a0_1.toList != ([] : List UInt8)) = false := bne_eq_false_iff_eq.mpr c6
   clear c6
   (first | rw [c6b0] | (simp only [i64_w, i32_w]; rw [c6b0]) | skip)
   have H' := Aside0.mk H
   clear H
   have hcz7_0 : w3.cell? ⟨gb269, 0, none⟩ = some (.string a0_0) := (blk_cell BK269.out 0).trans rfl
   have hcz7_1 : w3.cell? ⟨gb269, 1, none⟩ = some (.string a0_1) := (blk_cell BK269.out 1).trans rfl
   have hcz7_2 : w3.cell? ⟨gb269, 2, none⟩ = some (.int .i64 a0_2) := (blk_cell BK269.out 2).trans rfl
   have hcz7_3 : w3.cell? ⟨gb269, 3, none⟩ = some (.int .i64 a0_3) := (blk_cell BK269.out 3).trans rfl
   have hcz7_4 : w3.cell? ⟨gb269, 4, none⟩ = some (.int .i64 a0_4) := (blk_cell BK269.out 4).trans rfl
   have hcz7_5 : w3.cell? ⟨gb269, 5, none⟩ = some (.int .i64 a0_5) := (blk_cell BK269.out 5).trans rfl
   have hcz7_6 : w3.cell? ⟨gb269, 6, none⟩ = some (.slice A0_6 l0_6.length c0_6) := (blk_cell BK269.out 6).trans rfl
   have hfz7_0 := blk_frozen BK269.out 0
   have hfz7_1 := blk_frozen BK269.out 1
   have hfz7_2 := blk_frozen BK269.out 2
   have hfz7_3 := blk_frozen BK269.out 3
   have hfz7_4 := blk_frozen BK269.out 4
   have hfz7_5 := blk_frozen BK269.out 5
   have hfz7_6 := blk_frozen BK269.out 6
   go_wp2_with (first | ((with_reducible refine gate_callee (f := 40) rfl ?_); refine goesL_ (some 6) rfl rfl Try.func40 (by kernel_rfl) rfl #[.string a0_0] rfl qgseries_6 ?_; (with_reducible refine (attribute_IsName.calls k a0_0 true _ A4.out).mono ?_); rintro e w' ⟨rfl, ⟨nd, rfl⟩⟩; refine ⟨_, rfl, ?_⟩))
   go_meet
   case rel => exact ⟨_, (false), qgseries_9, H', ⟨by first | omega | exact Nat.le_refl _⟩, ⟨qgseries_8⟩, ⟨qgseries_2⟩⟩
  rw [if_neg c6] at H
  have c6b0 : (a0_1.toList == ([] : List UInt8)) = false := beq_eq_false_iff_ne.mpr c6
  have c6b1 : (a0_1.toList != ([] : List UInt8)) = true := bne_iff_ne.mpr c6
  (first | rw [c6b0] | (simp only [i64_w, i32_w]; rw [c6b0]) | skip)
  replace H := Option.bind_eq_some_iff.mp H
  obtain ⟨t271, A80, H⟩ := H
  replace H : (series_Check.j0 k (!t271) a0_0 a0_1 a0_2 a0_3 a0_4 a0_5 l0_6) = some r := H
  have A8 := Aside0.mk A80
  clear A80
  have H' := Aside0.mk H
  clear H
  have hcz9_0 : w3.cell? ⟨gb269, 0, none⟩ = some (.string a0_0) := (blk_cell BK269.out 0).trans rfl
  have hcz9_1 : w3.cell? ⟨gb269, 1, none⟩ = some (.string a0_1) := (blk_cell BK269.out 1).trans rfl
  have hcz9_2 : w3.cell? ⟨gb269, 2, none⟩ = some (.int .i64 a0_2) := (blk_cell BK269.out 2).trans rfl
  have hcz9_3 : w3.cell? ⟨gb269, 3, none⟩ = some (.int .i64 a0_3) := (blk_cell BK269.out 3).trans rfl
  have hcz9_4 : w3.cell? ⟨gb269, 4, none⟩ = some (.int .i64 a0_4) := (blk_cell BK269.out 4).trans rfl
  have hcz9_5 : w3.cell? ⟨gb269, 5, none⟩ = some (.int .i64 a0_5) := (blk_cell BK269.out 5).trans rfl
  have hcz9_6 : w3.cell? ⟨gb269, 6, none⟩ = some (.slice A0_6 l0_6.length c0_6) := (blk_cell BK269.out 6).trans rfl
  have hfz9_0 := blk_frozen BK269.out 0
  have hfz9_1 := blk_frozen BK269.out 1
  have hfz9_2 := blk_frozen BK269.out 2
  have hfz9_3 := blk_frozen BK269.out 3
  have hfz9_4 := blk_frozen BK269.out 4
  have hfz9_5 := blk_frozen BK269.out 5
  have hfz9_6 := blk_frozen BK269.out 6
  go_wp2_with (first | ((with_reducible refine gate_callee (f := 40) rfl ?_); refine goesL_ (some 6) rfl rfl Try.func40 (by kernel_rfl) rfl #[.string a0_0] rfl qgseries_6 ?_; (with_reducible refine (attribute_IsName.calls k a0_0 true _ A4.out).mono ?_); rintro e w' ⟨rfl, ⟨nd, rfl⟩⟩; refine ⟨_, rfl, ?_⟩) | (go_at_call 40; (with_reducible refine (attribute_IsName.calls k a0_1 t271 _ A8.out).mono ?_); rintro e w' ⟨rfl, ⟨nd, rfl⟩⟩))
  go_meet
  case rel => exact ⟨_, (!t271), qgseries_9, H', ⟨by first | omega | exact Nat.le_refl _⟩, ⟨qgseries_8⟩, ⟨qgseries_2⟩⟩
 clear HC2
 try clear c1
 try clear p2
 try clear c4
 try clear c5
 try clear c6
 try clear c6b0
 try clear c6b1
 try clear hcz10_0
 try clear hcz10_1
 try clear hcz10_2
 try clear hcz10_3
 try clear hcz10_4
 try clear hcz10_5
 try clear hcz10_6
 try clear hcz7_0
 try clear hcz7_1
 try clear hcz7_2
 try clear hcz7_3
 try clear hcz7_4
 try clear hcz7_5
 try clear hcz7_6
 try clear hcz9_0
 try clear hcz9_1
 try clear hcz9_2
 try clear hcz9_3
 try clear hcz9_4
 try clear hcz9_5
 try clear hcz9_6
 try clear hfz10_0
 try clear hfz10_1
 try clear hfz10_2
 try clear hfz10_3
 try clear hfz10_4
 try clear hfz10_5
 try clear hfz10_6
 try clear hfz7_0
 try clear hfz7_1
 try clear hfz7_2
 try clear hfz7_3
 try clear hfz7_4
 try clear hfz7_5
 try clear hfz7_6
 try clear hfz9_0
 try clear hfz9_1
 try clear hfz9_2
 try clear hfz9_3
 try clear hfz9_4
 try clear hfz9_5
 try clear hfz9_6
 obtain ⟨kq, x3_1, rfl, HA, HJ1, BK269, HB⟩ := hcut
 cases kq with
 | zero => exact absurd HA.out (by simp [series_Check.j0])
 | succ kj1 =>
  have H := HA.out
  clear HA
  simp only [series_Check.j0] at H
  by_cases c11 : x3_1 = true
  ·subst c11
   have H1 : (some 11) = some r := by rw [if_pos rfl] at H; exact H
   clear H
   have H := H1
   clear H1
   obtain rfl := Option.some.inj H
   go_wp2
   go_ret
   exact ⟨qgseries_5, qgseries_2⟩
  replace c11 := Bool.eq_false_iff.mpr c11
  subst c11
  have H1 : (if a0_2 < 1 then (series_Check.j1 kj1 true a0_0 a0_1 a0_2 a0_3 a0_4 a0_5 l0_6) else (series_Check.j1 kj1 (decide (a0_2 > 3)) a0_0 a0_1 a0_2 a0_3 a0_4 a0_5 l0_6)) = some r := by rw [if_neg (show ¬ (false = true) by decide)] at H; exact H
  clear H
  have H := H1
  clear H1
  have HC12 := Aside0.mk H
  clear H
  go_upto_region 3 with (fail)
  go_cut [19] (fun v19 wc => ∃ (kq : Nat) (x19_11 : Bool), v19 = .bool x19_11 ∧ Aside0 (series_Check.j1 kq x19_11 a0_0 a0_1 a0_2 a0_3 a0_4 a0_5 l0_6 = some r) ∧ Aside0 (kq ≤ kj1) ∧ Aside0 (wc.heap[gb269]? = some (.cells #[.string a0_0, .string a0_1, .int .i64 a0_2, .int .i64 a0_3, .int .i64 a0_4, .int .i64 a0_5, (.slice A0_6 l0_6.length c0_6)] 28 (0, 0))) ∧ Aside0 (Below w.heap.size w wc))
  case first =>
   have H := HC12.out
   clear HC12
   by_cases c13 : a0_2 < 1
   ·rw [if_pos c13] at H
    have c13b0 : decide (a0_2 < 1) = true := decide_eq_true c13
    clear c13
    (first | rw [c13b0] | (simp only [i64_w, i32_w]; rw [c13b0]) | skip)
    have H' := Aside0.mk H
    clear H
    have hcz14_0 : wc.cell? ⟨gb269, 0, none⟩ = some (.string a0_0) := (blk_cell BK269.out 0).trans rfl
    have hcz14_1 : wc.cell? ⟨gb269, 1, none⟩ = some (.string a0_1) := (blk_cell BK269.out 1).trans rfl
    have hcz14_2 : wc.cell? ⟨gb269, 2, none⟩ = some (.int .i64 a0_2) := (blk_cell BK269.out 2).trans rfl
    have hcz14_3 : wc.cell? ⟨gb269, 3, none⟩ = some (.int .i64 a0_3) := (blk_cell BK269.out 3).trans rfl
    have hcz14_4 : wc.cell? ⟨gb269, 4, none⟩ = some (.int .i64 a0_4) := (blk_cell BK269.out 4).trans rfl
    have hcz14_5 : wc.cell? ⟨gb269, 5, none⟩ = some (.int .i64 a0_5) := (blk_cell BK269.out 5).trans rfl
    have hcz14_6 : wc.cell? ⟨gb269, 6, none⟩ = some (.slice A0_6 l0_6.length c0_6) := (blk_cell BK269.out 6).trans rfl
    have hfz14_0 := blk_frozen BK269.out 0
    have hfz14_1 := blk_frozen BK269.out 1
    have hfz14_2 := blk_frozen BK269.out 2
    have hfz14_3 := blk_frozen BK269.out 3
    have hfz14_4 := blk_frozen BK269.out 4
    have hfz14_5 := blk_frozen BK269.out 5
    have hfz14_6 := blk_frozen BK269.out 6
    go_wp2
    go_meet
    case rel => exact ⟨_, (true), qgseries_9, H', ⟨by have := HJ1.out; first | omega | exact Nat.le_refl _⟩, ⟨qgseries_8⟩, ⟨qgseries_2⟩⟩
   rw [if_neg c13] at H
   have c13b0 : decide (a0_2 < 1) = false := decide_eq_false c13
   clear c13
   (first | rw [c13b0] | (simp only [i64_w, i32_w]; rw [c13b0]) | skip)
   have H' := Aside0.mk H
   clear H
   have hcz15_0 : wc.cell? ⟨gb269, 0, none⟩ = some (.string a0_0) := (blk_cell BK269.out 0).trans rfl
   have hcz15_1 : wc.cell? ⟨gb269, 1, none⟩ = some (.string a0_1) := (blk_cell BK269.out 1).trans rfl
   have hcz15_2 : wc.cell? ⟨gb269, 2, none⟩ = some (.int .i64 a0_2) := (blk_cell BK269.out 2).trans rfl
   have hcz15_3 : wc.cell? ⟨gb269, 3, none⟩ = some (.int .i64 a0_3) := (blk_cell BK269.out 3).trans rfl
   have hcz15_4 : wc.cell? ⟨gb269, 4, none⟩ = some (.int .i64 a0_4) := (blk_cell BK269.out 4).trans rfl
   have hcz15_5 : wc.cell? ⟨gb269, 5, none⟩ = some (.int .i64 a0_5) := (blk_cell BK269.out 5).trans rfl
   have hcz15_6 : wc.cell? ⟨gb269, 6, none⟩ = some (.slice A0_6 l0_6.length c0_6) := (blk_cell BK269.out 6).trans rfl
   have hfz15_0 := blk_frozen BK269.out 0
   have hfz15_1 := blk_frozen BK269.out 1
   have hfz15_2 := blk_frozen BK269.out 2
   have hfz15_3 := blk_frozen BK269.out 3
   have hfz15_4 := blk_frozen BK269.out 4
   have hfz15_5 := blk_frozen BK269.out 5
   have hfz15_6 := blk_frozen BK269.out 6
   go_wp2
   go_meet
   case rel => exact ⟨_, (decide (a0_2 > 3)), qgseries_9, H', ⟨by have := HJ1.out; first | omega | exact Nat.le_refl _⟩, ⟨qgseries_8⟩, ⟨qgseries_2⟩⟩
  clear HC12
  try clear c1
  try clear p2
  try clear c4
  try clear c5
  try clear c6
  try clear c6b0
  try clear c6b1
  try clear c11
  try clear c13
  try clear c13b0
  try clear hcz10_0
  try clear hcz10_1
  try clear hcz10_2
  try clear hcz10_3
  try clear hcz10_4
  try clear hcz10_5
  try clear hcz10_6
  try clear hcz14_0
  try clear hcz14_1
  try clear hcz14_2
  try clear hcz14_3
  try clear hcz14_4
  try clear hcz14_5
  try clear hcz14_6
  try clear hcz15_0
  try clear hcz15_1
  try clear hcz15_2
  try clear hcz15_3
  try clear hcz15_4
  try clear hcz15_5
  try clear hcz15_6
  try clear hcz7_0
  try clear hcz7_1
  try clear hcz7_2
  try clear hcz7_3
  try clear hcz7_4
  try clear hcz7_5
  try clear hcz7_6
  try clear hcz9_0
  try clear hcz9_1
  try clear hcz9_2
  try clear hcz9_3
  try clear hcz9_4
  try clear hcz9_5
  try clear hcz9_6
  try clear hfz10_0
  try clear hfz10_1
  try clear hfz10_2
  try clear hfz10_3
  try clear hfz10_4
  try clear hfz10_5
  try clear hfz10_6
  try clear hfz14_0
  try clear hfz14_1
  try clear hfz14_2
  try clear hfz14_3
  try clear hfz14_4
  try clear hfz14_5
  try clear hfz14_6
  try clear hfz15_0
  try clear hfz15_1
  try clear hfz15_2
  try clear hfz15_3
  try clear hfz15_4
  try clear hfz15_5
  try clear hfz15_6
  try clear hfz7_0
  try clear hfz7_1
  try clear hfz7_2
  try clear hfz7_3
  try clear hfz7_4
  try clear hfz7_5
  try clear hfz7_6
  try clear hfz9_0
  try clear hfz9_1
  try clear hfz9_2
  try clear hfz9_3
  try clear hfz9_4
  try clear hfz9_5
  try clear hfz9_6
  try clear p2
  obtain ⟨kq, x19_11, rfl, HA, HJ11, BK269, HB⟩ := hcut
  cases kq with
  | zero => exact absurd HA.out (by simp [series_Check.j1])
  | succ kj11 =>
   have H := HA.out
   clear HA
   simp only [series_Check.j1] at H
   by_cases c16 : x19_11 = true
   ·subst c16
    have H1 : (some 12) = some r := by rw [if_pos rfl] at H; exact H
    clear H
    have H := H1
    clear H1
    obtain rfl := Option.some.inj H
    go_wp2
    go_ret
    exact ⟨qgseries_5, qgseries_2⟩
   replace c16 := Bool.eq_false_iff.mpr c16
   subst c16
   have H1 : (if a0_2 = 3 then ((series_quantile.f kj11 a0_3 a0_4).bind fun t272 => (if t272 = true then (series_Check.j2 kj11 false a0_0 a0_1 a0_2 a0_3 a0_4 a0_5 l0_6) else (series_Check.j2 kj11 true a0_0 a0_1 a0_2 a0_3 a0_4 a0_5 l0_6))) else (series_Check.j2 kj11 (!(a0_3 == 0) || (!(a0_4 == 0))) a0_0 a0_1 a0_2 a0_3 a0_4 a0_5 l0_6)) = some r := by rw [if_neg (show ¬ (false = true) by decide)] at H; exact H
   clear H
   have H := H1
   clear H1
   have HC17 := Aside0.mk H
   clear H
   go_upto_region 5 with (fail)
   go_cut [28] (fun v28 wc => ∃ (kq : Nat) (x28_16 : Bool), v28 = .bool x28_16 ∧ Aside0 (series_Check.j2 kq x28_16 a0_0 a0_1 a0_2 a0_3 a0_4 a0_5 l0_6 = some r) ∧ Aside0 (kq ≤ kj11) ∧ Aside0 (wc.heap[gb269]? = some (.cells #[.string a0_0, .string a0_1, .int .i64 a0_2, .int .i64 a0_3, .int .i64 a0_4, .int .i64 a0_5, (.slice A0_6 l0_6.length c0_6)] 28 (0, 0))) ∧ Aside0 (Below w.heap.size w wc))
   case first =>
    have H := HC17.out
    clear HC17
    by_cases c18 : a0_2 = 3
    rotate_left
    ·rw [if_neg c18] at H
     have c18b0 : (a0_2 == 3) = false := beq_eq_false_iff_ne.mpr c18
     have c18b1 : (a0_2 != 3) = true := bne_iff_ne.mpr c18
     (first | rw [c18b0] | (simp only [i64_w, i32_w]; rw [c18b0]) | skip)
     have H' := Aside0.mk H
     clear H
     have hcz26_0 : wc.cell? ⟨gb269, 0, none⟩ = some (.string a0_0) := (blk_cell BK269.out 0).trans rfl
     have hcz26_1 : wc.cell? ⟨gb269, 1, none⟩ = some (.string a0_1) := (blk_cell BK269.out 1).trans rfl
     have hcz26_2 : wc.cell? ⟨gb269, 2, none⟩ = some (.int .i64 a0_2) := (blk_cell BK269.out 2).trans rfl
     have hcz26_3 : wc.cell? ⟨gb269, 3, none⟩ = some (.int .i64 a0_3) := (blk_cell BK269.out 3).trans rfl
     have hcz26_4 : wc.cell? ⟨gb269, 4, none⟩ = some (.int .i64 a0_4) := (blk_cell BK269.out 4).trans rfl
     have hcz26_5 : wc.cell? ⟨gb269, 5, none⟩ = some (.int .i64 a0_5) := (blk_cell BK269.out 5).trans rfl
     have hcz26_6 : wc.cell? ⟨gb269, 6, none⟩ = some (.slice A0_6 l0_6.length c0_6) := (blk_cell BK269.out 6).trans rfl
     have hfz26_0 := blk_frozen BK269.out 0
     have hfz26_1 := blk_frozen BK269.out 1
     have hfz26_2 := blk_frozen BK269.out 2
     have hfz26_3 := blk_frozen BK269.out 3
     have hfz26_4 := blk_frozen BK269.out 4
     have hfz26_5 := blk_frozen BK269.out 5
     have hfz26_6 := blk_frozen BK269.out 6
     go_wp2
     go_meet
     case rel => exact ⟨_, ((!(a0_3 == 0) || (!(a0_4 == 0)))), qgseries_9, H', ⟨by have := HJ1.out; have := HJ11.out; first | omega | exact Nat.le_refl _⟩, ⟨qgseries_8⟩, ⟨qgseries_2⟩⟩
    rw [if_pos c18] at H
    have c18b0 : (a0_2 == 3) = true := beq_iff_eq.mpr c18
    have c18b1 : (a0_2 != 3) = false := bne_eq_false_iff_eq.mpr c18
    clear c18
    (first | rw [c18b0] | (simp only [i64_w, i32_w]; rw [c18b0]) | skip)
    replace H := Option.bind_eq_some_iff.mp H
    obtain ⟨t272, A190, H⟩ := H
    replace H : (if t272 = true then (series_Check.j2 kj11 false a0_0 a0_1 a0_2 a0_3 a0_4 a0_5 l0_6) else (series_Check.j2 kj11 true a0_0 a0_1 a0_2 a0_3 a0_4 a0_5 l0_6)) = some r := H
    have A19 := Aside0.mk A190
    clear A190
    by_cases c20 : t272 = true
    rotate_left
    ·replace c20 := Bool.eq_false_iff.mpr c20
     subst c20
     have H1 : (series_Check.j2 kj11 true a0_0 a0_1 a0_2 a0_3 a0_4 a0_5 l0_6) = some r := by rw [if_neg (show ¬ (false = true) by decide)] at H; exact H
     clear H
     have H := H1
     clear H1
     have H' := Aside0.mk H
     clear H
     have hcz24_0 : wc.cell? ⟨gb269, 0, none⟩ = some (.string a0_0) := (blk_cell BK269.out 0).trans rfl
     have hcz24_1 : wc.cell? ⟨gb269, 1, none⟩ = some (.string a0_1) := (blk_cell BK269.out 1).trans rfl
     have hcz24_2 : wc.cell? ⟨gb269, 2, none⟩ = some (.int .i64 a0_2) := (blk_cell BK269.out 2).trans rfl
     have hcz24_3 : wc.cell? ⟨gb269, 3, none⟩ = some (.int .i64 a0_3) := (blk_cell BK269.out 3).trans rfl
     have hcz24_4 : wc.cell? ⟨gb269, 4, none⟩ = some (.int .i64 a0_4) := (blk_cell BK269.out 4).trans rfl
     have hcz24_5 : wc.cell? ⟨gb269, 5, none⟩ = some (.int .i64 a0_5) := (blk_cell BK269.out 5).trans rfl
     have hcz24_6 : wc.cell? ⟨gb269, 6, none⟩ = some (.slice A0_6 l0_6.length c0_6) := (blk_cell BK269.out 6).trans rfl
     have hfz24_0 := blk_frozen BK269.out 0
     have hfz24_1 := blk_frozen BK269.out 1
     have hfz24_2 := blk_frozen BK269.out 2
     have hfz24_3 := blk_frozen BK269.out 3
     have hfz24_4 := blk_frozen BK269.out 4
     have hfz24_5 := blk_frozen BK269.out 5
     have hfz24_6 := blk_frozen BK269.out 6
     go_wp2_with (first | (go_at_call 41; (with_reducible refine (series_quantile.calls kj11 a0_3 a0_4 false _ A19.out).mono ?_); rintro e w25 ⟨rfl, hb⟩; have n0_ := Aside0.mk (blk_below (g := gb269) (o := .cells #[.string a0_0, .string a0_1, .int .i64 a0_2, .int .i64 a0_3, .int .i64 a0_4, .int .i64 a0_5, .slice A0_6 l0_6.length c0_6] 28 (0, 0)) qgseries_8 hb); have n1_ := Aside0.mk (below_step qgseries_2 hb); clear BK269; clear HB; have BK269 := n0_; have HB := n1_; clear n0_ n1_; (try clear hb); (try clear hb2); (try clear hk); (try clear hi)))
     go_meet
     case rel => exact ⟨_, (true), qgseries_9, H', ⟨by have := HJ1.out; have := HJ11.out; first | omega | exact Nat.le_refl _⟩, ⟨qgseries_8⟩, ⟨qgseries_2⟩⟩
    subst c20
    have H1 : (series_Check.j2 kj11 false a0_0 a0_1 a0_2 a0_3 a0_4 a0_5 l0_6) = some r := by rw [if_pos rfl] at H; exact H
    clear H
    have H := H1
    clear H1
    have H' := Aside0.mk H
    clear H
    have hcz21_0 : wc.cell? ⟨gb269, 0, none⟩ = some (.string a0_0) := (blk_cell BK269.out 0).trans rfl
    have hcz21_1 : wc.cell? ⟨gb269, 1, none⟩ = some (.string a0_1) := (blk_cell BK269.out 1).trans rfl
    have hcz21_2 : wc.cell? ⟨gb269, 2, none⟩ = some (.int .i64 a0_2) := (blk_cell BK269.out 2).trans rfl
    have hcz21_3 : wc.cell? ⟨gb269, 3, none⟩ = some (.int .i64 a0_3) := (blk_cell BK269.out 3).trans rfl
    have hcz21_4 : wc.cell? ⟨gb269, 4, none⟩ = some (.int .i64 a0_4) := (blk_cell BK269.out 4).trans rfl
    have hcz21_5 : wc.cell? ⟨gb269, 5, none⟩ = some (.int .i64 a0_5) := (blk_cell BK269.out 5).trans rfl
    have hcz21_6 : wc.cell? ⟨gb269, 6, none⟩ = some (.slice A0_6 l0_6.length c0_6) := (blk_cell BK269.out 6).trans rfl
    have hfz21_0 := blk_frozen BK269.out 0
    have hfz21_1 := blk_frozen BK269.out 1
    have hfz21_2 := blk_frozen BK269.out 2
    have hfz21_3 := blk_frozen BK269.out 3
    have hfz21_4 := blk_frozen BK269.out 4
    have hfz21_5 := blk_frozen BK269.out 5
    have hfz21_6 := blk_frozen BK269.out 6
    go_wp2_with (first | (go_at_call 41; (with_reducible refine (series_quantile.calls kj11 a0_3 a0_4 true _ A19.out).mono ?_); rintro e w22 ⟨rfl, hb⟩; have n0_ := Aside0.mk (blk_below (g := gb269) (o := .cells #[.string a0_0, .string a0_1, .int .i64 a0_2, .int .i64 a0_3, .int .i64 a0_4, .int .i64 a0_5, .slice A0_6 l0_6.length c0_6] 28 (0, 0)) qgseries_8 hb); have n1_ := Aside0.mk (below_step qgseries_2 hb); clear BK269; clear HB; have BK269 := n0_; have HB := n1_; clear n0_ n1_; (try clear hb); (try clear hb2); (try clear hk); (try clear hi); have hcz23_0 : w22.cell? ⟨gb269, 0, none⟩ = some (.string a0_0) := (blk_cell BK269.out 0).trans rfl; have hcz23_1 : w22.cell? ⟨gb269, 1, none⟩ = some (.string a0_1) := (blk_cell BK269.out 1).trans rfl; have hcz23_2 : w22.cell? ⟨gb269, 2, none⟩ = some (.int .i64 a0_2) := (blk_cell BK269.out 2).trans rfl; have hcz23_3 : w22.cell? ⟨gb269, 3, none⟩ = some (.int .i64 a0_3) := (blk_cell BK269.out 3).trans rfl; have hcz23_4 : w22.cell? ⟨gb269, 4, none⟩ = some (.int .i64 a0_4) := (blk_cell BK269.out 4).trans rfl; have hcz23_5 : w22.cell? ⟨gb269, 5, none⟩ = some (.int .i64 a0_5) := (blk_cell BK269.out 5).trans rfl; have hcz23_6 : w22.cell? ⟨gb269, 6, none⟩ = some (.slice A0_6 l0_6.length c0_6) := (blk_cell BK269.out 6).trans rfl; have hfz23_0 := blk_frozen BK269.out 0; have hfz23_1 := blk_frozen BK269.out 1; have hfz23_2 := blk_frozen BK269.out 2; have hfz23_3 := blk_frozen BK269.out 3; have hfz23_4 := blk_frozen BK269.out 4; have hfz23_5 := blk_frozen BK269.out 5; have hfz23_6 := blk_frozen BK269.out 6))
    go_meet
    case rel => exact ⟨_, (false), qgseries_9, H', ⟨by have := HJ1.out; have := HJ11.out; first | omega | exact Nat.le_refl _⟩, ⟨qgseries_8⟩, ⟨qgseries_2⟩⟩
   clear HC17
   try clear c1
   try clear c2
   try clear p2
   try clear c4
   try clear c5
   try clear c6
   try clear c6b0
   try clear c6b1
   try clear c11
   try clear c13
   try clear c13b0
   try clear c16
   try clear c18
   try clear c18b0
   try clear c18b1
   try clear c20
   try clear hcz10_0
   try clear hcz10_1
   try clear hcz10_2
   try clear hcz10_3
   try clear hcz10_4
   try clear hcz10_5
   try clear hcz10_6
   try clear hcz14_0
   try clear hcz14_1
   try clear hcz14_2
   try clear hcz14_3
   try clear hcz14_4
   try clear hcz14_5
   try clear hcz14_6
   try clear hcz15_0
   try clear hcz15_1
   try clear hcz15_2
   try clear hcz15_3
   try clear hcz15_4
   try clear hcz15_5
   try clear hcz15_6
   try clear hcz21_0
   try clear hcz21_1
   try clear hcz21_2
   try clear hcz21_3
   try clear hcz21_4
   try clear hcz21_5
   try clear hcz21_6
   try clear hcz23_0
   try clear hcz23_1
   try clear hcz23_2
   try clear hcz23_3
   try clear hcz23_4
   try clear hcz23_5
   try clear hcz23_6
   try clear hcz24_0
   try clear hcz24_1
   try clear hcz24_2
   try clear hcz24_3
   try clear hcz24_4
   try clear hcz24_5
   try clear hcz24_6
   try clear hcz26_0
   try clear hcz26_1
   try clear hcz26_2
   try clear hcz26_3
   try clear hcz26_4
   try clear hcz26_5
   try clear hcz26_6
   try clear hcz7_0
   try clear hcz7_1
   try clear hcz7_2
   try clear hcz7_3
   try clear hcz7_4
   try clear hcz7_5
   try clear hcz7_6
   try clear hcz9_0
   try clear hcz9_1
   try clear hcz9_2
   try clear hcz9_3
   try clear hcz9_4
   try clear hcz9_5
   try clear hcz9_6
   try clear hfz10_0
   try clear hfz10_1
   try clear hfz10_2
   try clear hfz10_3
   try clear hfz10_4
   try clear hfz10_5
   try clear hfz10_6
   try clear hfz14_0
   try clear hfz14_1
   try clear hfz14_2
   try clear hfz14_3
   try clear hfz14_4
   try clear hfz14_5
   try clear hfz14_6
   try clear hfz15_0
   try clear hfz15_1
   try clear hfz15_2
   try clear hfz15_3
   try clear hfz15_4
   try clear hfz15_5
   try clear hfz15_6
   try clear hfz21_0
   try clear hfz21_1
   try clear hfz21_2
   try clear hfz21_3
   try clear hfz21_4
   try clear hfz21_5
   try clear hfz21_6
   try clear hfz23_0
   try clear hfz23_1
   try clear hfz23_2
   try clear hfz23_3
   try clear hfz23_4
   try clear hfz23_5
   try clear hfz23_6
   try clear hfz24_0
   try clear hfz24_1
   try clear hfz24_2
   try clear hfz24_3
   try clear hfz24_4
   try clear hfz24_5
   try clear hfz24_6
   try clear hfz26_0
   try clear hfz26_1
   try clear hfz26_2
   try clear hfz26_3
   try clear hfz26_4
   try clear hfz26_5
   try clear hfz26_6
   try clear hfz7_0
   try clear hfz7_1
   try clear hfz7_2
   try clear hfz7_3
   try clear hfz7_4
   try clear hfz7_5
   try clear hfz7_6
   try clear hfz9_0
   try clear hfz9_1
   try clear hfz9_2
   try clear hfz9_3
   try clear hfz9_4
   try clear hfz9_5
   try clear hfz9_6
   try clear p2
   obtain ⟨kq, x28_16, rfl, HA, HJ16, BK269, HB⟩ := hcut
   cases kq with
   | zero => exact absurd HA.out (by simp [series_Check.j2])
   | succ kj16 =>
    have H := HA.out
    clear HA
    simp only [series_Check.j2] at H
    by_cases c27 : x28_16 = true
    ·subst c27
     have H1 : (some 3) = some r := by rw [if_pos rfl] at H; exact H
     clear H
     have H := H1
     clear H1
     obtain rfl := Option.some.inj H
     go_wp2
     go_ret
     exact ⟨qgseries_5, qgseries_2⟩
    replace c27 := Bool.eq_false_iff.mpr c27
    subst c27
    have H1 : (if a0_5 < 0 then (series_Check.j3 kj16 true a0_0 a0_1 a0_2 a0_3 a0_4 a0_5 l0_6) else (series_Check.j3 kj16 (decide (a0_5 > 1048576)) a0_0 a0_1 a0_2 a0_3 a0_4 a0_5 l0_6)) = some r := by rw [if_neg (show ¬ (false = true) by decide)] at H; exact H
    clear H
    have H := H1
    clear H1
    have HC28 := Aside0.mk H
    clear H
    go_upto_region 7 with (fail)
    go_cut [49] (fun v49 wc => ∃ (kq : Nat) (x49_27 : Bool), v49 = .bool x49_27 ∧ Aside0 (series_Check.j3 kq x49_27 a0_0 a0_1 a0_2 a0_3 a0_4 a0_5 l0_6 = some r) ∧ Aside0 (kq ≤ kj16) ∧ Aside0 (wc.heap[gb269]? = some (.cells #[.string a0_0, .string a0_1, .int .i64 a0_2, .int .i64 a0_3, .int .i64 a0_4, .int .i64 a0_5, (.slice A0_6 l0_6.length c0_6)] 28 (0, 0))) ∧ Aside0 (Below w.heap.size w wc))
    case first =>
     have H := HC28.out
     clear HC28
     by_cases c29 : a0_5 < 0
     ·rw [if_pos c29] at H
      have c29b0 : decide (a0_5 < 0) = true := decide_eq_true c29
      clear c29
      (first | rw [c29b0] | (simp only [i64_w, i32_w]; rw [c29b0]) | skip)
      have H' := Aside0.mk H
      clear H
      have hcz30_0 : wc.cell? ⟨gb269, 0, none⟩ = some (.string a0_0) := (blk_cell BK269.out 0).trans rfl
      have hcz30_1 : wc.cell? ⟨gb269, 1, none⟩ = some (.string a0_1) := (blk_cell BK269.out 1).trans rfl
      have hcz30_2 : wc.cell? ⟨gb269, 2, none⟩ = some (.int .i64 a0_2) := (blk_cell BK269.out 2).trans rfl
      have hcz30_3 : wc.cell? ⟨gb269, 3, none⟩ = some (.int .i64 a0_3) := (blk_cell BK269.out 3).trans rfl
      have hcz30_4 : wc.cell? ⟨gb269, 4, none⟩ = some (.int .i64 a0_4) := (blk_cell BK269.out 4).trans rfl
      have hcz30_5 : wc.cell? ⟨gb269, 5, none⟩ = some (.int .i64 a0_5) := (blk_cell BK269.out 5).trans rfl
      have hcz30_6 : wc.cell? ⟨gb269, 6, none⟩ = some (.slice A0_6 l0_6.length c0_6) := (blk_cell BK269.out 6).trans rfl
      have hfz30_0 := blk_frozen BK269.out 0
      have hfz30_1 := blk_frozen BK269.out 1
      have hfz30_2 := blk_frozen BK269.out 2
      have hfz30_3 := blk_frozen BK269.out 3
      have hfz30_4 := blk_frozen BK269.out 4
      have hfz30_5 := blk_frozen BK269.out 5
      have hfz30_6 := blk_frozen BK269.out 6
      go_wp2
      go_meet
      case rel => exact ⟨_, (true), qgseries_9, H', ⟨by have := HJ1.out; have := HJ11.out; have := HJ16.out; first | omega | exact Nat.le_refl _⟩, ⟨qgseries_8⟩, ⟨qgseries_2⟩⟩
     rw [if_neg c29] at H
     have c29b0 : decide (a0_5 < 0) = false := decide_eq_false c29
     clear c29
     (first | rw [c29b0] | (simp only [i64_w, i32_w]; rw [c29b0]) | skip)
     have H' := Aside0.mk H
     clear H
     have hcz31_0 : wc.cell? ⟨gb269, 0, none⟩ = some (.string a0_0) := (blk_cell BK269.out 0).trans rfl
     have hcz31_1 : wc.cell? ⟨gb269, 1, none⟩ = some (.string a0_1) := (blk_cell BK269.out 1).trans rfl
     have hcz31_2 : wc.cell? ⟨gb269, 2, none⟩ = some (.int .i64 a0_2) := (blk_cell BK269.out 2).trans rfl
     have hcz31_3 : wc.cell? ⟨gb269, 3, none⟩ = some (.int .i64 a0_3) := (blk_cell BK269.out 3).trans rfl
     have hcz31_4 : wc.cell? ⟨gb269, 4, none⟩ = some (.int .i64 a0_4) := (blk_cell BK269.out 4).trans rfl
     have hcz31_5 : wc.cell? ⟨gb269, 5, none⟩ = some (.int .i64 a0_5) := (blk_cell BK269.out 5).trans rfl
     have hcz31_6 : wc.cell? ⟨gb269, 6, none⟩ = some (.slice A0_6 l0_6.length c0_6) := (blk_cell BK269.out 6).trans rfl
     have hfz31_0 := blk_frozen BK269.out 0
     have hfz31_1 := blk_frozen BK269.out 1
     have hfz31_2 := blk_frozen BK269.out 2
     have hfz31_3 := blk_frozen BK269.out 3
     have hfz31_4 := blk_frozen BK269.out 4
     have hfz31_5 := blk_frozen BK269.out 5
     have hfz31_6 := blk_frozen BK269.out 6
     go_wp2
     go_meet
     case rel => exact ⟨_, (decide (a0_5 > 1048576)), qgseries_9, H', ⟨by have := HJ1.out; have := HJ11.out; have := HJ16.out; first | omega | exact Nat.le_refl _⟩, ⟨qgseries_8⟩, ⟨qgseries_2⟩⟩
    clear HC28
    try clear c1
    try clear c2
    try clear p2
    try clear c4
    try clear c5
    try clear c6
    try clear c6b0
    try clear c6b1
    try clear c11
    try clear c13
    try clear c13b0
    try clear c16
    try clear c18
    try clear c18b0
    try clear c18b1
    try clear c20
    try clear c27
    try clear c29
    try clear c29b0
    try clear hcz10_0
    try clear hcz10_1
    try clear hcz10_2
    try clear hcz10_3
    try clear hcz10_4
    try clear hcz10_5
    try clear hcz10_6
    try clear hcz14_0
    try clear hcz14_1
    try clear hcz14_2
    try clear hcz14_3
    try clear hcz14_4
    try clear hcz14_5
    try clear hcz14_6
    try clear hcz15_0
    try clear hcz15_1
    try clear hcz15_2
    try clear hcz15_3
    try clear hcz15_4
    try clear hcz15_5
    try clear hcz15_6
    try clear hcz21_0
    try clear hcz21_1
    try clear hcz21_2
    try clear hcz21_3
    try clear hcz21_4
    try clear hcz21_5
    try clear hcz21_6
    try clear hcz23_0
    try clear hcz23_1
    try clear hcz23_2
    try clear hcz23_3
    try clear hcz23_4
    try clear hcz23_5
    try clear hcz23_6
    try clear hcz24_0
    try clear hcz24_1
    try clear hcz24_2
    try clear hcz24_3
    try clear hcz24_4
    try clear hcz24_5
    try clear hcz24_6
    try clear hcz26_0
    try clear hcz26_1
    try clear hcz26_2
    try clear hcz26_3
    try clear hcz26_4
    try clear hcz26_5
    try clear hcz26_6
    try clear hcz30_0
    try clear hcz30_1
    try clear hcz30_2
    try clear hcz30_3
    try clear hcz30_4
    try clear hcz30_5
    try clear hcz30_6
    try clear hcz31_0
    try clear hcz31_1
    try clear hcz31_2
    try clear hcz31_3
    try clear hcz31_4
    try clear hcz31_5
    try clear hcz31_6
    try clear hcz7_0
    try clear hcz7_1
    try clear hcz7_2
    try clear hcz7_3
    try clear hcz7_4
    try clear hcz7_5
    try clear hcz7_6
    try clear hcz9_0
    try clear hcz9_1
    try clear hcz9_2
    try clear hcz9_3
    try clear hcz9_4
    try clear hcz9_5
    try clear hcz9_6
    try clear hfz10_0
    try clear hfz10_1
    try clear hfz10_2
    try clear hfz10_3
    try clear hfz10_4
    try clear hfz10_5
    try clear hfz10_6
    try clear hfz14_0
    try clear hfz14_1
    try clear hfz14_2
    try clear hfz14_3
    try clear hfz14_4
    try clear hfz14_5
    try clear hfz14_6
    try clear hfz15_0
    try clear hfz15_1
    try clear hfz15_2
    try clear hfz15_3
    try clear hfz15_4
    try clear hfz15_5
    try clear hfz15_6
    try clear hfz21_0
    try clear hfz21_1
    try clear hfz21_2
    try clear hfz21_3
    try clear hfz21_4
    try clear hfz21_5
    try clear hfz21_6
    try clear hfz23_0
    try clear hfz23_1
    try clear hfz23_2
    try clear hfz23_3
    try clear hfz23_4
    try clear hfz23_5
    try clear hfz23_6
    try clear hfz24_0
    try clear hfz24_1
    try clear hfz24_2
    try clear hfz24_3
    try clear hfz24_4
    try clear hfz24_5
    try clear hfz24_6
    try clear hfz26_0
    try clear hfz26_1
    try clear hfz26_2
    try clear hfz26_3
    try clear hfz26_4
    try clear hfz26_5
    try clear hfz26_6
    try clear hfz30_0
    try clear hfz30_1
    try clear hfz30_2
    try clear hfz30_3
    try clear hfz30_4
    try clear hfz30_5
    try clear hfz30_6
    try clear hfz31_0
    try clear hfz31_1
    try clear hfz31_2
    try clear hfz31_3
    try clear hfz31_4
    try clear hfz31_5
    try clear hfz31_6
    try clear hfz7_0
    try clear hfz7_1
    try clear hfz7_2
    try clear hfz7_3
    try clear hfz7_4
    try clear hfz7_5
    try clear hfz7_6
    try clear hfz9_0
    try clear hfz9_1
    try clear hfz9_2
    try clear hfz9_3
    try clear hfz9_4
    try clear hfz9_5
    try clear hfz9_6
    try clear p2
    obtain ⟨kq, x49_27, rfl, HA, HJ27, BK269, HB⟩ := hcut
    cases kq with
    | zero => exact absurd HA.out (by simp [series_Check.j3])
    | succ kj27 =>
     have H := HA.out
     clear HA
     simp only [series_Check.j3] at H
     by_cases c32 : x49_27 = true
     ·subst c32
      have H1 : (some 32) = some r := by rw [if_pos rfl] at H; exact H
      clear H
      have H := H1
      clear H1
      obtain rfl := Option.some.inj H
      go_wp2
      go_ret
      exact ⟨qgseries_5, qgseries_2⟩
     replace c32 := Bool.eq_false_iff.mpr c32
     subst c32
     have H1 : (if (l0_6.length : Int) > 1024 then (some 6) else (if (wrap64 (a0_5 + (l0_6.length : Int))) > 1048577 then (some 32) else ((slices_ContainsFunc_int_int.f l0_6).bind fun t273 => (if t273 = true then (some 2) else (some 0))))) = some r := by rw [if_neg (show ¬ (false = true) by decide)] at H; exact H
     clear H
     have H := H1
     clear H1
     by_cases c33 : (l0_6.length : Int) > 1024
     ·rw [if_pos c33] at H
      have c33b0 : decide (1024 < (l0_6.length : Int)) = true := decide_eq_true c33
      have c33b1 : decide (1024 < l0_6.length) = true := decide_eq_true (by omega)
      clear c33
      obtain rfl := Option.some.inj H
      have hcz34_0 : wc.cell? ⟨gb269, 0, none⟩ = some (.string a0_0) := (blk_cell BK269.out 0).trans rfl
      have hcz34_1 : wc.cell? ⟨gb269, 1, none⟩ = some (.string a0_1) := (blk_cell BK269.out 1).trans rfl
      have hcz34_2 : wc.cell? ⟨gb269, 2, none⟩ = some (.int .i64 a0_2) := (blk_cell BK269.out 2).trans rfl
      have hcz34_3 : wc.cell? ⟨gb269, 3, none⟩ = some (.int .i64 a0_3) := (blk_cell BK269.out 3).trans rfl
      have hcz34_4 : wc.cell? ⟨gb269, 4, none⟩ = some (.int .i64 a0_4) := (blk_cell BK269.out 4).trans rfl
      have hcz34_5 : wc.cell? ⟨gb269, 5, none⟩ = some (.int .i64 a0_5) := (blk_cell BK269.out 5).trans rfl
      have hcz34_6 : wc.cell? ⟨gb269, 6, none⟩ = some (.slice A0_6 l0_6.length c0_6) := (blk_cell BK269.out 6).trans rfl
      have hfz34_0 := blk_frozen BK269.out 0
      have hfz34_1 := blk_frozen BK269.out 1
      have hfz34_2 := blk_frozen BK269.out 2
      have hfz34_3 := blk_frozen BK269.out 3
      have hfz34_4 := blk_frozen BK269.out 4
      have hfz34_5 := blk_frozen BK269.out 5
      have hfz34_6 := blk_frozen BK269.out 6
      go_wp2
      go_ret
      exact ⟨qgseries_5, qgseries_2⟩
     rw [if_neg c33] at H
     have c33b0 : decide (1024 < (l0_6.length : Int)) = false := decide_eq_false c33
     have c33b1 : decide (1024 < l0_6.length) = false := decide_eq_false (by omega)
     clear c33
     by_cases c35 : (wrap64 (a0_5 + (l0_6.length : Int))) > 1048577
     ·rw [if_pos c35] at H
      have c35b0 : decide (1048577 < (wrap64 (a0_5 + (l0_6.length : Int)))) = true := decide_eq_true c35
      clear c35
      obtain rfl := Option.some.inj H
      have hcz36_0 : wc.cell? ⟨gb269, 0, none⟩ = some (.string a0_0) := (blk_cell BK269.out 0).trans rfl
      have hcz36_1 : wc.cell? ⟨gb269, 1, none⟩ = some (.string a0_1) := (blk_cell BK269.out 1).trans rfl
      have hcz36_2 : wc.cell? ⟨gb269, 2, none⟩ = some (.int .i64 a0_2) := (blk_cell BK269.out 2).trans rfl
      have hcz36_3 : wc.cell? ⟨gb269, 3, none⟩ = some (.int .i64 a0_3) := (blk_cell BK269.out 3).trans rfl
      have hcz36_4 : wc.cell? ⟨gb269, 4, none⟩ = some (.int .i64 a0_4) := (blk_cell BK269.out 4).trans rfl
      have hcz36_5 : wc.cell? ⟨gb269, 5, none⟩ = some (.int .i64 a0_5) := (blk_cell BK269.out 5).trans rfl
      have hcz36_6 : wc.cell? ⟨gb269, 6, none⟩ = some (.slice A0_6 l0_6.length c0_6) := (blk_cell BK269.out 6).trans rfl
      have hfz36_0 := blk_frozen BK269.out 0
      have hfz36_1 := blk_frozen BK269.out 1
      have hfz36_2 := blk_frozen BK269.out 2
      have hfz36_3 := blk_frozen BK269.out 3
      have hfz36_4 := blk_frozen BK269.out 4
      have hfz36_5 := blk_frozen BK269.out 5
      have hfz36_6 := blk_frozen BK269.out 6
      go_wp2
      go_ret
      exact ⟨qgseries_5, qgseries_2⟩
     rw [if_neg c35] at H
     have c35b0 : decide (1048577 < (wrap64 (a0_5 + (l0_6.length : Int)))) = false := decide_eq_false c35
     clear c35
     replace H := Option.bind_eq_some_iff.mp H
     obtain ⟨t273, A370, H⟩ := H
     replace H : (if t273 = true then (some 2) else (some 0)) = some r := H
     have A37 := Aside0.mk A370
     clear A370
     by_cases c38 : t273 = true
     ·subst c38
      have H1 : (some 2) = some r := by rw [if_pos rfl] at H; exact H
      clear H
      have H := H1
      clear H1
      obtain rfl := Option.some.inj H
      have hcz39_0 : wc.cell? ⟨gb269, 0, none⟩ = some (.string a0_0) := (blk_cell BK269.out 0).trans rfl
      have hcz39_1 : wc.cell? ⟨gb269, 1, none⟩ = some (.string a0_1) := (blk_cell BK269.out 1).trans rfl
      have hcz39_2 : wc.cell? ⟨gb269, 2, none⟩ = some (.int .i64 a0_2) := (blk_cell BK269.out 2).trans rfl
      have hcz39_3 : wc.cell? ⟨gb269, 3, none⟩ = some (.int .i64 a0_3) := (blk_cell BK269.out 3).trans rfl
      have hcz39_4 : wc.cell? ⟨gb269, 4, none⟩ = some (.int .i64 a0_4) := (blk_cell BK269.out 4).trans rfl
      have hcz39_5 : wc.cell? ⟨gb269, 5, none⟩ = some (.int .i64 a0_5) := (blk_cell BK269.out 5).trans rfl
      have hcz39_6 : wc.cell? ⟨gb269, 6, none⟩ = some (.slice A0_6 l0_6.length c0_6) := (blk_cell BK269.out 6).trans rfl
      have hfz39_0 := blk_frozen BK269.out 0
      have hfz39_1 := blk_frozen BK269.out 1
      have hfz39_2 := blk_frozen BK269.out 2
      have hfz39_3 := blk_frozen BK269.out 3
      have hfz39_4 := blk_frozen BK269.out 4
      have hfz39_5 := blk_frozen BK269.out 5
      have hfz39_6 := blk_frozen BK269.out 6
      go_wp2_with (first | ((with_reducible refine gate_callee (f := 42) rfl ?_); refine goesL_ (some 74) rfl rfl Try.func42 (by kernel_rfl) rfl #[.slice A0_6 l0_6.length c0_6, .func (.func 43) #[] #[]] rfl qgseries_6 ?_; (with_reducible refine (slices_ContainsFunc_int_int.calls _ _ l0_6 true _ ?side1 ?side2 A37.out).mono ?_); (case side1 => exact qgseries_18); (case side2 => exact HC0_6.out); rintro e w' ⟨rfl, ⟨nd, rfl⟩⟩; refine ⟨_, rfl, ?_⟩))
      go_ret
      exact ⟨qgseries_5, qgseries_2⟩
     replace c38 := Bool.eq_false_iff.mpr c38
     subst c38
     have H1 : (some 0) = some r := by rw [if_neg (show ¬ (false = true) by decide)] at H; exact H
     clear H
     have H := H1
     clear H1
     obtain rfl := Option.some.inj H
     have hcz40_0 : wc.cell? ⟨gb269, 0, none⟩ = some (.string a0_0) := (blk_cell BK269.out 0).trans rfl
     have hcz40_1 : wc.cell? ⟨gb269, 1, none⟩ = some (.string a0_1) := (blk_cell BK269.out 1).trans rfl
     have hcz40_2 : wc.cell? ⟨gb269, 2, none⟩ = some (.int .i64 a0_2) := (blk_cell BK269.out 2).trans rfl
     have hcz40_3 : wc.cell? ⟨gb269, 3, none⟩ = some (.int .i64 a0_3) := (blk_cell BK269.out 3).trans rfl
     have hcz40_4 : wc.cell? ⟨gb269, 4, none⟩ = some (.int .i64 a0_4) := (blk_cell BK269.out 4).trans rfl
     have hcz40_5 : wc.cell? ⟨gb269, 5, none⟩ = some (.int .i64 a0_5) := (blk_cell BK269.out 5).trans rfl
     have hcz40_6 : wc.cell? ⟨gb269, 6, none⟩ = some (.slice A0_6 l0_6.length c0_6) := (blk_cell BK269.out 6).trans rfl
     have hfz40_0 := blk_frozen BK269.out 0
     have hfz40_1 := blk_frozen BK269.out 1
     have hfz40_2 := blk_frozen BK269.out 2
     have hfz40_3 := blk_frozen BK269.out 3
     have hfz40_4 := blk_frozen BK269.out 4
     have hfz40_5 := blk_frozen BK269.out 5
     have hfz40_6 := blk_frozen BK269.out 6
     go_wp2_with (first | ((with_reducible refine gate_callee (f := 42) rfl ?_); refine goesL_ (some 74) rfl rfl Try.func42 (by kernel_rfl) rfl #[.slice A0_6 l0_6.length c0_6, .func (.func 43) #[] #[]] rfl qgseries_6 ?_; (with_reducible refine (slices_ContainsFunc_int_int.calls _ _ l0_6 false _ ?side1 ?side2 A37.out).mono ?_); (case side1 => exact qgseries_18); (case side2 => exact HC0_6.out); rintro e w' ⟨rfl, ⟨nd, rfl⟩⟩; refine ⟨_, rfl, ?_⟩))
     go_ret
     exact ⟨qgseries_5, qgseries_2⟩

end Go.Proofs.Ytcjgmofgfblmnaa.Q
