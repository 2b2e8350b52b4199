-- Laid by myprint.py (a program of this session's, over the kit's printer and with functions proved by hand)
import Derived.Test.YthdifdnjodbdnaaTy
import Derived.Test.YthdifdnjodbdnaaGs
import Derived.Test.YthdifdnjodbdnaaQgPre
namespace Go.Proofs.Ythdifdnjodbdnaa.Q
open Go.RowKit Go.Proofs.YthdifdnjodbdnaaW.PrintWords Go.Proofs.YthdifdnjodbdnaaW.PrintLast Go.Proofs.YthdifdnjodbdnaaW.PrintMore
attribute [local go_sem] max2_int min2_int max_two min_two max_three min_three max_four min_four   -- for this text's walks alone
set_option linter.unusedVariables false
set_option linter.unusedSimpArgs false

attribute [local go_sem high] eqA37 eqA41
attribute [local go_sem high] Str.binOp_string_gtr' Str.binOp_string_leq'
abbrev T3372 : Bool := true
abbrev F3372 : Bool := false
theorem qgatt_0 {p : Prop} (h : p := by repeat (first | (with_reducible first | exact HB.out | apply below_alloc | apply pw_below_drewN | apply below_drew1) | exact HB.out)) : p := h
theorem qgatt_1 {p : Prop} (h : p := by (try simp only [List.map_toArray, List.map_cons, List.map_nil]); first | done | rfl | (simp only [List.length_drop, List.length_take]; rfl)) : p := h
theorem qgatt_2 {p : Prop} (h : p := by repeat (first | (with_reducible first | exact HB.out | apply below_alloc | apply pw_below_drewN | apply below_drew1 | refine below_set ?_ GE183.out) | exact HB.out)) : p := h
theorem qgatt_3 {p : Prop} (h : p := by repeat (first | (with_reducible first | exact HB.out | apply below_alloc | apply pw_below_drewN | apply below_drew1 | refine below_set ?_ GE180.out) | exact HB.out)) : p := h
theorem qgatt_4 {p : Prop} (h : p := by first | rfl | (simp; done) | (simp [*]; done)) : p := h
theorem qgatt_5 {p : Prop} (h : p := by first | (with_reducible assumption) | assumption) : p := h
theorem qgatt_6 {p : Prop} (h : p := by repeat (first | (with_reducible first | exact HB.out | apply below_alloc | apply pw_below_drewN | apply below_drew1 | refine below_set ?_ GE198.out) | exact HB.out)) : p := h
theorem qgatt_7 {p : Prop} (h : p := by (with_reducible repeat (first | refine blk_drewN ?_ _ | refine blk_drew ?_ | refine blk_alloc ?_ _)); refine blk_put (cs := #[.string ((rd_T141 l0 x11_1).f0), .int .i64 ((rd_T141 l0 x11_1).f1.f0), .string ((rd_T141 l0 x11_1).f1.f1), .int .i64 0]) ?_ 3 _ rfl; (with_reducible repeat (first | refine blk_drewN ?_ _ | refine blk_drew ?_ | refine blk_alloc ?_ _)); refine blk_put (cs := #[.string ((rd_T141 l0 x11_1).f0), .int .i64 ((rd_T141 l0 x11_1).f1.f0), .string (⟨#[]⟩ : ByteArray), .int .i64 0]) ?_ 2 _ rfl; (with_reducible repeat (first | refine blk_drewN ?_ _ | refine blk_drew ?_ | refine blk_alloc ?_ _)); refine blk_put (cs := #[.string ((rd_T141 l0 x11_1).f0), .int .i64 0, .string (⟨#[]⟩ : ByteArray), .int .i64 0]) ?_ 1 _ rfl; (with_reducible repeat (first | refine blk_drewN ?_ _ | refine blk_drew ?_ | refine blk_alloc ?_ _)); refine blk_put (cs := #[.string (⟨#[]⟩ : ByteArray), .int .i64 0, .string (⟨#[]⟩ : ByteArray), .int .i64 0]) ?_ 0 _ rfl; (with_reducible repeat (first | refine blk_drewN ?_ _ | refine blk_drew ?_ | refine blk_alloc ?_ _)); exact BK183.out) : p := h
theorem qgatt_8 {p : Prop} (h : p := by first | rfl | (simp [errW_none, errW_some] <;> rfl) | (simp [*, errW_none, errW_some] <;> rfl)) : p := h
theorem qgatt_9 {p : Prop} (h : p := by repeat (first | exact Drawn0.refl _ | apply Drawn0.step)) : p := h
theorem qgatt_10 {p : Prop} (h : p := by (with_reducible repeat (first | refine blk_drewN ?_ _ | refine blk_drew ?_ | refine blk_alloc ?_ _)); exact BK180.out) : p := h
theorem qgatt_11 {p : Prop} (h : p := by (with_reducible repeat (first | refine blk_drewN ?_ _ | refine blk_drew ?_ | refine blk_alloc ?_ _)); exact BK183.out) : p := h
theorem qgatt_12 {p : Prop} (h : p := by (with_reducible repeat (first | refine blk_drewN ?_ _ | refine blk_drew ?_ | refine blk_alloc ?_ _)); refine blk_put (cs := #[.int .i64 ((rd_T146 l0 x10_1).f0), .int .i64 0]) ?_ 1 _ rfl; (with_reducible repeat (first | refine blk_drewN ?_ _ | refine blk_drew ?_ | refine blk_alloc ?_ _)); refine blk_put (cs := #[.int .i64 0, .int .i64 0]) ?_ 0 _ rfl; (with_reducible repeat (first | refine blk_drewN ?_ _ | refine blk_drew ?_ | refine blk_alloc ?_ _)); exact BK198.out) : p := h
theorem qgatt_13 {p : Prop} (h : p := by repeat (first | (with_reducible first | exact HB.out | apply below_alloc | apply pw_below_drewN | apply below_drew1 | refine below_set ?_ GE189.out | refine below_set ?_ GE190.out) | exact HB.out)) : p := h
theorem qgatt_14 {p : Prop} (h : p := by first | (rw [add_block]; exact hn185_0) | (show (Addr.add _ _).block ≠ _; rw [add_block]; exact hn185_0) | exact hn185_0) : p := h
theorem qgatt_15 {p : Prop} (h : p := by first | (rw [add_block]; exact hn185_1) | (show (Addr.add _ _).block ≠ _; rw [add_block]; exact hn185_1) | exact hn185_1) : p := h
theorem qgatt_16 {p : Prop} (h : p := by first | (rw [add_block]; exact hn185_2) | (show (Addr.add _ _).block ≠ _; rw [add_block]; exact hn185_2) | exact hn185_2) : p := h
theorem qgatt_17 {p : Prop} (h : p := by first | (rw [add_block]; exact hn185_3) | (show (Addr.add _ _).block ≠ _; rw [add_block]; exact hn185_3) | exact hn185_3) : p := h
theorem qgatt_18 {p : Prop} (h : p := by (with_reducible repeat (first | refine blk_drewN ?_ _ | refine blk_drew ?_ | refine blk_alloc ?_ _)); exact BK189.out) : p := h
theorem qgatt_19 {p : Prop} (h : p := by repeat (first | (with_reducible first | exact HB.out | apply below_alloc | apply pw_below_drewN | apply below_drew1 | refine below_set ?_ GE189.out) | exact HB.out)) : p := h
theorem qgatt_20 {p : Prop} (h : p := by have := World.block_lt_of_cell? _ _ hx185_0; first | rwa [add_block] at this | exact this) : p := h
theorem qgatt_21 {p : Prop} (h : p := by first | (go_simp; done) | (go_simp; rfl)) : p := h
theorem qgatt_22 {p : Prop} (h : p := by first | omega | exact Nat.le_refl _) : p := h
theorem qgatt_23 {p : Prop} (h : p := by (try simp only [List.map_toArray, List.map_cons, List.map_nil]); first | done | (simp only [hji16]; rfl) | rfl | (simp only [List.length_drop, List.length_take]; rfl)) : p := h
theorem qgatt_24 {p : Prop} (h : p := by have := HK1.out; first | omega | exact Nat.le_refl _) : p := h
/-! ### span_badId: function 53 -/
def span_badId.f (a0 : Int) : Option (Bool) := if a0 < 1 then (some true) else (some (decide (a0 > 1099511627776)))
set_option maxHeartbeats 8000000 in
set_option maxRecDepth 100000 in
theorem span_badId.calls (a0 : Int) (r : Bool) (w : World) (h : span_badId.f a0 = some r) :
  Calls Try.prog 53 #[.int .i64 a0] w fun e w' => e = .returned (.bool r) ∧ Drawn0 w w' := by
 have H : (if a0 < 1 then (some true) else (some (decide (a0 > 1099511627776)))) = some r := h
 clear h
 by_cases c2 : a0 < 1
 ·rw [if_pos c2] at H
  have c2b0 : decide (a0 < 1) = true := decide_eq_true c2
  clear c2
  obtain rfl := Option.some.inj H
  go_enter Try.func53, Try.ntmps53
  go_wp2
  go_ret
  exact ⟨qgatt_4, qgatt_9⟩
 rw [if_neg c2] at H
 have c2b0 : decide (a0 < 1) = false := decide_eq_false c2
 clear c2
 obtain rfl := Option.some.inj H
 go_enter Try.func53, Try.ntmps53
 go_wp2
 go_ret
 exact ⟨qgatt_4, qgatt_9⟩

/-! ### attribute_within: function 75 -/
def attribute_within.l0 : Nat → ByteArray → Int → Int → Int → Int → Option (Bool)
 | 0, _, _, _, _, _ => none
 | k + 1, x0, x1, x2, x9, x10 => if x10 < x9 then (if 0 ≤ x10 then (if x10 < (x0.size : Int) then (if (bt x0 x10) < x1 then (some false) else (if (bt x0 x10) > x2 then (some false) else (attribute_within.l0 k x0 x1 x2 x9 (wrap64 (x10 + 1))))) else (none)) else (none)) else (some true)
def attribute_within.f (k : Nat) (a0 : ByteArray) (a1 : Int) (a2 : Int) : Option (Bool) := attribute_within.l0 k a0 a1 a2 (a0.size : Int) 0
theorem attribute_within.mono_l : ∀ k, (∀ y0 y1 y2 y3 y4, LeO (attribute_within.l0 k y0 y1 y2 y3 y4) (attribute_within.l0 (k + 1) y0 y1 y2 y3 y4))
 | 0 => fun _ _ _ _ _ r h => by simp [attribute_within.l0] at h
 | k + 1 => by
  have ih0 := attribute_within.mono_l k
  ·intro y0 y1 y2 y3 y4
   unfold attribute_within.l0
   repeat' first
   | (with_reducible exact ih0 _ _ _ _ _)
   | (with_reducible exact LeO.refl _)
   | (with_reducible exact LeO.none _)
   | (with_reducible refine LeO.ite ?_ ?_)
   | (with_reducible refine LeO.bind ?_ (fun _ => ?_))
   | exact ih0 _ _ _ _ _
   | exact LeO.none _
   | refine LeO.ite ?_ ?_
   | refine LeO.bind ?_ (fun _ => ?_)
theorem attribute_within.mono : ∀ a0 a1 a2 k, LeO (attribute_within.f k a0 a1 a2) (attribute_within.f (k + 1) a0 a1 a2) := by
 intro a0 a1 a2 k
 have ih0 := attribute_within.mono_l k
 unfold attribute_within.f
 repeat' first
   | (with_reducible exact ih0 _ _ _ _ _)
   | (with_reducible exact LeO.refl _)
   | (with_reducible exact LeO.none _)
   | (with_reducible refine LeO.ite ?_ ?_)
   | (with_reducible refine LeO.bind ?_ (fun _ => ?_))
   | exact ih0 _ _ _ _ _
   | exact LeO.none _
   | refine LeO.ite ?_ ?_
   | refine LeO.bind ?_ (fun _ => ?_)
set_option maxHeartbeats 8000000 in
set_option maxRecDepth 100000 in
theorem attribute_within.calls (k : Nat) (a0 : ByteArray) (a1 : Int) (a2 : Int) (r : Bool) (w : World) (h : attribute_within.f k a0 a1 a2 = some r) :
  Calls Try.prog 75 #[.string a0, .int .u8 a1, .int .u8 a2] w fun e w' => e = .returned (.bool r) ∧ Drawn0 w w' := by
 have H : (attribute_within.l0 k a0 a1 a2 (a0.size : Int) 0) = some r := h
 clear h
 have H' := Aside0.mk H
 clear H
 go_enter Try.func75, Try.ntmps75
 go_wp2
 go_loopg [10] k (fun kq v10 w' => ∃ (x10_1 : Int), v10 = .int .i64 x10_1 ∧ Aside0 (attribute_within.l0 kq a0 a1 a2 (a0.size : Int) x10_1 = some r) ∧ Aside0 (kq ≤ k) ∧ Drawn0 w w')
 case atStart => exact ⟨(0), qgatt_4, H', ⟨Nat.le_refl _⟩, qgatt_9⟩
 clear H'
 try clear p2
 obtain ⟨x10_1, rfl, HA, HK1, ⟨m1, rfl⟩⟩ := hrel
 cases gk with
 | zero => exact absurd HA.out (by simp [attribute_within.l0])
 | succ k1 =>
  have H := HA.out
  clear HA
  simp only [attribute_within.l0] at H
  by_cases c4 : x10_1 < (a0.size : Int)
  rotate_left
  ·rw [if_neg c4] at H
   have c4b0 : decide (x10_1 < (a0.size : Int)) = false := decide_eq_false c4
   clear c4
   obtain rfl := Option.some.inj H
   go_wp2
   go_ret
   exact ⟨qgatt_4, qgatt_9⟩
  rw [if_pos c4] at H
  have c4b0 : decide (x10_1 < (a0.size : Int)) = true := decide_eq_true c4
  clear c4
  by_cases c5 : 0 ≤ x10_1
  rotate_left
  ·rw [if_neg c5] at H
   exact absurd H (by simp)
  rw [if_pos c5] at H
  have c5b0 : decide (0 ≤ x10_1) = true := decide_eq_true c5
  clear c5
  by_cases c6 : x10_1 < (a0.size : Int)
  rotate_left
  ·rw [if_neg c6] at H
   exact absurd H (by simp)
  rw [if_pos c6] at H
  have c6b0 : decide (x10_1 < (a0.size : Int)) = true := decide_eq_true c6
  clear c6
  by_cases c8 : (bt a0 x10_1) < a1
  ·rw [if_pos c8] at H
   have c8b0 : decide ((bt a0 x10_1) < a1) = true := decide_eq_true c8
   clear c8
   obtain rfl := Option.some.inj H
   have p7 : 0 ≤ (x10_1 : Int) := of_decide_eq_true qgatt_5
   have q7 : x10_1 < (a0.size : Int) := of_decide_eq_true qgatt_5
   have hx7 := bt_at a0 x10_1
   replace p7 := eq_true p7
   replace q7 := eq_true q7
   go_wp2
   go_ret
   exact ⟨qgatt_4, qgatt_9⟩
  rw [if_neg c8] at H
  have c8b0 : decide ((bt a0 x10_1) < a1) = false := decide_eq_false c8
  clear c8
  by_cases c10 : (bt a0 x10_1) > a2
  ·rw [if_pos c10] at H
   have c10b0 : decide (a2 < (bt a0 x10_1)) = true := decide_eq_true c10
   clear c10
   obtain rfl := Option.some.inj H
   have p7 : 0 ≤ (x10_1 : Int) := of_decide_eq_true qgatt_5
   have q7 : x10_1 < (a0.size : Int) := of_decide_eq_true qgatt_5
   have hx7 := bt_at a0 x10_1
   replace p7 := eq_true p7
   replace q7 := eq_true q7
   have p9 : 0 ≤ (x10_1 : Int) := of_decide_eq_true qgatt_5
   have q9 : x10_1 < (a0.size : Int) := of_decide_eq_true qgatt_5
   have hx9 := bt_at a0 x10_1
   replace p9 := eq_true p9
   replace q9 := eq_true q9
   go_wp2
   go_ret
   exact ⟨qgatt_4, qgatt_9⟩
  rw [if_neg c10] at H
  have c10b0 : decide (a2 < (bt a0 x10_1)) = false := decide_eq_false c10
  clear c10
  have H' := Aside0.mk H
  clear H
  have p7 : 0 ≤ (x10_1 : Int) := of_decide_eq_true qgatt_5
  have q7 : x10_1 < (a0.size : Int) := of_decide_eq_true qgatt_5
  have hx7 := bt_at a0 x10_1
  replace p7 := eq_true p7
  replace q7 := eq_true q7
  have p9 : 0 ≤ (x10_1 : Int) := of_decide_eq_true qgatt_5
  have q9 : x10_1 < (a0.size : Int) := of_decide_eq_true qgatt_5
  have hx9 := bt_at a0 x10_1
  replace p9 := eq_true p9
  replace q9 := eq_true q9
  go_wp2
  go_roundg k1
  case measure => have := HK1.out; omega
  case rel => exact ⟨(wrap64 (x10_1 + 1)), qgatt_4, H', ⟨by have := HK1.out; omega⟩, qgatt_9⟩

/-! ### attribute_IsName: function 54 -/
def attribute_IsName.f (k : Nat) (a0 : ByteArray) : Option (Bool) := if a0.toList = ([] : List UInt8) then (some false) else (if (a0.size : Int) ≤ 64 then ((attribute_within.f k a0 33 126).bind fun t178 => (some t178)) else (some false))
theorem attribute_IsName.mono : ∀ a0 k, LeO (attribute_IsName.f k a0) (attribute_IsName.f (k + 1) a0) := by
 intro a0 k
 unfold attribute_IsName.f
 repeat' first
   | (with_reducible exact attribute_within.mono _ _ _ _)
   | (with_reducible exact LeO.refl _)
   | (with_reducible exact LeO.none _)
   | (with_reducible refine LeO.ite ?_ ?_)
   | (with_reducible refine LeO.bind ?_ (fun _ => ?_))
   | exact attribute_within.mono _ _ _ _
   | exact LeO.none _
   | refine LeO.ite ?_ ?_
   | refine LeO.bind ?_ (fun _ => ?_)
set_option maxHeartbeats 8000000 in
set_option maxRecDepth 100000 in
theorem attribute_IsName.calls (k : Nat) (a0 : ByteArray) (r : Bool) (w : World) (h : attribute_IsName.f k a0 = some r) :
  Calls Try.prog 54 #[.string a0] w fun e w' => e = .returned (.bool r) ∧ Drawn0 w w' := by
 have H : (if a0.toList = ([] : List UInt8) then (some false) else (if (a0.size : Int) ≤ 64 then ((attribute_within.f k a0 33 126).bind fun t178 => (some t178)) else (some false))) = some r := h
 clear h
 by_cases c2 : a0.toList = ([] : List UInt8)
 ·rw [if_pos c2] at H
  have c2b0 : (a0.toList == ([] : List UInt8)) = true := beq_iff_eq.mpr c2
  have c2b1 : (a0.toList != ([] : List UInt8)) = false := bne_eq_false_iff_eq.mpr c2
  clear c2
  obtain rfl := Option.some.inj H
  go_enter Try.func54, Try.ntmps54
  go_wp2
  go_ret
  exact ⟨qgatt_4, qgatt_9⟩
 rw [if_neg c2] at H
 have c2b0 : (a0.toList == ([] : List UInt8)) = false := beq_eq_false_iff_ne.mpr c2
 have c2b1 : (a0.toList != ([] : List UInt8)) = true := bne_iff_ne.mpr c2
 by_cases c3 : (a0.size : Int) ≤ 64
 rotate_left
 ·rw [if_neg c3] at H
  have c3b0 : decide ((a0.size : Int) ≤ 64) = false := decide_eq_false c3
  have c3b1 : decide (a0.size ≤ 64) = false := decide_eq_false (by omega)
  clear c3
  obtain rfl := Option.some.inj H
  go_enter Try.func54, Try.ntmps54
  go_wp2
  go_ret
  exact ⟨qgatt_4, qgatt_9⟩
 rw [if_pos c3] at H
 have c3b0 : decide ((a0.size : Int) ≤ 64) = true := decide_eq_true c3
 have c3b1 : decide (a0.size ≤ 64) = true := decide_eq_true (by omega)
 clear c3
 replace H := Option.bind_eq_some_iff.mp H
 obtain ⟨t178, A40, H⟩ := H
 replace H : (some t178) = some r := H
 have A4 := Aside0.mk A40
 clear A40
 obtain rfl := Option.some.inj H
 go_enter Try.func54, Try.ntmps54
 go_wp2_with (first | (go_at_call 75; (with_reducible refine (attribute_within.calls k a0 33 126 t178 _ A4.out).mono ?_); rintro e w' ⟨rfl, ⟨nd, rfl⟩⟩))
 go_ret
 exact ⟨qgatt_4, qgatt_9⟩

/-! ### api_Errno: function 55 -/
def api_Errno.l0 : Nat → Int → List Int → Int → Int → Option (Int)
 | 0, _, _, _, _ => none
 | k + 1, x3, x6, x7, x8 => if x8 < x7 then (if 0 ≤ x8 then (if x8 < (x6.length : Int) then (if (rd x6 x8) = x3 then (api_Errno.l0 k x3 x6 x7 (wrap64 (x8 + 1))) else (some (rd x6 x8))) else (none)) else (none)) else (some x3)
def api_Errno.f (k : Nat) (l0 : List Int) : Option (Int) := api_Errno.l0 k 0 l0 (l0.length : Int) 0
theorem api_Errno.mono_l : ∀ k, (∀ y0 y1 y2 y3, LeO (api_Errno.l0 k y0 y1 y2 y3) (api_Errno.l0 (k + 1) y0 y1 y2 y3))
 | 0 => fun _ _ _ _ r h => by simp [api_Errno.l0] at h
 | k + 1 => by
  have ih0 := api_Errno.mono_l k
  ·intro y0 y1 y2 y3
   unfold api_Errno.l0
   repeat' first
   | (with_reducible exact ih0 _ _ _ _)
   | (with_reducible exact LeO.refl _)
   | (with_reducible exact LeO.none _)
   | (with_reducible refine LeO.ite ?_ ?_)
   | (with_reducible refine LeO.bind ?_ (fun _ => ?_))
   | exact ih0 _ _ _ _
   | exact LeO.none _
   | refine LeO.ite ?_ ?_
   | refine LeO.bind ?_ (fun _ => ?_)
theorem api_Errno.mono : ∀ a0 k, LeO (api_Errno.f k a0) (api_Errno.f (k + 1) a0) := by
 intro a0 k
 have ih0 := api_Errno.mono_l k
 unfold api_Errno.f
 repeat' first
   | (with_reducible exact ih0 _ _ _ _)
   | (with_reducible exact LeO.refl _)
   | (with_reducible exact LeO.none _)
   | (with_reducible refine LeO.ite ?_ ?_)
   | (with_reducible refine LeO.bind ?_ (fun _ => ?_))
   | exact ih0 _ _ _ _
   | exact LeO.none _
   | refine LeO.ite ?_ ?_
   | refine LeO.bind ?_ (fun _ => ?_)
set_option maxHeartbeats 8000000 in
set_option maxRecDepth 100000 in
theorem api_Errno.calls (k : Nat) (A0 : Option Addr) (c0 : Nat) (l0 : List Int) (r : Int) (w : World) (hr0 : Kd.C (Kd.int .i64) w A0 l0.length l0) (hc0 : l0.length ≤ c0) (h : api_Errno.f k l0 = some r) :
  Calls Try.prog 55 #[.slice A0 l0.length c0] w fun e w' => e = .returned (.int .i64 r) ∧ Drawn0 w w' := by
 have HR0 := Aside0.mk hr0
 have HC0 := Aside0.mk hc0
 clear hr0 hc0
 have H : (api_Errno.l0 k 0 l0 (l0.length : Int) 0) = some r := h
 clear h
 have H' := Aside0.mk H
 clear H
 go_enter Try.func55, Try.ntmps55
 go_wp2
 go_loopg [8] k (fun kq v8 w' => ∃ (x8_1 : Int), v8 = .int .i64 x8_1 ∧ Aside0 (api_Errno.l0 kq 0 l0 (l0.length : Int) x8_1 = some r) ∧ Aside0 (kq ≤ k) ∧ Drawn0 w w')
 case atStart => exact ⟨(0), qgatt_4, H', ⟨Nat.le_refl _⟩, qgatt_9⟩
 clear H'
 obtain ⟨x8_1, rfl, HA, HK1, ⟨m1, rfl⟩⟩ := hrel
 cases gk with
 | zero => exact absurd HA.out (by simp [api_Errno.l0])
 | succ k1 =>
  have H := HA.out
  clear HA
  simp only [api_Errno.l0] at H
  by_cases c2 : x8_1 < (l0.length : Int)
  rotate_left
  ·rw [if_neg c2] at H
   have c2b0 : decide (x8_1 < (l0.length : Int)) = false := decide_eq_false c2
   clear c2
   obtain rfl := Option.some.inj H
   go_wp2
   go_ret
   exact ⟨qgatt_4, qgatt_9⟩
  rw [if_pos c2] at H
  have c2b0 : decide (x8_1 < (l0.length : Int)) = true := decide_eq_true c2
  clear c2
  by_cases c3 : 0 ≤ x8_1
  rotate_left
  ·rw [if_neg c3] at H
   exact absurd H (by simp)
  rw [if_pos c3] at H
  have c3b0 : decide (0 ≤ x8_1) = true := decide_eq_true c3
  clear c3
  by_cases c4 : x8_1 < (l0.length : Int)
  rotate_left
  ·rw [if_neg c4] at H
   exact absurd H (by simp)
  rw [if_pos c4] at H
  have c4b0 : decide (x8_1 < (l0.length : Int)) = true := decide_eq_true c4
  clear c4
  by_cases c5 : (rd l0 x8_1) = 0
  rotate_left
  ·rw [if_neg c5] at H
   have c5b0 : ((rd l0 x8_1) == 0) = false := beq_eq_false_iff_ne.mpr c5
   have c5b1 : ((rd l0 x8_1) != 0) = true := bne_iff_ne.mpr c5
   obtain rfl := Option.some.inj H
   have p179 : 0 ≤ (x8_1 : Int) := of_decide_eq_true qgatt_5
   have q179 : x8_1 < (l0.length : Int) := of_decide_eq_true qgatt_5
   obtain ⟨ad179, e179, hx179_0⟩ := Kd.at_int HR0.out x8_1 p179 q179
   cases e179
   replace p179 := eq_true p179
   replace q179 := eq_true q179
   go_wp2
   go_ret
   exact ⟨qgatt_4, qgatt_9⟩
  rw [if_pos c5] at H
  have c5b0 : ((rd l0 x8_1) == 0) = true := beq_iff_eq.mpr c5
  have c5b1 : ((rd l0 x8_1) != 0) = false := bne_eq_false_iff_eq.mpr c5
  clear c5
  have H' := Aside0.mk H
  clear H
  have p179 : 0 ≤ (x8_1 : Int) := of_decide_eq_true qgatt_5
  have q179 : x8_1 < (l0.length : Int) := of_decide_eq_true qgatt_5
  obtain ⟨ad179, e179, hx179_0⟩ := Kd.at_int HR0.out x8_1 p179 q179
  cases e179
  replace p179 := eq_true p179
  replace q179 := eq_true q179
  go_wp2
  go_roundg k1
  case measure => have := HK1.out; omega
  case rel => exact ⟨(wrap64 (x8_1 + 1)), qgatt_4, H', ⟨by have := HK1.out; omega⟩, qgatt_9⟩

/-! ### attribute_CheckValue: function 76 -/
def attribute_CheckValue.j0 : Nat → Bool → Int → ByteArray → Int → Option (Int)
 | 0, _, _, _, _ => none
 | k + 1, x3, x181000, x181001, x181002 => if (x181001.size : Int) > 4096 then (some 5) else (if x3 = true then (some 0) else (some 3))
def attribute_CheckValue.f (k : Nat) (a0_0 : Int) (a0_1 : ByteArray) (a0_2 : Int) : Option (Int) := if a0_0 = 1 then ((attribute_within.f k a0_1 32 126).bind fun t181 => (if t181 = true then (attribute_CheckValue.j0 k (a0_2 == 0) a0_0 a0_1 a0_2) else (attribute_CheckValue.j0 k false a0_0 a0_1 a0_2))) else (if a0_0 = 2 then (if a0_1.toList = ([] : List UInt8) then (if a0_2 ≥ (-1099511627776) then (attribute_CheckValue.j0 k (decide (a0_2 ≤ 1099511627776)) a0_0 a0_1 a0_2) else (attribute_CheckValue.j0 k false a0_0 a0_1 a0_2)) else (attribute_CheckValue.j0 k false a0_0 a0_1 a0_2)) else (if a0_0 = 3 then (if a0_1.toList = ([] : List UInt8) then (if a0_2 = 0 then (attribute_CheckValue.j0 k true a0_0 a0_1 a0_2) else (attribute_CheckValue.j0 k (a0_2 == 1) a0_0 a0_1 a0_2)) else (attribute_CheckValue.j0 k false a0_0 a0_1 a0_2)) else (some 12)))
theorem attribute_CheckValue.mono_l : ∀ k, (∀ y0 y1 y2 y3, LeO (attribute_CheckValue.j0 k y0 y1 y2 y3) (attribute_CheckValue.j0 (k + 1) y0 y1 y2 y3))
 | 0 => fun _ _ _ _ r h => by simp [attribute_CheckValue.j0] at h
 | k + 1 => by
  have ih0 := attribute_CheckValue.mono_l k
  ·intro y0 y1 y2 y3
   unfold attribute_CheckValue.j0
   repeat' first
   | (with_reducible exact ih0 _ _ _ _)
   | (with_reducible exact attribute_within.mono _ _ _ _)
   | (with_reducible exact LeO.refl _)
   | (with_reducible exact LeO.none _)
   | (with_reducible refine LeO.ite ?_ ?_)
   | (with_reducible refine LeO.bind ?_ (fun _ => ?_))
   | exact ih0 _ _ _ _
   | exact attribute_within.mono _ _ _ _
   | exact LeO.none _
   | refine LeO.ite ?_ ?_
   | refine LeO.bind ?_ (fun _ => ?_)
theorem attribute_CheckValue.mono : ∀ a0 a1 a2 k, LeO (attribute_CheckValue.f k a0 a1 a2) (attribute_CheckValue.f (k + 1) a0 a1 a2) := by
 intro a0 a1 a2 k
 have ih0 := attribute_CheckValue.mono_l k
 unfold attribute_CheckValue.f
 repeat' first
   | (with_reducible exact ih0 _ _ _ _)
   | (with_reducible exact attribute_within.mono _ _ _ _)
   | (with_reducible exact LeO.refl _)
   | (with_reducible exact LeO.none _)
   | (with_reducible refine LeO.ite ?_ ?_)
   | (with_reducible refine LeO.bind ?_ (fun _ => ?_))
   | exact ih0 _ _ _ _
   | exact attribute_within.mono _ _ _ _
   | exact LeO.none _
   | refine LeO.ite ?_ ?_
   | refine LeO.bind ?_ (fun _ => ?_)
set_option maxHeartbeats 8000000 in
set_option maxRecDepth 100000 in
theorem attribute_CheckValue.calls (k : Nat) (a0_0 : Int) (a0_1 : ByteArray) (a0_2 : Int) (r : Int) (w : World) (h : attribute_CheckValue.f k a0_0 a0_1 a0_2 = some r) :
  Calls Try.prog 76 #[.agg #[.int .i64 a0_0, .string a0_1, .int .i64 a0_2]] w fun e w' => e = .returned (.int .i64 r) ∧ Below w.heap.size w w' := by
 have hu139 := Try.underlying139
 have HB := Aside0.mk (Below.refl w.heap.size w)
 have H : (if a0_0 = 1 then ((attribute_within.f k a0_1 32 126).bind fun t181 => (if t181 = true then (attribute_CheckValue.j0 k (a0_2 == 0) a0_0 a0_1 a0_2) else (attribute_CheckValue.j0 k false a0_0 a0_1 a0_2))) else (if a0_0 = 2 then (if a0_1.toList = ([] : List UInt8) then (if a0_2 ≥ (-1099511627776) then (attribute_CheckValue.j0 k (decide (a0_2 ≤ 1099511627776)) a0_0 a0_1 a0_2) else (attribute_CheckValue.j0 k false a0_0 a0_1 a0_2)) else (attribute_CheckValue.j0 k false a0_0 a0_1 a0_2)) else (if a0_0 = 3 then (if a0_1.toList = ([] : List UInt8) then (if a0_2 = 0 then (attribute_CheckValue.j0 k true a0_0 a0_1 a0_2) else (attribute_CheckValue.j0 k (a0_2 == 1) a0_0 a0_1 a0_2)) else (attribute_CheckValue.j0 k false a0_0 a0_1 a0_2)) else (some 12)))) = some r := h
 clear h
 have HC2 := Aside0.mk H
 clear H
 go_enter Try.func76, Try.ntmps76
 go_upto_block 0 with (first | ((with_reducible refine gate_dst (N := 1) rfl ?_); refine box_event ?hg (N := 1) ?hd (cs := #[.int .i64 a0_0, .string a0_1, .int .i64 a0_2]) (t := 139) ?hr ?_; (case hd => rfl); (case hg => rfl); (case hr => exact qgatt_21); intro gb180 hg w3 hbox hb; have n0_ := Aside0.mk (below_step qgatt_0 hb); have n1_ := Aside0.mk (hbox); have n2_ := Aside0.mk ((by rw [hg]; exact (below_size qgatt_0) : w.heap.size ≤ gb180)); have n3_ := Aside0.mk ((by rw [hg]; exact (below_size qgatt_0) : w.heap.size ≤ gb180)); clear HB; have HB := n0_; have BK180 := n1_; have GW180 := n2_; have GE180 := n3_; clear n0_ n1_ n2_ n3_; clear hb hbox hg; have hcz4_0 : w3.cell? ⟨gb180, 0, none⟩ = some (.int .i64 a0_0) := (blk_cell BK180.out 0).trans rfl; have hcz4_1 : w3.cell? ⟨gb180, 1, none⟩ = some (.string a0_1) := (blk_cell BK180.out 1).trans rfl; have hcz4_2 : w3.cell? ⟨gb180, 2, none⟩ = some (.int .i64 a0_2) := (blk_cell BK180.out 2).trans rfl; have hfz4_0 := blk_frozen BK180.out 0; have hfz4_1 := blk_frozen BK180.out 1; have hfz4_2 := blk_frozen BK180.out 2))
 (try simp only [Act.put, List.setIfInBounds_toArray, List.set_cons_zero, List.set_cons_succ])
 go_cut [3] (fun v3 wc => ∃ (kq : Nat) (x3_1 : Bool), v3 = .bool x3_1 ∧ Aside0 (attribute_CheckValue.j0 kq x3_1 a0_0 a0_1 a0_2 = some r) ∧ Aside0 (kq ≤ k) ∧ Aside0 (wc.heap[gb180]? = some (.cells #[.int .i64 a0_0, .string a0_1, .int .i64 a0_2] 139 (0, 0))) ∧ Aside0 (Below w.heap.size w wc))
 case first =>
  have H := HC2.out
  clear HC2
  by_cases c5 : a0_0 = 1
  ·rw [if_pos c5] at H
   have c5b0 : (a0_0 == 1) = true := beq_iff_eq.mpr c5
   have c5b1 : (a0_0 != 1) = false := bne_eq_false_iff_eq.mpr c5
   clear c5
   (first | rw [c5b0] | (simp only [i64_w, i32_w]; rw [c5b0]) | skip)
   replace H := Option.bind_eq_some_iff.mp H
   obtain ⟨t181, A60, H⟩ := H
   replace H : (if t181 = true then (attribute_CheckValue.j0 k (a0_2 == 0) a0_0 a0_1 a0_2) else (attribute_CheckValue.j0 k false a0_0 a0_1 a0_2)) = some r := H
   have A6 := Aside0.mk A60
   clear A60
   by_cases c7 : t181 = true
   ·subst c7
    have H1 : (attribute_CheckValue.j0 k (a0_2 == 0) a0_0 a0_1 a0_2) = some r := by rw [if_pos rfl] at H; exact H
    clear H
    have H := H1
    clear H1
    have H' := Aside0.mk H
    clear H
    have hcz8_0 : w3.cell? ⟨gb180, 0, none⟩ = some (.int .i64 a0_0) := (blk_cell BK180.out 0).trans rfl
    have hcz8_1 : w3.cell? ⟨gb180, 1, none⟩ = some (.string a0_1) := (blk_cell BK180.out 1).trans rfl
    have hcz8_2 : w3.cell? ⟨gb180, 2, none⟩ = some (.int .i64 a0_2) := (blk_cell BK180.out 2).trans rfl
    have hfz8_0 := blk_frozen BK180.out 0
    have hfz8_1 := blk_frozen BK180.out 1
    have hfz8_2 := blk_frozen BK180.out 2
    go_wp2_with (first | ((with_reducible refine gate_callee (f := 75) rfl ?_); refine goesL_ (some 10) rfl rfl Try.func75 (by kernel_rfl) rfl #[.string a0_1, .int .u8 32, .int .u8 126] rfl qgatt_1 ?_; (with_reducible refine (attribute_within.calls k a0_1 32 126 true _ A6.out).mono ?_); rintro e w' ⟨rfl, ⟨nd, rfl⟩⟩; refine ⟨_, rfl, ?_⟩))
    go_meet
    case rel => exact ⟨_, ((a0_2 == 0)), qgatt_4, H', ⟨qgatt_22⟩, ⟨qgatt_10⟩, ⟨qgatt_3⟩⟩
   replace c7 := Bool.eq_false_iff.mpr c7
   subst c7
   have H1 : (attribute_CheckValue.j0 k false a0_0 a0_1 a0_2) = some r := by rw [if_neg (show ¬ (false = true) by decide)] at H; exact H
   clear H
   have H := H1
   clear H1
   have H' := Aside0.mk H
   clear H
   have hcz9_0 : w3.cell? ⟨gb180, 0, none⟩ = some (.int .i64 a0_0) := (blk_cell BK180.out 0).trans rfl
   have hcz9_1 : w3.cell? ⟨gb180, 1, none⟩ = some (.string a0_1) := (blk_cell BK180.out 1).trans rfl
   have hcz9_2 : w3.cell? ⟨gb180, 2, none⟩ = some (.int .i64 a0_2) := (blk_cell BK180.out 2).trans rfl
   have hfz9_0 := blk_frozen BK180.out 0
   have hfz9_1 := blk_frozen BK180.out 1
   have hfz9_2 := blk_frozen BK180.out 2
   go_wp2_with (first | ((with_reducible refine gate_callee (f := 75) rfl ?_); refine goesL_ (some 10) rfl rfl Try.func75 (by kernel_rfl) rfl #[.string a0_1, .int .u8 32, .int .u8 126] rfl qgatt_1 ?_; (with_reducible refine (attribute_within.calls k a0_1 32 126 false _ A6.out).mono ?_); rintro e w' ⟨rfl, ⟨nd, rfl⟩⟩; refine ⟨_, rfl, ?_⟩))
   go_meet
   case rel => exact ⟨_, (false), qgatt_4, H', ⟨qgatt_22⟩, ⟨qgatt_10⟩, ⟨qgatt_3⟩⟩
  rw [if_neg c5] at H
  have c5b0 : (a0_0 == 1) = false := beq_eq_false_iff_ne.mpr c5
  have c5b1 : (a0_0 != 1) = true := bne_iff_ne.mpr c5
  (first | rw [c5b0] | (simp only [i64_w, i32_w]; rw [c5b0]) | skip)
  by_cases c10 : a0_0 = 2
  ·rw [if_pos c10] at H
   have c10b0 : (a0_0 == 2) = true := beq_iff_eq.mpr c10
   have c10b1 : (a0_0 != 2) = false := bne_eq_false_iff_eq.mpr c10
   clear c10
   by_cases c11 : a0_1.toList = ([] : List UInt8)
   rotate_left
   ·rw [if_neg c11] at H
    have c11b0 : (a0_1.toList == ([] : List UInt8)) = false := beq_eq_false_iff_ne.mpr c11
    have c11b1 : (a0_1.toList != ([] : List UInt8)) = true := bne_iff_ne.mpr c11
    have H' := Aside0.mk H
    clear H
    have hcz15_0 : w3.cell? ⟨gb180, 0, none⟩ = some (.int .i64 a0_0) := (blk_cell BK180.out 0).trans rfl
    have hcz15_1 : w3.cell? ⟨gb180, 1, none⟩ = some (.string a0_1) := (blk_cell BK180.out 1).trans rfl
    have hcz15_2 : w3.cell? ⟨gb180, 2, none⟩ = some (.int .i64 a0_2) := (blk_cell BK180.out 2).trans rfl
    have hfz15_0 := blk_frozen BK180.out 0
    have hfz15_1 := blk_frozen BK180.out 1
    have hfz15_2 := blk_frozen BK180.out 2
    go_wp2
    go_meet
    case rel => exact ⟨_, (false), qgatt_4, H', ⟨qgatt_22⟩, ⟨qgatt_10⟩, ⟨qgatt_3⟩⟩
   rw [if_pos c11] at H
   have c11b0 : (a0_1.toList == ([] : List UInt8)) = true := beq_iff_eq.mpr c11
   have c11b1 : (a0_1.toList != ([] : List UInt8)) = false := bne_eq_false_iff_eq.mpr c11
   clear c11
   by_cases c12 : a0_2 ≥ (-1099511627776)
   rotate_left
   ·rw [if_neg c12] at H
    have c12b0 : decide ((-1099511627776) ≤ a0_2) = false := decide_eq_false c12
    clear c12
    have H' := Aside0.mk H
    clear H
    have hcz14_0 : w3.cell? ⟨gb180, 0, none⟩ = some (.int .i64 a0_0) := (blk_cell BK180.out 0).trans rfl
    have hcz14_1 : w3.cell? ⟨gb180, 1, none⟩ = some (.string a0_1) := (blk_cell BK180.out 1).trans rfl
    have hcz14_2 : w3.cell? ⟨gb180, 2, none⟩ = some (.int .i64 a0_2) := (blk_cell BK180.out 2).trans rfl
    have hfz14_0 := blk_frozen BK180.out 0
    have hfz14_1 := blk_frozen BK180.out 1
    have hfz14_2 := blk_frozen BK180.out 2
    go_wp2
    go_meet
    case rel => exact ⟨_, (false), qgatt_4, H', ⟨qgatt_22⟩, ⟨qgatt_10⟩, ⟨qgatt_3⟩⟩
   rw [if_pos c12] at H
   have c12b0 : decide ((-1099511627776) ≤ a0_2) = true := decide_eq_true c12
   clear c12
   have H' := Aside0.mk H
   clear H
   have hcz13_0 : w3.cell? ⟨gb180, 0, none⟩ = some (.int .i64 a0_0) := (blk_cell BK180.out 0).trans rfl
   have hcz13_1 : w3.cell? ⟨gb180, 1, none⟩ = some (.string a0_1) := (blk_cell BK180.out 1).trans rfl
   have hcz13_2 : w3.cell? ⟨gb180, 2, none⟩ = some (.int .i64 a0_2) := (blk_cell BK180.out 2).trans rfl
   have hfz13_0 := blk_frozen BK180.out 0
   have hfz13_1 := blk_frozen BK180.out 1
   have hfz13_2 := blk_frozen BK180.out 2
   go_wp2
   go_meet
   case rel => exact ⟨_, (decide (a0_2 ≤ 1099511627776)), qgatt_4, H', ⟨qgatt_22⟩, ⟨qgatt_10⟩, ⟨qgatt_3⟩⟩
  rw [if_neg c10] at H
  have c10b0 : (a0_0 == 2) = false := beq_eq_false_iff_ne.mpr c10
  have c10b1 : (a0_0 != 2) = true := bne_iff_ne.mpr c10
  by_cases c16 : a0_0 = 3
  rotate_left
  ·rw [if_neg c16] at H
   have c16b0 : (a0_0 == 3) = false := beq_eq_false_iff_ne.mpr c16
   have c16b1 : (a0_0 != 3) = true := bne_iff_ne.mpr c16
   obtain rfl := Option.some.inj H
   go_wp2
   go_ret
   exact ⟨qgatt_8, qgatt_3⟩
  rw [if_pos c16] at H
  have c16b0 : (a0_0 == 3) = true := beq_iff_eq.mpr c16
  have c16b1 : (a0_0 != 3) = false := bne_eq_false_iff_eq.mpr c16
  clear c16
  by_cases c17 : a0_1.toList = ([] : List UInt8)
  rotate_left
  ·rw [if_neg c17] at H
   have c17b0 : (a0_1.toList == ([] : List UInt8)) = false := beq_eq_false_iff_ne.mpr c17
   have c17b1 : (a0_1.toList != ([] : List UInt8)) = true := bne_iff_ne.mpr c17
   have H' := Aside0.mk H
   clear H
   have hcz21_0 : w3.cell? ⟨gb180, 0, none⟩ = some (.int .i64 a0_0) := (blk_cell BK180.out 0).trans rfl
   have hcz21_1 : w3.cell? ⟨gb180, 1, none⟩ = some (.string a0_1) := (blk_cell BK180.out 1).trans rfl
   have hcz21_2 : w3.cell? ⟨gb180, 2, none⟩ = some (.int .i64 a0_2) := (blk_cell BK180.out 2).trans rfl
   have hfz21_0 := blk_frozen BK180.out 0
   have hfz21_1 := blk_frozen BK180.out 1
   have hfz21_2 := blk_frozen BK180.out 2
   go_wp2
   go_meet
   case rel => exact ⟨_, (false), qgatt_4, H', ⟨qgatt_22⟩, ⟨qgatt_10⟩, ⟨qgatt_3⟩⟩
  rw [if_pos c17] at H
  have c17b0 : (a0_1.toList == ([] : List UInt8)) = true := beq_iff_eq.mpr c17
  have c17b1 : (a0_1.toList != ([] : List UInt8)) = false := bne_eq_false_iff_eq.mpr c17
  clear c17
  by_cases c18 : a0_2 = 0
  rotate_left
  ·rw [if_neg c18] at H
   have c18b0 : (a0_2 == 0) = false := beq_eq_false_iff_ne.mpr c18
   have c18b1 : (a0_2 != 0) = true := bne_iff_ne.mpr c18
   have H' := Aside0.mk H
   clear H
   have hcz20_0 : w3.cell? ⟨gb180, 0, none⟩ = some (.int .i64 a0_0) := (blk_cell BK180.out 0).trans rfl
   have hcz20_1 : w3.cell? ⟨gb180, 1, none⟩ = some (.string a0_1) := (blk_cell BK180.out 1).trans rfl
   have hcz20_2 : w3.cell? ⟨gb180, 2, none⟩ = some (.int .i64 a0_2) := (blk_cell BK180.out 2).trans rfl
   have hfz20_0 := blk_frozen BK180.out 0
   have hfz20_1 := blk_frozen BK180.out 1
   have hfz20_2 := blk_frozen BK180.out 2
   go_wp2
   go_meet
   case rel => exact ⟨_, ((a0_2 == 1)), qgatt_4, H', ⟨qgatt_22⟩, ⟨qgatt_10⟩, ⟨qgatt_3⟩⟩
  rw [if_pos c18] at H
  have c18b0 : (a0_2 == 0) = true := beq_iff_eq.mpr c18
  have c18b1 : (a0_2 != 0) = false := bne_eq_false_iff_eq.mpr c18
  clear c18
  have H' := Aside0.mk H
  clear H
  have hcz19_0 : w3.cell? ⟨gb180, 0, none⟩ = some (.int .i64 a0_0) := (blk_cell BK180.out 0).trans rfl
  have hcz19_1 : w3.cell? ⟨gb180, 1, none⟩ = some (.string a0_1) := (blk_cell BK180.out 1).trans rfl
  have hcz19_2 : w3.cell? ⟨gb180, 2, none⟩ = some (.int .i64 a0_2) := (blk_cell BK180.out 2).trans rfl
  have hfz19_0 := blk_frozen BK180.out 0
  have hfz19_1 := blk_frozen BK180.out 1
  have hfz19_2 := blk_frozen BK180.out 2
  go_wp2
  go_meet
  case rel => exact ⟨_, (true), qgatt_4, H', ⟨qgatt_22⟩, ⟨qgatt_10⟩, ⟨qgatt_3⟩⟩
 clear HC2
 try clear c1
 try clear p2
 try clear c5
 try clear c5b0
 try clear c5b1
 try clear c7
 try clear c10
 try clear c10b0
 try clear c10b1
 try clear c11
 try clear c11b0
 try clear c11b1
 try clear c12
 try clear c12b0
 try clear c16
 try clear c16b0
 try clear c16b1
 try clear c17
 try clear c17b0
 try clear c17b1
 try clear c18
 try clear c18b0
 try clear c18b1
 try clear hcz13_0
 try clear hcz13_1
 try clear hcz13_2
 try clear hcz14_0
 try clear hcz14_1
 try clear hcz14_2
 try clear hcz15_0
 try clear hcz15_1
 try clear hcz15_2
 try clear hcz19_0
 try clear hcz19_1
 try clear hcz19_2
 try clear hcz20_0
 try clear hcz20_1
 try clear hcz20_2
 try clear hcz21_0
 try clear hcz21_1
 try clear hcz21_2
 try clear hcz4_0
 try clear hcz4_1
 try clear hcz4_2
 try clear hcz8_0
 try clear hcz8_1
 try clear hcz8_2
 try clear hcz9_0
 try clear hcz9_1
 try clear hcz9_2
 try clear hfz13_0
 try clear hfz13_1
 try clear hfz13_2
 try clear hfz14_0
 try clear hfz14_1
 try clear hfz14_2
 try clear hfz15_0
 try clear hfz15_1
 try clear hfz15_2
 try clear hfz19_0
 try clear hfz19_1
 try clear hfz19_2
 try clear hfz20_0
 try clear hfz20_1
 try clear hfz20_2
 try clear hfz21_0
 try clear hfz21_1
 try clear hfz21_2
 try clear hfz4_0
 try clear hfz4_1
 try clear hfz4_2
 try clear hfz8_0
 try clear hfz8_1
 try clear hfz8_2
 try clear hfz9_0
 try clear hfz9_1
 try clear hfz9_2
 obtain ⟨kq, x3_1, rfl, HA, HJ1, BK180, HB⟩ := hcut
 cases kq with
 | zero => exact absurd HA.out (by simp [attribute_CheckValue.j0])
 | succ kj1 =>
  have H := HA.out
  clear HA
  simp only [attribute_CheckValue.j0] at H
  by_cases c22 : (a0_1.size : Int) > 4096
  ·rw [if_pos c22] at H
   have c22b0 : decide (4096 < (a0_1.size : Int)) = true := decide_eq_true c22
   have c22b1 : decide (4096 < a0_1.size) = true := decide_eq_true (by omega)
   clear c22
   obtain rfl := Option.some.inj H
   have hcz23_0 : wc.cell? ⟨gb180, 0, none⟩ = some (.int .i64 a0_0) := (blk_cell BK180.out 0).trans rfl
   have hcz23_1 : wc.cell? ⟨gb180, 1, none⟩ = some (.string a0_1) := (blk_cell BK180.out 1).trans rfl
   have hcz23_2 : wc.cell? ⟨gb180, 2, none⟩ = some (.int .i64 a0_2) := (blk_cell BK180.out 2).trans rfl
   have hfz23_0 := blk_frozen BK180.out 0
   have hfz23_1 := blk_frozen BK180.out 1
   have hfz23_2 := blk_frozen BK180.out 2
   go_wp2
   go_ret
   exact ⟨qgatt_8, qgatt_3⟩
  rw [if_neg c22] at H
  have c22b0 : decide (4096 < (a0_1.size : Int)) = false := decide_eq_false c22
  have c22b1 : decide (4096 < a0_1.size) = false := decide_eq_false (by omega)
  clear c22
  by_cases c24 : x3_1 = true
  ·subst c24
   have H1 : (some 0) = some r := by rw [if_pos rfl] at H; exact H
   clear H
   have H := H1
   clear H1
   obtain rfl := Option.some.inj H
   have hcz25_0 : wc.cell? ⟨gb180, 0, none⟩ = some (.int .i64 a0_0) := (blk_cell BK180.out 0).trans rfl
   have hcz25_1 : wc.cell? ⟨gb180, 1, none⟩ = some (.string a0_1) := (blk_cell BK180.out 1).trans rfl
   have hcz25_2 : wc.cell? ⟨gb180, 2, none⟩ = some (.int .i64 a0_2) := (blk_cell BK180.out 2).trans rfl
   have hfz25_0 := blk_frozen BK180.out 0
   have hfz25_1 := blk_frozen BK180.out 1
   have hfz25_2 := blk_frozen BK180.out 2
   go_wp2
   go_ret
   exact ⟨qgatt_8, qgatt_3⟩
  replace c24 := Bool.eq_false_iff.mpr c24
  subst c24
  have H1 : (some 3) = some r := by rw [if_neg (show ¬ (false = true) by decide)] at H; exact H
  clear H
  have H := H1
  clear H1
  obtain rfl := Option.some.inj H
  have hcz26_0 : wc.cell? ⟨gb180, 0, none⟩ = some (.int .i64 a0_0) := (blk_cell BK180.out 0).trans rfl
  have hcz26_1 : wc.cell? ⟨gb180, 1, none⟩ = some (.string a0_1) := (blk_cell BK180.out 1).trans rfl
  have hcz26_2 : wc.cell? ⟨gb180, 2, none⟩ = some (.int .i64 a0_2) := (blk_cell BK180.out 2).trans rfl
  have hfz26_0 := blk_frozen BK180.out 0
  have hfz26_1 := blk_frozen BK180.out 1
  have hfz26_2 := blk_frozen BK180.out 2
  go_wp2
  go_ret
  exact ⟨qgatt_8, qgatt_3⟩

/-! ### attribute_CheckAttrs: function 56 -/
mutual
def attribute_CheckAttrs.l0 : Nat → List (S141) → List (S141) → Int → Int → Option (Int)
 | 0, _, _, _, _ => none
 | k + 1, x0, x9, x10, x11 => if x11 < x10 then (if 0 ≤ x11 then (if x11 < (x9.length : Int) then ((attribute_IsName.f k ((rd_T141 x9 x11).f0)).bind fun t184 => (if t184 = true then (if x11 > 0 then (if 0 ≤ (wrap64 (x11 - 1)) then (if (wrap64 (x11 - 1)) < (x0.length : Int) then (attribute_CheckAttrs.j1 k x0 x9 x10 x11 (!(Op.bytesLess (((rd_T141 x0 (wrap64 (x11 - 1))).f0).toList) (((rd_T141 x9 x11).f0).toList))) ((rd_T141 x9 x11).f0) ((rd_T141 x9 x11).f1.f0) ((rd_T141 x9 x11).f1.f1) ((rd_T141 x9 x11).f1.f2)) else (none)) else (none)) else (attribute_CheckAttrs.j1 k x0 x9 x10 x11 false ((rd_T141 x9 x11).f0) ((rd_T141 x9 x11).f1.f0) ((rd_T141 x9 x11).f1.f1) ((rd_T141 x9 x11).f1.f2))) else (some 11))) else (none)) else (none)) else (some 0)
def attribute_CheckAttrs.j1 : Nat → List (S141) → List (S141) → Int → Int → Bool → ByteArray → Int → ByteArray → Int → Option (Int)
 | 0, _, _, _, _, _, _, _, _, _ => none
 | k + 1, x0, x9, x10, x11, x21, x184000, x184001, x184002, x184003 => if x21 = true then (some 8) else ((attribute_CheckValue.f k x184001 x184002 x184003).bind fun t186 => (if t186 = 0 then (attribute_CheckAttrs.l0 k x0 x9 x10 (wrap64 (x11 + 1))) else (some t186)))
end
def attribute_CheckAttrs.f (k : Nat) (l0 : List (S141)) : Option (Int) := if (l0.length : Int) > 32 then (some 6) else (attribute_CheckAttrs.l0 k l0 l0 (l0.length : Int) 0)
theorem attribute_CheckAttrs.mono_l : ∀ k, (∀ y0 y1 y2 y3, LeO (attribute_CheckAttrs.l0 k y0 y1 y2 y3) (attribute_CheckAttrs.l0 (k + 1) y0 y1 y2 y3)) ∧ (∀ y0 y1 y2 y3 y4 y5 y6 y7 y8, LeO (attribute_CheckAttrs.j1 k y0 y1 y2 y3 y4 y5 y6 y7 y8) (attribute_CheckAttrs.j1 (k + 1) y0 y1 y2 y3 y4 y5 y6 y7 y8))
 | 0 => ⟨fun _ _ _ _ r h => by simp [attribute_CheckAttrs.l0] at h, fun _ _ _ _ _ _ _ _ _ r h => by simp [attribute_CheckAttrs.j1] at h⟩
 | k + 1 => by
  obtain ⟨ih0, ih1⟩ := attribute_CheckAttrs.mono_l k
  refine ⟨?_, ?_⟩
  ·intro y0 y1 y2 y3
   unfold attribute_CheckAttrs.l0
   repeat' first
   | (with_reducible exact ih0 _ _ _ _)
   | (with_reducible exact ih1 _ _ _ _ _ _ _ _ _)
   | (with_reducible exact attribute_CheckValue.mono _ _ _ _)
   | (with_reducible exact attribute_IsName.mono _ _)
   | (with_reducible exact LeO.refl _)
   | (with_reducible exact LeO.none _)
   | (with_reducible refine LeO.ite ?_ ?_)
   | (with_reducible refine LeO.bind ?_ (fun _ => ?_))
   | exact ih0 _ _ _ _
   | exact ih1 _ _ _ _ _ _ _ _ _
   | exact attribute_CheckValue.mono _ _ _ _
   | exact attribute_IsName.mono _ _
   | exact LeO.none _
   | refine LeO.ite ?_ ?_
   | refine LeO.bind ?_ (fun _ => ?_)
  ·intro y0 y1 y2 y3 y4 y5 y6 y7 y8
   unfold attribute_CheckAttrs.j1
   repeat' first
   | (with_reducible exact ih0 _ _ _ _)
   | (with_reducible exact ih1 _ _ _ _ _ _ _ _ _)
   | (with_reducible exact attribute_CheckValue.mono _ _ _ _)
   | (with_reducible exact attribute_IsName.mono _ _)
   | (with_reducible exact LeO.refl _)
   | (with_reducible exact LeO.none _)
   | (with_reducible refine LeO.ite ?_ ?_)
   | (with_reducible refine LeO.bind ?_ (fun _ => ?_))
   | exact ih0 _ _ _ _
   | exact ih1 _ _ _ _ _ _ _ _ _
   | exact attribute_CheckValue.mono _ _ _ _
   | exact attribute_IsName.mono _ _
   | exact LeO.none _
   | refine LeO.ite ?_ ?_
   | refine LeO.bind ?_ (fun _ => ?_)
theorem attribute_CheckAttrs.mono : ∀ a0 k, LeO (attribute_CheckAttrs.f k a0) (attribute_CheckAttrs.f (k + 1) a0) := by
 intro a0 k
 obtain ⟨ih0, ih1⟩ := attribute_CheckAttrs.mono_l k
 unfold attribute_CheckAttrs.f
 repeat' first
   | (with_reducible exact ih0 _ _ _ _)
   | (with_reducible exact ih1 _ _ _ _ _ _ _ _ _)
   | (with_reducible exact attribute_CheckValue.mono _ _ _ _)
   | (with_reducible exact attribute_IsName.mono _ _)
   | (with_reducible exact LeO.refl _)
   | (with_reducible exact LeO.none _)
   | (with_reducible refine LeO.ite ?_ ?_)
   | (with_reducible refine LeO.bind ?_ (fun _ => ?_))
   | exact ih0 _ _ _ _
   | exact ih1 _ _ _ _ _ _ _ _ _
   | exact attribute_CheckValue.mono _ _ _ _
   | exact attribute_IsName.mono _ _
   | exact LeO.none _
   | refine LeO.ite ?_ ?_
   | refine LeO.bind ?_ (fun _ => ?_)
set_option maxHeartbeats 8000000 in
set_option maxRecDepth 100000 in
theorem attribute_CheckAttrs.calls (k : Nat) (A0 : Option Addr) (c0 : Nat) (l0 : List (S141)) (r : Int) (w : World) (hr0 : Kd.C k141 w A0 l0.length l0) (hc0 : l0.length ≤ c0) (h : attribute_CheckAttrs.f k l0 = some r) :
  Calls Try.prog 56 #[.slice A0 l0.length c0] w fun e w' => e = .returned (.int .i64 r) ∧ Below w.heap.size w w' := by
 have hu141 := Try.underlying141
 have hu139 := Try.underlying139
 have HR0 := Aside0.mk hr0
 have HC0 := Aside0.mk hc0
 clear hr0 hc0
 have HB := Aside0.mk (Below.refl w.heap.size w)
 have H : (if (l0.length : Int) > 32 then (some 6) else (attribute_CheckAttrs.l0 k l0 l0 (l0.length : Int) 0)) = some r := h
 clear h
 by_cases c2 : (l0.length : Int) > 32
 ·rw [if_pos c2] at H
  have c2b0 : decide (32 < (l0.length : Int)) = true := decide_eq_true c2
  have c2b1 : decide (32 < l0.length) = true := decide_eq_true (by omega)
  clear c2
  obtain rfl := Option.some.inj H
  go_enter Try.func56, Try.ntmps56
  go_wp2
  repeat (go_quiet (fail); try go_wp2)
  go_ret
  exact ⟨qgatt_8, qgatt_0⟩
 rw [if_neg c2] at H
 have c2b0 : decide (32 < (l0.length : Int)) = false := decide_eq_false c2
 have c2b1 : decide (32 < l0.length) = false := decide_eq_false (by omega)
 clear c2
 have H' := Aside0.mk H
 clear H
 go_enter Try.func56, Try.ntmps56
 go_wp2
 repeat (go_quiet (fail); try go_wp2)
 go_loopg [11] k (fun kq v11 w' => ∃ (x11_1 : Int), v11 = .int .i64 x11_1 ∧ Aside0 (attribute_CheckAttrs.l0 kq l0 l0 (l0.length : Int) x11_1 = some r) ∧ Aside0 (kq ≤ k) ∧ Aside0 (Below w.heap.size w w'))
 case atStart => exact ⟨(0), qgatt_4, H', ⟨Nat.le_refl _⟩, ⟨qgatt_0⟩⟩
 clear H'
 try clear c2
 try clear c2b0
 try clear c2b1
 try clear p2
 obtain ⟨x11_1, rfl, HA, HK1, HB⟩ := hrel
 cases gk with
 | zero => exact absurd HA.out (by simp [attribute_CheckAttrs.l0])
 | succ k1 =>
  have H := HA.out
  clear HA
  simp only [attribute_CheckAttrs.l0] at H
  by_cases c3 : x11_1 < (l0.length : Int)
  rotate_left
  ·rw [if_neg c3] at H
   have c3b0 : decide (x11_1 < (l0.length : Int)) = false := decide_eq_false c3
   clear c3
   obtain rfl := Option.some.inj H
   go_wp2
   repeat (go_quiet (fail); try go_wp2)
   go_ret
   exact ⟨qgatt_8, qgatt_0⟩
  rw [if_pos c3] at H
  have c3b0 : decide (x11_1 < (l0.length : Int)) = true := decide_eq_true c3
  clear c3
  by_cases c4 : 0 ≤ x11_1
  rotate_left
  ·rw [if_neg c4] at H
   exact absurd H (by simp)
  rw [if_pos c4] at H
  have c4b0 : decide (0 ≤ x11_1) = true := decide_eq_true c4
  clear c4
  by_cases c5 : x11_1 < (l0.length : Int)
  rotate_left
  ·rw [if_neg c5] at H
   exact absurd H (by simp)
  rw [if_pos c5] at H
  have c5b0 : decide (x11_1 < (l0.length : Int)) = true := decide_eq_true c5
  clear c5
  replace H := Option.bind_eq_some_iff.mp H
  obtain ⟨t184, A60, H⟩ := H
  replace H : (if t184 = true then (if x11_1 > 0 then (if 0 ≤ (wrap64 (x11_1 - 1)) then (if (wrap64 (x11_1 - 1)) < (l0.length : Int) then (attribute_CheckAttrs.j1 k1 l0 l0 (l0.length : Int) x11_1 (!(Op.bytesLess (((rd_T141 l0 (wrap64 (x11_1 - 1))).f0).toList) (((rd_T141 l0 x11_1).f0).toList))) ((rd_T141 l0 x11_1).f0) ((rd_T141 l0 x11_1).f1.f0) ((rd_T141 l0 x11_1).f1.f1) ((rd_T141 l0 x11_1).f1.f2)) else (none)) else (none)) else (attribute_CheckAttrs.j1 k1 l0 l0 (l0.length : Int) x11_1 false ((rd_T141 l0 x11_1).f0) ((rd_T141 l0 x11_1).f1.f0) ((rd_T141 l0 x11_1).f1.f1) ((rd_T141 l0 x11_1).f1.f2))) else (some 11)) = some r := H
  have A6 := Aside0.mk A60
  clear A60
  by_cases c7 : t184 = true
  rotate_left
  ·replace c7 := Bool.eq_false_iff.mpr c7
   subst c7
   have H1 : (some 11) = some r := by rw [if_neg (show ¬ (false = true) by decide)] at H; exact H
   clear H
   have H := H1
   clear H1
   obtain rfl := Option.some.inj H
   have p182 : 0 ≤ (x11_1 : Int) := of_decide_eq_true qgatt_5
   have q182 : x11_1 < (l0.length : Int) := of_decide_eq_true qgatt_5
   obtain ⟨ad182, e182, hx182_0, hx182_1, hx182_2, hx182_3⟩ := at_T141 HR0.out x11_1 p182 q182
   cases e182
   replace hx182_0 := (HB.out.cell (World.block_lt_of_cell? w _ hx182_0)).trans hx182_0
   replace hx182_1 := (HB.out.cell (World.block_lt_of_cell? w _ hx182_1)).trans hx182_1
   replace hx182_2 := (HB.out.cell (World.block_lt_of_cell? w _ hx182_2)).trans hx182_2
   replace hx182_3 := (HB.out.cell (World.block_lt_of_cell? w _ hx182_3)).trans hx182_3
   replace p182 := eq_true p182
   replace q182 := eq_true q182
   go_wp2_with (first | ((with_reducible refine gate_dst (N := 4) rfl ?_); refine box_event ?hg (N := 4) ?hd (cs := #[.string (⟨#[]⟩ : ByteArray), .int .i64 0, .string (⟨#[]⟩ : ByteArray), .int .i64 0]) (t := 141) ?hr ?_; (case hd => rfl); (case hg => rfl); (case hr => exact qgatt_21); intro gb183 hg w23 hbox hb; have n0_ := Aside0.mk (below_step qgatt_0 hb); have n1_ := Aside0.mk (hbox); have n2_ := Aside0.mk ((by rw [hg]; exact (below_size qgatt_0) : w.heap.size ≤ gb183)); have n3_ := Aside0.mk ((by rw [hg]; exact (below_size qgatt_0) : w.heap.size ≤ gb183)); clear HB; have HB := n0_; have BK183 := n1_; have GW183 := n2_; have GE183 := n3_; clear n0_ n1_ n2_ n3_; clear hb hbox hg; have hcz24_0 : w23.cell? ⟨gb183, 0, none⟩ = some (.string (⟨#[]⟩ : ByteArray)) := (blk_cell BK183.out 0).trans rfl; have hcz24_1 : w23.cell? ⟨gb183, 1, none⟩ = some (.int .i64 0) := (blk_cell BK183.out 1).trans rfl; have hcz24_2 : w23.cell? ⟨gb183, 2, none⟩ = some (.string (⟨#[]⟩ : ByteArray)) := (blk_cell BK183.out 2).trans rfl; have hcz24_3 : w23.cell? ⟨gb183, 3, none⟩ = some (.int .i64 0) := (blk_cell BK183.out 3).trans rfl; have hfz24_0 := blk_frozen BK183.out 0; have hfz24_1 := blk_frozen BK183.out 1; have hfz24_2 := blk_frozen BK183.out 2; have hfz24_3 := blk_frozen BK183.out 3) | (go_at_call 54; (with_reducible refine (attribute_IsName.calls k1 ((rd_T141 l0 x11_1).f0) false _ A6.out).mono ?_); rintro e w' ⟨rfl, ⟨nd, rfl⟩⟩; (try first | exact ⟨rfl, _, World.drewN_drewN _ _ _⟩ | exact ⟨rfl, _, Eq.trans (World.drewN_drewN _ _ _) (congrArg (World.drewN _) (Nat.add_assoc _ _ _))⟩)))
   repeat (go_quiet (first | ((with_reducible refine gate_dst (N := 4) rfl ?_); refine box_event ?hg (N := 4) ?hd (cs := #[.string (⟨#[]⟩ : ByteArray), .int .i64 0, .string (⟨#[]⟩ : ByteArray), .int .i64 0]) (t := 141) ?hr ?_; (case hd => rfl); (case hg => rfl); (case hr => exact qgatt_21); intro gb183 hg w23 hbox hb; have n0_ := Aside0.mk (below_step qgatt_0 hb); have n1_ := Aside0.mk (hbox); have n2_ := Aside0.mk ((by rw [hg]; exact (below_size qgatt_0) : w.heap.size ≤ gb183)); have n3_ := Aside0.mk ((by rw [hg]; exact (below_size qgatt_0) : w.heap.size ≤ gb183)); clear HB; have HB := n0_; have BK183 := n1_; have GW183 := n2_; have GE183 := n3_; clear n0_ n1_ n2_ n3_; clear hb hbox hg; have hcz24_0 : w23.cell? ⟨gb183, 0, none⟩ = some (.string (⟨#[]⟩ : ByteArray)) := (blk_cell BK183.out 0).trans rfl; have hcz24_1 : w23.cell? ⟨gb183, 1, none⟩ = some (.int .i64 0) := (blk_cell BK183.out 1).trans rfl; have hcz24_2 : w23.cell? ⟨gb183, 2, none⟩ = some (.string (⟨#[]⟩ : ByteArray)) := (blk_cell BK183.out 2).trans rfl; have hcz24_3 : w23.cell? ⟨gb183, 3, none⟩ = some (.int .i64 0) := (blk_cell BK183.out 3).trans rfl; have hfz24_0 := blk_frozen BK183.out 0; have hfz24_1 := blk_frozen BK183.out 1; have hfz24_2 := blk_frozen BK183.out 2; have hfz24_3 := blk_frozen BK183.out 3) | (go_at_call 54; (with_reducible refine (attribute_IsName.calls k1 ((rd_T141 l0 x11_1).f0) false _ A6.out).mono ?_); rintro e w' ⟨rfl, ⟨nd, rfl⟩⟩; (try first | exact ⟨rfl, _, World.drewN_drewN _ _ _⟩ | exact ⟨rfl, _, Eq.trans (World.drewN_drewN _ _ _) (congrArg (World.drewN _) (Nat.add_assoc _ _ _))⟩))); try go_wp2_with (first | ((with_reducible refine gate_dst (N := 4) rfl ?_); refine box_event ?hg (N := 4) ?hd (cs := #[.string (⟨#[]⟩ : ByteArray), .int .i64 0, .string (⟨#[]⟩ : ByteArray), .int .i64 0]) (t := 141) ?hr ?_; (case hd => rfl); (case hg => rfl); (case hr => exact qgatt_21); intro gb183 hg w23 hbox hb; have n0_ := Aside0.mk (below_step qgatt_0 hb); have n1_ := Aside0.mk (hbox); have n2_ := Aside0.mk ((by rw [hg]; exact (below_size qgatt_0) : w.heap.size ≤ gb183)); have n3_ := Aside0.mk ((by rw [hg]; exact (below_size qgatt_0) : w.heap.size ≤ gb183)); clear HB; have HB := n0_; have BK183 := n1_; have GW183 := n2_; have GE183 := n3_; clear n0_ n1_ n2_ n3_; clear hb hbox hg; have hcz24_0 : w23.cell? ⟨gb183, 0, none⟩ = some (.string (⟨#[]⟩ : ByteArray)) := (blk_cell BK183.out 0).trans rfl; have hcz24_1 : w23.cell? ⟨gb183, 1, none⟩ = some (.int .i64 0) := (blk_cell BK183.out 1).trans rfl; have hcz24_2 : w23.cell? ⟨gb183, 2, none⟩ = some (.string (⟨#[]⟩ : ByteArray)) := (blk_cell BK183.out 2).trans rfl; have hcz24_3 : w23.cell? ⟨gb183, 3, none⟩ = some (.int .i64 0) := (blk_cell BK183.out 3).trans rfl; have hfz24_0 := blk_frozen BK183.out 0; have hfz24_1 := blk_frozen BK183.out 1; have hfz24_2 := blk_frozen BK183.out 2; have hfz24_3 := blk_frozen BK183.out 3) | (go_at_call 54; (with_reducible refine (attribute_IsName.calls k1 ((rd_T141 l0 x11_1).f0) false _ A6.out).mono ?_); rintro e w' ⟨rfl, ⟨nd, rfl⟩⟩; (try first | exact ⟨rfl, _, World.drewN_drewN _ _ _⟩ | exact ⟨rfl, _, Eq.trans (World.drewN_drewN _ _ _) (congrArg (World.drewN _) (Nat.add_assoc _ _ _))⟩))))
   go_ret
   exact ⟨qgatt_8, qgatt_2⟩
  subst c7
  have H1 : (if x11_1 > 0 then (if 0 ≤ (wrap64 (x11_1 - 1)) then (if (wrap64 (x11_1 - 1)) < (l0.length : Int) then (attribute_CheckAttrs.j1 k1 l0 l0 (l0.length : Int) x11_1 (!(Op.bytesLess (((rd_T141 l0 (wrap64 (x11_1 - 1))).f0).toList) (((rd_T141 l0 x11_1).f0).toList))) ((rd_T141 l0 x11_1).f0) ((rd_T141 l0 x11_1).f1.f0) ((rd_T141 l0 x11_1).f1.f1) ((rd_T141 l0 x11_1).f1.f2)) else (none)) else (none)) else (attribute_CheckAttrs.j1 k1 l0 l0 (l0.length : Int) x11_1 false ((rd_T141 l0 x11_1).f0) ((rd_T141 l0 x11_1).f1.f0) ((rd_T141 l0 x11_1).f1.f1) ((rd_T141 l0 x11_1).f1.f2))) = some r := by rw [if_pos rfl] at H; exact H
  clear H
  have H := H1
  clear H1
  have HC8 := Aside0.mk H
  clear H
  have p182 : 0 ≤ (x11_1 : Int) := of_decide_eq_true qgatt_5
  have q182 : x11_1 < (l0.length : Int) := of_decide_eq_true qgatt_5
  obtain ⟨ad182, e182, hx182_0, hx182_1, hx182_2, hx182_3⟩ := at_T141 HR0.out x11_1 p182 q182
  cases e182
  replace hx182_0 := (HB.out.cell (World.block_lt_of_cell? w _ hx182_0)).trans hx182_0
  replace hx182_1 := (HB.out.cell (World.block_lt_of_cell? w _ hx182_1)).trans hx182_1
  replace hx182_2 := (HB.out.cell (World.block_lt_of_cell? w _ hx182_2)).trans hx182_2
  replace hx182_3 := (HB.out.cell (World.block_lt_of_cell? w _ hx182_3)).trans hx182_3
  replace p182 := eq_true p182
  replace q182 := eq_true q182
  go_upto_region 8 with (first | ((with_reducible refine gate_dst (N := 4) rfl ?_); refine box_event ?hg (N := 4) ?hd (cs := #[.string (⟨#[]⟩ : ByteArray), .int .i64 0, .string (⟨#[]⟩ : ByteArray), .int .i64 0]) (t := 141) ?hr ?_; (case hd => rfl); (case hg => rfl); (case hr => exact qgatt_21); intro gb183 hg w9 hbox hb; have n0_ := Aside0.mk (below_step qgatt_0 hb); have n1_ := Aside0.mk (hbox); have n2_ := Aside0.mk ((by rw [hg]; exact (below_size qgatt_0) : w.heap.size ≤ gb183)); have n3_ := Aside0.mk ((by rw [hg]; exact (below_size qgatt_0) : w.heap.size ≤ gb183)); clear HB; have HB := n0_; have BK183 := n1_; have GW183 := n2_; have GE183 := n3_; clear n0_ n1_ n2_ n3_; clear hb hbox hg; have hcz10_0 : w9.cell? ⟨gb183, 0, none⟩ = some (.string (⟨#[]⟩ : ByteArray)) := (blk_cell BK183.out 0).trans rfl; have hcz10_1 : w9.cell? ⟨gb183, 1, none⟩ = some (.int .i64 0) := (blk_cell BK183.out 1).trans rfl; have hcz10_2 : w9.cell? ⟨gb183, 2, none⟩ = some (.string (⟨#[]⟩ : ByteArray)) := (blk_cell BK183.out 2).trans rfl; have hcz10_3 : w9.cell? ⟨gb183, 3, none⟩ = some (.int .i64 0) := (blk_cell BK183.out 3).trans rfl; have hfz10_0 := blk_frozen BK183.out 0; have hfz10_1 := blk_frozen BK183.out 1; have hfz10_2 := blk_frozen BK183.out 2; have hfz10_3 := blk_frozen BK183.out 3) | (go_at_call 54; (with_reducible refine (attribute_IsName.calls k1 ((rd_T141 l0 x11_1).f0) true _ A6.out).mono ?_); rintro e w' ⟨rfl, ⟨nd, rfl⟩⟩; (try first | exact ⟨rfl, _, World.drewN_drewN _ _ _⟩ | exact ⟨rfl, _, Eq.trans (World.drewN_drewN _ _ _) (congrArg (World.drewN _) (Nat.add_assoc _ _ _))⟩)))
  repeat (go_quiet (first | ((with_reducible refine gate_dst (N := 4) rfl ?_); refine box_event ?hg (N := 4) ?hd (cs := #[.string (⟨#[]⟩ : ByteArray), .int .i64 0, .string (⟨#[]⟩ : ByteArray), .int .i64 0]) (t := 141) ?hr ?_; (case hd => rfl); (case hg => rfl); (case hr => exact qgatt_21); intro gb183 hg w9 hbox hb; have n0_ := Aside0.mk (below_step qgatt_0 hb); have n1_ := Aside0.mk (hbox); have n2_ := Aside0.mk ((by rw [hg]; exact (below_size qgatt_0) : w.heap.size ≤ gb183)); have n3_ := Aside0.mk ((by rw [hg]; exact (below_size qgatt_0) : w.heap.size ≤ gb183)); clear HB; have HB := n0_; have BK183 := n1_; have GW183 := n2_; have GE183 := n3_; clear n0_ n1_ n2_ n3_; clear hb hbox hg; have hcz10_0 : w9.cell? ⟨gb183, 0, none⟩ = some (.string (⟨#[]⟩ : ByteArray)) := (blk_cell BK183.out 0).trans rfl; have hcz10_1 : w9.cell? ⟨gb183, 1, none⟩ = some (.int .i64 0) := (blk_cell BK183.out 1).trans rfl; have hcz10_2 : w9.cell? ⟨gb183, 2, none⟩ = some (.string (⟨#[]⟩ : ByteArray)) := (blk_cell BK183.out 2).trans rfl; have hcz10_3 : w9.cell? ⟨gb183, 3, none⟩ = some (.int .i64 0) := (blk_cell BK183.out 3).trans rfl; have hfz10_0 := blk_frozen BK183.out 0; have hfz10_1 := blk_frozen BK183.out 1; have hfz10_2 := blk_frozen BK183.out 2; have hfz10_3 := blk_frozen BK183.out 3) | (go_at_call 54; (with_reducible refine (attribute_IsName.calls k1 ((rd_T141 l0 x11_1).f0) true _ A6.out).mono ?_); rintro e w' ⟨rfl, ⟨nd, rfl⟩⟩; (try first | exact ⟨rfl, _, World.drewN_drewN _ _ _⟩ | exact ⟨rfl, _, Eq.trans (World.drewN_drewN _ _ _) (congrArg (World.drewN _) (Nat.add_assoc _ _ _))⟩))); go_upto_region 8 with (first | ((with_reducible refine gate_dst (N := 4) rfl ?_); refine box_event ?hg (N := 4) ?hd (cs := #[.string (⟨#[]⟩ : ByteArray), .int .i64 0, .string (⟨#[]⟩ : ByteArray), .int .i64 0]) (t := 141) ?hr ?_; (case hd => rfl); (case hg => rfl); (case hr => exact qgatt_21); intro gb183 hg w9 hbox hb; have n0_ := Aside0.mk (below_step qgatt_0 hb); have n1_ := Aside0.mk (hbox); have n2_ := Aside0.mk ((by rw [hg]; exact (below_size qgatt_0) : w.heap.size ≤ gb183)); have n3_ := Aside0.mk ((by rw [hg]; exact (below_size qgatt_0) : w.heap.size ≤ gb183)); clear HB; have HB := n0_; have BK183 := n1_; have GW183 := n2_; have GE183 := n3_; clear n0_ n1_ n2_ n3_; clear hb hbox hg; have hcz10_0 : w9.cell? ⟨gb183, 0, none⟩ = some (.string (⟨#[]⟩ : ByteArray)) := (blk_cell BK183.out 0).trans rfl; have hcz10_1 : w9.cell? ⟨gb183, 1, none⟩ = some (.int .i64 0) := (blk_cell BK183.out 1).trans rfl; have hcz10_2 : w9.cell? ⟨gb183, 2, none⟩ = some (.string (⟨#[]⟩ : ByteArray)) := (blk_cell BK183.out 2).trans rfl; have hcz10_3 : w9.cell? ⟨gb183, 3, none⟩ = some (.int .i64 0) := (blk_cell BK183.out 3).trans rfl; have hfz10_0 := blk_frozen BK183.out 0; have hfz10_1 := blk_frozen BK183.out 1; have hfz10_2 := blk_frozen BK183.out 2; have hfz10_3 := blk_frozen BK183.out 3) | (go_at_call 54; (with_reducible refine (attribute_IsName.calls k1 ((rd_T141 l0 x11_1).f0) true _ A6.out).mono ?_); rintro e w' ⟨rfl, ⟨nd, rfl⟩⟩; (try first | exact ⟨rfl, _, World.drewN_drewN _ _ _⟩ | exact ⟨rfl, _, Eq.trans (World.drewN_drewN _ _ _) (congrArg (World.drewN _) (Nat.add_assoc _ _ _))⟩))))
  (try simp only [Act.put, List.setIfInBounds_toArray, List.set_cons_zero, List.set_cons_succ])
  go_cut [21] (fun v21 wc => ∃ (kq : Nat) (x21_7 : Bool), v21 = .bool x21_7 ∧ Aside0 (attribute_CheckAttrs.j1 kq l0 l0 (l0.length : Int) x11_1 x21_7 ((rd_T141 l0 x11_1).f0) ((rd_T141 l0 x11_1).f1.f0) ((rd_T141 l0 x11_1).f1.f1) ((rd_T141 l0 x11_1).f1.f2) = some r) ∧ Aside0 (kq ≤ k1) ∧ Aside0 (wc.heap[gb183]? = some (.cells #[.string ((rd_T141 l0 x11_1).f0), .int .i64 ((rd_T141 l0 x11_1).f1.f0), .string ((rd_T141 l0 x11_1).f1.f1), .int .i64 ((rd_T141 l0 x11_1).f1.f2)] 141 (0, 0))) ∧ Aside0 (Below w.heap.size w wc))
  case first =>
   have H := HC8.out
   clear HC8
   by_cases c11 : x11_1 > 0
   rotate_left
   ·rw [if_neg c11] at H
    have c11b0 : decide (0 < x11_1) = false := decide_eq_false c11
    clear c11
    (first | rw [c11b0] | (simp only [i64_w, i32_w]; rw [c11b0]) | skip)
    have H' := Aside0.mk H
    clear H
    go_wp2
    repeat (go_quiet (fail); try go_wp2)
    go_meet
    case rel => exact ⟨_, (false), qgatt_4, H', ⟨qgatt_24⟩, ⟨qgatt_7⟩, ⟨qgatt_2⟩⟩
   rw [if_pos c11] at H
   have c11b0 : decide (0 < x11_1) = true := decide_eq_true c11
   clear c11
   (first | rw [c11b0] | (simp only [i64_w, i32_w]; rw [c11b0]) | skip)
   obtain ⟨ji12, hji12⟩ : ∃ j_ : Int, (wrap64 (x11_1 - 1)) = j_ := ⟨_, rfl⟩
   replace H : (if 0 ≤ (ji12) then (if (ji12) < (l0.length : Int) then (attribute_CheckAttrs.j1 k1 l0 l0 (l0.length : Int) x11_1 (!(Op.bytesLess (((rd_T141 l0 (ji12)).f0).toList) (((rd_T141 l0 x11_1).f0).toList))) ((rd_T141 l0 x11_1).f0) ((rd_T141 l0 x11_1).f1.f0) ((rd_T141 l0 x11_1).f1.f1) ((rd_T141 l0 x11_1).f1.f2)) else (none)) else (none)) = some r := by first | (rw [hji12] at H; exact H) | (simp only [hji12] at H ⊢; exact H)
   have hji12w : (IntKind.i64.wrap (x11_1 - 1)) = ji12 := (i64_w _).trans hji12
   by_cases c13 : 0 ≤ (ji12)
   rotate_left
   ·rw [if_neg c13] at H
    exact absurd H (by simp)
   rw [if_pos c13] at H
   have c13b0 : decide (0 ≤ (ji12)) = true := decide_eq_true c13
   clear c13
   by_cases c14 : (ji12) < (l0.length : Int)
   rotate_left
   ·rw [if_neg c14] at H
    exact absurd H (by simp)
   rw [if_pos c14] at H
   have c14b0 : decide ((ji12) < (l0.length : Int)) = true := decide_eq_true c14
   clear c14
   have H' := Aside0.mk H
   clear H
   have hcz15_0 : w9.cell? ⟨gb183, 0, none⟩ = some (.string (⟨#[]⟩ : ByteArray)) := (blk_cell BK183.out 0).trans rfl
   have hcz15_1 : w9.cell? ⟨gb183, 1, none⟩ = some (.int .i64 0) := (blk_cell BK183.out 1).trans rfl
   have hcz15_2 : w9.cell? ⟨gb183, 2, none⟩ = some (.string (⟨#[]⟩ : ByteArray)) := (blk_cell BK183.out 2).trans rfl
   have hcz15_3 : w9.cell? ⟨gb183, 3, none⟩ = some (.int .i64 0) := (blk_cell BK183.out 3).trans rfl
   have hfz15_0 := blk_frozen BK183.out 0
   have hfz15_1 := blk_frozen BK183.out 1
   have hfz15_2 := blk_frozen BK183.out 2
   have hfz15_3 := blk_frozen BK183.out 3
   have p185 : 0 ≤ ((ji12) : Int) := of_decide_eq_true qgatt_5
   have q185 : (ji12) < (l0.length : Int) := of_decide_eq_true qgatt_5
   obtain ⟨ad185, e185, hx185_0, hx185_1, hx185_2, hx185_3⟩ := at_T141 HR0.out (ji12) p185 q185
   obtain rfl : ad182 = ad185 := (by injection e185)
   have hn185_0 : ad182.block ≠ gb183 := Nat.ne_of_lt (Nat.lt_of_lt_of_le qgatt_20 GW183.out)
   have hn185_1 : ad182.block ≠ gb183 := Nat.ne_of_lt (Nat.lt_of_lt_of_le qgatt_20 GW183.out)
   have hn185_2 : ad182.block ≠ gb183 := Nat.ne_of_lt (Nat.lt_of_lt_of_le qgatt_20 GW183.out)
   have hn185_3 : ad182.block ≠ gb183 := Nat.ne_of_lt (Nat.lt_of_lt_of_le qgatt_20 GW183.out)
   replace hx185_0 := (HB.out.cell (World.block_lt_of_cell? w _ hx185_0)).trans hx185_0
   replace hx185_1 := (HB.out.cell (World.block_lt_of_cell? w _ hx185_1)).trans hx185_1
   replace hx185_2 := (HB.out.cell (World.block_lt_of_cell? w _ hx185_2)).trans hx185_2
   replace hx185_3 := (HB.out.cell (World.block_lt_of_cell? w _ hx185_3)).trans hx185_3
   replace hx185_0 := (cell_far (p := ⟨gb183, 0, none⟩) qgatt_14 (.string ((rd_T141 l0 x11_1).f0))).trans hx185_0
   replace hx185_1 := (cell_far (p := ⟨gb183, 0, none⟩) qgatt_14 (.string ((rd_T141 l0 x11_1).f0))).trans hx185_1
   replace hx185_2 := (cell_far (p := ⟨gb183, 0, none⟩) qgatt_14 (.string ((rd_T141 l0 x11_1).f0))).trans hx185_2
   replace hx185_3 := (cell_far (p := ⟨gb183, 0, none⟩) qgatt_14 (.string ((rd_T141 l0 x11_1).f0))).trans hx185_3
   replace hx185_0 := (cell_far (p := ⟨gb183, 1, none⟩) qgatt_15 (.int .i64 ((rd_T141 l0 x11_1).f1.f0))).trans hx185_0
   replace hx185_1 := (cell_far (p := ⟨gb183, 1, none⟩) qgatt_15 (.int .i64 ((rd_T141 l0 x11_1).f1.f0))).trans hx185_1
   replace hx185_2 := (cell_far (p := ⟨gb183, 1, none⟩) qgatt_15 (.int .i64 ((rd_T141 l0 x11_1).f1.f0))).trans hx185_2
   replace hx185_3 := (cell_far (p := ⟨gb183, 1, none⟩) qgatt_15 (.int .i64 ((rd_T141 l0 x11_1).f1.f0))).trans hx185_3
   replace hx185_0 := (cell_far (p := ⟨gb183, 2, none⟩) qgatt_16 (.string ((rd_T141 l0 x11_1).f1.f1))).trans hx185_0
   replace hx185_1 := (cell_far (p := ⟨gb183, 2, none⟩) qgatt_16 (.string ((rd_T141 l0 x11_1).f1.f1))).trans hx185_1
   replace hx185_2 := (cell_far (p := ⟨gb183, 2, none⟩) qgatt_16 (.string ((rd_T141 l0 x11_1).f1.f1))).trans hx185_2
   replace hx185_3 := (cell_far (p := ⟨gb183, 2, none⟩) qgatt_16 (.string ((rd_T141 l0 x11_1).f1.f1))).trans hx185_3
   replace hx185_0 := (cell_far (p := ⟨gb183, 3, none⟩) qgatt_17 (.int .i64 ((rd_T141 l0 x11_1).f1.f2))).trans hx185_0
   replace hx185_1 := (cell_far (p := ⟨gb183, 3, none⟩) qgatt_17 (.int .i64 ((rd_T141 l0 x11_1).f1.f2))).trans hx185_1
   replace hx185_2 := (cell_far (p := ⟨gb183, 3, none⟩) qgatt_17 (.int .i64 ((rd_T141 l0 x11_1).f1.f2))).trans hx185_2
   replace hx185_3 := (cell_far (p := ⟨gb183, 3, none⟩) qgatt_17 (.int .i64 ((rd_T141 l0 x11_1).f1.f2))).trans hx185_3
   (try have hy185_0 := fun (n_ : Nat) => (show ((((((w9.drewN n_).setCell ⟨gb183, 0, none⟩ (.string ((rd_T141 l0 x11_1).f0))).setCell ⟨gb183, 1, none⟩ (.int .i64 ((rd_T141 l0 x11_1).f1.f0))).setCell ⟨gb183, 2, none⟩ (.string ((rd_T141 l0 x11_1).f1.f1))).setCell ⟨gb183, 3, none⟩ (.int .i64 ((rd_T141 l0 x11_1).f1.f2)))).cell? _ = some _ from hx185_0))
   (try have hy185_1 := fun (n_ : Nat) => (show ((((((w9.drewN n_).setCell ⟨gb183, 0, none⟩ (.string ((rd_T141 l0 x11_1).f0))).setCell ⟨gb183, 1, none⟩ (.int .i64 ((rd_T141 l0 x11_1).f1.f0))).setCell ⟨gb183, 2, none⟩ (.string ((rd_T141 l0 x11_1).f1.f1))).setCell ⟨gb183, 3, none⟩ (.int .i64 ((rd_T141 l0 x11_1).f1.f2)))).cell? _ = some _ from hx185_1))
   (try have hy185_2 := fun (n_ : Nat) => (show ((((((w9.drewN n_).setCell ⟨gb183, 0, none⟩ (.string ((rd_T141 l0 x11_1).f0))).setCell ⟨gb183, 1, none⟩ (.int .i64 ((rd_T141 l0 x11_1).f1.f0))).setCell ⟨gb183, 2, none⟩ (.string ((rd_T141 l0 x11_1).f1.f1))).setCell ⟨gb183, 3, none⟩ (.int .i64 ((rd_T141 l0 x11_1).f1.f2)))).cell? _ = some _ from hx185_2))
   (try have hy185_3 := fun (n_ : Nat) => (show ((((((w9.drewN n_).setCell ⟨gb183, 0, none⟩ (.string ((rd_T141 l0 x11_1).f0))).setCell ⟨gb183, 1, none⟩ (.int .i64 ((rd_T141 l0 x11_1).f1.f0))).setCell ⟨gb183, 2, none⟩ (.string ((rd_T141 l0 x11_1).f1.f1))).setCell ⟨gb183, 3, none⟩ (.int .i64 ((rd_T141 l0 x11_1).f1.f2)))).cell? _ = some _ from hx185_3))
   clear hn185_0
   clear hn185_1
   clear hn185_2
   clear hn185_3
   replace p185 := eq_true p185
   replace q185 := eq_true q185
   go_wp2
   repeat (go_quiet (fail); try go_wp2)
   go_meet
   case rel => exact ⟨_, (!(Op.bytesLess (((rd_T141 l0 (ji12)).f0).toList) (((rd_T141 l0 x11_1).f0).toList))), (by first | rfl | (simp; done) | (simp only [← hji12] <;> (first | rfl | simp)) | (simp [*]; done)), H', ⟨qgatt_24⟩, ⟨qgatt_7⟩, ⟨qgatt_2⟩⟩
  clear HC8
  try clear c1
  try clear p1
  try clear q1
  try clear hx1
  try clear c2
  try clear c2b0
  try clear c2b1
  try clear p2
  try clear c3
  try clear c3b0
  try clear c4
  try clear c4b0
  try clear c5
  try clear c5b0
  try clear p6
  try clear c7
  try clear c11
  try clear c11b0
  try clear c13
  try clear c13b0
  try clear c14
  try clear c14b0
  try clear hcz10_0
  try clear hcz10_1
  try clear hcz10_2
  try clear hcz10_3
  try clear hcz15_0
  try clear hcz15_1
  try clear hcz15_2
  try clear hcz15_3
  try clear hfz10_0
  try clear hfz10_1
  try clear hfz10_2
  try clear hfz10_3
  try clear hfz15_0
  try clear hfz15_1
  try clear hfz15_2
  try clear hfz15_3
  try clear hx182_0
  try clear hx182_1
  try clear hx182_2
  try clear hx182_3
  try clear hx185_0
  try clear hx185_1
  try clear hx185_2
  try clear hx185_3
  try clear p182
  try clear p185
  try clear p2
  try clear q182
  try clear q185
  obtain ⟨kq, x21_7, rfl, HA, HJ7, BK183, HB⟩ := hcut
  cases kq with
  | zero => exact absurd HA.out (by simp [attribute_CheckAttrs.j1])
  | succ kj7 =>
   have H := HA.out
   clear HA
   simp only [attribute_CheckAttrs.j1] at H
   by_cases c16 : x21_7 = true
   ·subst c16
    have H1 : (some 8) = some r := by rw [if_pos rfl] at H; exact H
    clear H
    have H := H1
    clear H1
    obtain rfl := Option.some.inj H
    go_wp2
    repeat (go_quiet (fail); try go_wp2)
    go_ret
    exact ⟨qgatt_8, qgatt_2⟩
   replace c16 := Bool.eq_false_iff.mpr c16
   subst c16
   have H1 : ((attribute_CheckValue.f kj7 ((rd_T141 l0 x11_1).f1.f0) ((rd_T141 l0 x11_1).f1.f1) ((rd_T141 l0 x11_1).f1.f2)).bind fun t186 => (if t186 = 0 then (attribute_CheckAttrs.l0 kj7 l0 l0 (l0.length : Int) (wrap64 (x11_1 + 1))) else (some t186))) = some r := by rw [if_neg (show ¬ (false = true) by decide)] at H; exact H
   clear H
   have H := H1
   clear H1
   replace H := Option.bind_eq_some_iff.mp H
   obtain ⟨t186, A170, H⟩ := H
   replace H : (if t186 = 0 then (attribute_CheckAttrs.l0 kj7 l0 l0 (l0.length : Int) (wrap64 (x11_1 + 1))) else (some t186)) = some r := H
   have A17 := Aside0.mk A170
   clear A170
   by_cases c18 : t186 = 0
   rotate_left
   ·rw [if_neg c18] at H
    have c18b0 : (t186 == 0) = false := beq_eq_false_iff_ne.mpr c18
    have c18b1 : (t186 != 0) = true := bne_iff_ne.mpr c18
    obtain rfl := Option.some.inj H
    have hcz21_0 : wc.cell? ⟨gb183, 0, none⟩ = some (.string ((rd_T141 l0 x11_1).f0)) := (blk_cell BK183.out 0).trans rfl
    have hcz21_1 : wc.cell? ⟨gb183, 1, none⟩ = some (.int .i64 ((rd_T141 l0 x11_1).f1.f0)) := (blk_cell BK183.out 1).trans rfl
    have hcz21_2 : wc.cell? ⟨gb183, 2, none⟩ = some (.string ((rd_T141 l0 x11_1).f1.f1)) := (blk_cell BK183.out 2).trans rfl
    have hcz21_3 : wc.cell? ⟨gb183, 3, none⟩ = some (.int .i64 ((rd_T141 l0 x11_1).f1.f2)) := (blk_cell BK183.out 3).trans rfl
    have hfz21_0 := blk_frozen BK183.out 0
    have hfz21_1 := blk_frozen BK183.out 1
    have hfz21_2 := blk_frozen BK183.out 2
    have hfz21_3 := blk_frozen BK183.out 3
    go_wp2_with (first | (go_at_call 76; (with_reducible refine (attribute_CheckValue.calls kj7 ((rd_T141 l0 x11_1).f1.f0) ((rd_T141 l0 x11_1).f1.f1) ((rd_T141 l0 x11_1).f1.f2) t186 _ A17.out).mono ?_); rintro e w22 ⟨rfl, hb⟩; have n0_ := Aside0.mk (blk_below (g := gb183) (o := .cells #[.string ((rd_T141 l0 x11_1).f0), .int .i64 ((rd_T141 l0 x11_1).f1.f0), .string ((rd_T141 l0 x11_1).f1.f1), .int .i64 ((rd_T141 l0 x11_1).f1.f2)] 141 (0, 0)) qgatt_11 hb); have n1_ := Aside0.mk (below_step qgatt_2 hb); clear BK183; clear HB; have BK183 := n0_; have HB := n1_; clear n0_ n1_; (try clear hb); (try clear hb2); (try clear hk); (try clear hi)))
    repeat (go_quiet (first | (go_at_call 76; (with_reducible refine (attribute_CheckValue.calls kj7 ((rd_T141 l0 x11_1).f1.f0) ((rd_T141 l0 x11_1).f1.f1) ((rd_T141 l0 x11_1).f1.f2) t186 _ A17.out).mono ?_); rintro e w22 ⟨rfl, hb⟩; have n0_ := Aside0.mk (blk_below (g := gb183) (o := .cells #[.string ((rd_T141 l0 x11_1).f0), .int .i64 ((rd_T141 l0 x11_1).f1.f0), .string ((rd_T141 l0 x11_1).f1.f1), .int .i64 ((rd_T141 l0 x11_1).f1.f2)] 141 (0, 0)) qgatt_11 hb); have n1_ := Aside0.mk (below_step qgatt_2 hb); clear BK183; clear HB; have BK183 := n0_; have HB := n1_; clear n0_ n1_; (try clear hb); (try clear hb2); (try clear hk); (try clear hi))); try go_wp2_with (first | (go_at_call 76; (with_reducible refine (attribute_CheckValue.calls kj7 ((rd_T141 l0 x11_1).f1.f0) ((rd_T141 l0 x11_1).f1.f1) ((rd_T141 l0 x11_1).f1.f2) t186 _ A17.out).mono ?_); rintro e w22 ⟨rfl, hb⟩; have n0_ := Aside0.mk (blk_below (g := gb183) (o := .cells #[.string ((rd_T141 l0 x11_1).f0), .int .i64 ((rd_T141 l0 x11_1).f1.f0), .string ((rd_T141 l0 x11_1).f1.f1), .int .i64 ((rd_T141 l0 x11_1).f1.f2)] 141 (0, 0)) qgatt_11 hb); have n1_ := Aside0.mk (below_step qgatt_2 hb); clear BK183; clear HB; have BK183 := n0_; have HB := n1_; clear n0_ n1_; (try clear hb); (try clear hb2); (try clear hk); (try clear hi))))
    go_ret
    exact ⟨qgatt_8, qgatt_2⟩
   rw [if_pos c18] at H
   have c18b0 : (t186 == 0) = true := beq_iff_eq.mpr c18
   have c18b1 : (t186 != 0) = false := bne_eq_false_iff_eq.mpr c18
   clear c18
   have H' := Aside0.mk H
   clear H
   have hcz19_0 : wc.cell? ⟨gb183, 0, none⟩ = some (.string ((rd_T141 l0 x11_1).f0)) := (blk_cell BK183.out 0).trans rfl
   have hcz19_1 : wc.cell? ⟨gb183, 1, none⟩ = some (.int .i64 ((rd_T141 l0 x11_1).f1.f0)) := (blk_cell BK183.out 1).trans rfl
   have hcz19_2 : wc.cell? ⟨gb183, 2, none⟩ = some (.string ((rd_T141 l0 x11_1).f1.f1)) := (blk_cell BK183.out 2).trans rfl
   have hcz19_3 : wc.cell? ⟨gb183, 3, none⟩ = some (.int .i64 ((rd_T141 l0 x11_1).f1.f2)) := (blk_cell BK183.out 3).trans rfl
   have hfz19_0 := blk_frozen BK183.out 0
   have hfz19_1 := blk_frozen BK183.out 1
   have hfz19_2 := blk_frozen BK183.out 2
   have hfz19_3 := blk_frozen BK183.out 3
   go_wp2_with (first | (go_at_call 76; (with_reducible refine (attribute_CheckValue.calls kj7 ((rd_T141 l0 x11_1).f1.f0) ((rd_T141 l0 x11_1).f1.f1) ((rd_T141 l0 x11_1).f1.f2) t186 _ A17.out).mono ?_); rintro e w20 ⟨rfl, hb⟩; have n0_ := Aside0.mk (blk_below (g := gb183) (o := .cells #[.string ((rd_T141 l0 x11_1).f0), .int .i64 ((rd_T141 l0 x11_1).f1.f0), .string ((rd_T141 l0 x11_1).f1.f1), .int .i64 ((rd_T141 l0 x11_1).f1.f2)] 141 (0, 0)) qgatt_11 hb); have n1_ := Aside0.mk (below_step qgatt_2 hb); clear BK183; clear HB; have BK183 := n0_; have HB := n1_; clear n0_ n1_; (try clear hb); (try clear hb2); (try clear hk); (try clear hi)))
   repeat (go_quiet (first | (go_at_call 76; (with_reducible refine (attribute_CheckValue.calls kj7 ((rd_T141 l0 x11_1).f1.f0) ((rd_T141 l0 x11_1).f1.f1) ((rd_T141 l0 x11_1).f1.f2) t186 _ A17.out).mono ?_); rintro e w20 ⟨rfl, hb⟩; have n0_ := Aside0.mk (blk_below (g := gb183) (o := .cells #[.string ((rd_T141 l0 x11_1).f0), .int .i64 ((rd_T141 l0 x11_1).f1.f0), .string ((rd_T141 l0 x11_1).f1.f1), .int .i64 ((rd_T141 l0 x11_1).f1.f2)] 141 (0, 0)) qgatt_11 hb); have n1_ := Aside0.mk (below_step qgatt_2 hb); clear BK183; clear HB; have BK183 := n0_; have HB := n1_; clear n0_ n1_; (try clear hb); (try clear hb2); (try clear hk); (try clear hi))); try go_wp2_with (first | (go_at_call 76; (with_reducible refine (attribute_CheckValue.calls kj7 ((rd_T141 l0 x11_1).f1.f0) ((rd_T141 l0 x11_1).f1.f1) ((rd_T141 l0 x11_1).f1.f2) t186 _ A17.out).mono ?_); rintro e w20 ⟨rfl, hb⟩; have n0_ := Aside0.mk (blk_below (g := gb183) (o := .cells #[.string ((rd_T141 l0 x11_1).f0), .int .i64 ((rd_T141 l0 x11_1).f1.f0), .string ((rd_T141 l0 x11_1).f1.f1), .int .i64 ((rd_T141 l0 x11_1).f1.f2)] 141 (0, 0)) qgatt_11 hb); have n1_ := Aside0.mk (below_step qgatt_2 hb); clear BK183; clear HB; have BK183 := n0_; have HB := n1_; clear n0_ n1_; (try clear hb); (try clear hb2); (try clear hk); (try clear hi))))
   go_roundg kj7
   case measure => have := HK1.out; have := HJ7.out; omega
   case rel => exact ⟨(wrap64 (x11_1 + 1)), qgatt_4, H', ⟨by have := HK1.out; have := HJ7.out; omega⟩, ⟨qgatt_2⟩⟩

/-! ### cmp_isNaN_int: function 79 -/
def cmp_isNaN_int.f (a0 : Int) : Option (Bool) := some (a0 != a0)
set_option maxHeartbeats 8000000 in
set_option maxRecDepth 100000 in
theorem cmp_isNaN_int.calls (a0 : Int) (r : Bool) (w : World) (h : cmp_isNaN_int.f a0 = some r) :
  Calls Try.prog 79 #[.int .i64 a0] w fun e w' => e = .returned (.bool r) ∧ Drawn0 w w' := by
 have H : (some (a0 != a0)) = some r := h
 clear h
 obtain rfl := Option.some.inj H
 go_enter Try.func79, Try.ntmps79
 go_wp2
 go_ret
 exact ⟨qgatt_4, qgatt_9⟩

/-! ### cmp_Compare_int: function 61 -/
def cmp_Compare_int.f (a0 : Int) (a1 : Int) : Option (Int) := (cmp_isNaN_int.f a0).bind fun t187 => ((cmp_isNaN_int.f a1).bind fun t188 => (if t187 = true then (if t188 = true then (some 0) else (some (-1))) else (if t188 = true then (some 1) else (if a0 < a1 then (some (-1)) else (if a0 > a1 then (some 1) else (some 0))))))
set_option maxHeartbeats 8000000 in
set_option maxRecDepth 100000 in
theorem cmp_Compare_int.calls (a0 : Int) (a1 : Int) (r : Int) (w : World) (h : cmp_Compare_int.f a0 a1 = some r) :
  Calls Try.prog 61 #[.int .i64 a0, .int .i64 a1] w fun e w' => e = .returned (.int .i64 r) ∧ Drawn0 w w' := by
 have H : ((cmp_isNaN_int.f a0).bind fun t187 => ((cmp_isNaN_int.f a1).bind fun t188 => (if t187 = true then (if t188 = true then (some 0) else (some (-1))) else (if t188 = true then (some 1) else (if a0 < a1 then (some (-1)) else (if a0 > a1 then (some 1) else (some 0))))))) = some r := h
 clear h
 replace H := Option.bind_eq_some_iff.mp H
 obtain ⟨t187, A30, H⟩ := H
 replace H : ((cmp_isNaN_int.f a1).bind fun t188 => (if t187 = true then (if t188 = true then (some 0) else (some (-1))) else (if t188 = true then (some 1) else (if a0 < a1 then (some (-1)) else (if a0 > a1 then (some 1) else (some 0)))))) = some r := H
 have A3 := Aside0.mk A30
 clear A30
 replace H := Option.bind_eq_some_iff.mp H
 obtain ⟨t188, A40, H⟩ := H
 replace H : (if t187 = true then (if t188 = true then (some 0) else (some (-1))) else (if t188 = true then (some 1) else (if a0 < a1 then (some (-1)) else (if a0 > a1 then (some 1) else (some 0))))) = some r := H
 have A4 := Aside0.mk A40
 clear A40
 by_cases c5 : t187 = true
 ·subst c5
  have H1 : (if t188 = true then (some 0) else (some (-1))) = some r := by rw [if_pos rfl] at H; exact H
  clear H
  have H := H1
  clear H1
  by_cases c6 : t188 = true
  ·subst c6
   have H1 : (some 0) = some r := by rw [if_pos rfl] at H; exact H
   clear H
   have H := H1
   clear H1
   obtain rfl := Option.some.inj H
   go_enter Try.func61, Try.ntmps61
   go_wp2_with (first | ((with_reducible refine gate_callee (f := 79) rfl ?_); refine goesL_ (some 8) rfl rfl Try.func79 (by kernel_rfl) rfl #[.int .i64 a0] rfl qgatt_1 ?_; (with_reducible refine (cmp_isNaN_int.calls a0 true _ A3.out).mono ?_); rintro e w' ⟨rfl, ⟨nd, rfl⟩⟩; refine ⟨_, rfl, ?_⟩) | ((with_reducible refine gate_callee (f := 79) rfl ?_); refine goesL_ (some 10) rfl rfl Try.func79 (by kernel_rfl) rfl #[.int .i64 a1] rfl qgatt_1 ?_; (with_reducible refine (cmp_isNaN_int.calls a1 true _ A4.out).mono ?_); rintro e w' ⟨rfl, ⟨nd, rfl⟩⟩; refine ⟨_, rfl, ?_⟩))
   go_ret
   exact ⟨qgatt_4, qgatt_9⟩
  replace c6 := Bool.eq_false_iff.mpr c6
  subst c6
  have H1 : (some (-1)) = some r := by rw [if_neg (show ¬ (false = true) by decide)] at H; exact H
  clear H
  have H := H1
  clear H1
  obtain rfl := Option.some.inj H
  go_enter Try.func61, Try.ntmps61
  go_wp2_with (first | ((with_reducible refine gate_callee (f := 79) rfl ?_); refine goesL_ (some 8) rfl rfl Try.func79 (by kernel_rfl) rfl #[.int .i64 a0] rfl qgatt_1 ?_; (with_reducible refine (cmp_isNaN_int.calls a0 true _ A3.out).mono ?_); rintro e w' ⟨rfl, ⟨nd, rfl⟩⟩; refine ⟨_, rfl, ?_⟩) | ((with_reducible refine gate_callee (f := 79) rfl ?_); refine goesL_ (some 10) rfl rfl Try.func79 (by kernel_rfl) rfl #[.int .i64 a1] rfl qgatt_1 ?_; (with_reducible refine (cmp_isNaN_int.calls a1 false _ A4.out).mono ?_); rintro e w' ⟨rfl, ⟨nd, rfl⟩⟩; refine ⟨_, rfl, ?_⟩))
  go_ret
  exact ⟨qgatt_4, qgatt_9⟩
 replace c5 := Bool.eq_false_iff.mpr c5
 subst c5
 have H1 : (if t188 = true then (some 1) else (if a0 < a1 then (some (-1)) else (if a0 > a1 then (some 1) else (some 0)))) = some r := by rw [if_neg (show ¬ (false = true) by decide)] at H; exact H
 clear H
 have H := H1
 clear H1
 by_cases c7 : t188 = true
 ·subst c7
  have H1 : (some 1) = some r := by rw [if_pos rfl] at H; exact H
  clear H
  have H := H1
  clear H1
  obtain rfl := Option.some.inj H
  go_enter Try.func61, Try.ntmps61
  go_wp2_with (first | ((with_reducible refine gate_callee (f := 79) rfl ?_); refine goesL_ (some 8) rfl rfl Try.func79 (by kernel_rfl) rfl #[.int .i64 a0] rfl qgatt_1 ?_; (with_reducible refine (cmp_isNaN_int.calls a0 false _ A3.out).mono ?_); rintro e w' ⟨rfl, ⟨nd, rfl⟩⟩; refine ⟨_, rfl, ?_⟩) | ((with_reducible refine gate_callee (f := 79) rfl ?_); refine goesL_ (some 10) rfl rfl Try.func79 (by kernel_rfl) rfl #[.int .i64 a1] rfl qgatt_1 ?_; (with_reducible refine (cmp_isNaN_int.calls a1 true _ A4.out).mono ?_); rintro e w' ⟨rfl, ⟨nd, rfl⟩⟩; refine ⟨_, rfl, ?_⟩))
  go_ret
  exact ⟨qgatt_4, qgatt_9⟩
 replace c7 := Bool.eq_false_iff.mpr c7
 subst c7
 have H1 : (if a0 < a1 then (some (-1)) else (if a0 > a1 then (some 1) else (some 0))) = some r := by rw [if_neg (show ¬ (false = true) by decide)] at H; exact H
 clear H
 have H := H1
 clear H1
 by_cases c8 : a0 < a1
 ·rw [if_pos c8] at H
  have c8b0 : decide (a0 < a1) = true := decide_eq_true c8
  clear c8
  obtain rfl := Option.some.inj H
  go_enter Try.func61, Try.ntmps61
  go_wp2_with (first | ((with_reducible refine gate_callee (f := 79) rfl ?_); refine goesL_ (some 8) rfl rfl Try.func79 (by kernel_rfl) rfl #[.int .i64 a0] rfl qgatt_1 ?_; (with_reducible refine (cmp_isNaN_int.calls a0 false _ A3.out).mono ?_); rintro e w' ⟨rfl, ⟨nd, rfl⟩⟩; refine ⟨_, rfl, ?_⟩) | ((with_reducible refine gate_callee (f := 79) rfl ?_); refine goesL_ (some 10) rfl rfl Try.func79 (by kernel_rfl) rfl #[.int .i64 a1] rfl qgatt_1 ?_; (with_reducible refine (cmp_isNaN_int.calls a1 false _ A4.out).mono ?_); rintro e w' ⟨rfl, ⟨nd, rfl⟩⟩; refine ⟨_, rfl, ?_⟩))
  go_ret
  exact ⟨qgatt_4, qgatt_9⟩
 rw [if_neg c8] at H
 have c8b0 : decide (a0 < a1) = false := decide_eq_false c8
 clear c8
 by_cases c9 : a0 > a1
 ·rw [if_pos c9] at H
  have c9b0 : decide (a1 < a0) = true := decide_eq_true c9
  clear c9
  obtain rfl := Option.some.inj H
  go_enter Try.func61, Try.ntmps61
  go_wp2_with (first | ((with_reducible refine gate_callee (f := 79) rfl ?_); refine goesL_ (some 8) rfl rfl Try.func79 (by kernel_rfl) rfl #[.int .i64 a0] rfl qgatt_1 ?_; (with_reducible refine (cmp_isNaN_int.calls a0 false _ A3.out).mono ?_); rintro e w' ⟨rfl, ⟨nd, rfl⟩⟩; refine ⟨_, rfl, ?_⟩) | ((with_reducible refine gate_callee (f := 79) rfl ?_); refine goesL_ (some 10) rfl rfl Try.func79 (by kernel_rfl) rfl #[.int .i64 a1] rfl qgatt_1 ?_; (with_reducible refine (cmp_isNaN_int.calls a1 false _ A4.out).mono ?_); rintro e w' ⟨rfl, ⟨nd, rfl⟩⟩; refine ⟨_, rfl, ?_⟩))
  go_ret
  exact ⟨qgatt_4, qgatt_9⟩
 rw [if_neg c9] at H
 have c9b0 : decide (a1 < a0) = false := decide_eq_false c9
 clear c9
 obtain rfl := Option.some.inj H
 go_enter Try.func61, Try.ntmps61
 go_wp2_with (first | ((with_reducible refine gate_callee (f := 79) rfl ?_); refine goesL_ (some 8) rfl rfl Try.func79 (by kernel_rfl) rfl #[.int .i64 a0] rfl qgatt_1 ?_; (with_reducible refine (cmp_isNaN_int.calls a0 false _ A3.out).mono ?_); rintro e w' ⟨rfl, ⟨nd, rfl⟩⟩; refine ⟨_, rfl, ?_⟩) | ((with_reducible refine gate_callee (f := 79) rfl ?_); refine goesL_ (some 10) rfl rfl Try.func79 (by kernel_rfl) rfl #[.int .i64 a1] rfl qgatt_1 ?_; (with_reducible refine (cmp_isNaN_int.calls a1 false _ A4.out).mono ?_); rintro e w' ⟨rfl, ⟨nd, rfl⟩⟩; refine ⟨_, rfl, ?_⟩))
 go_ret
 exact ⟨qgatt_4, qgatt_9⟩

/-! ### span_CompareRefs: function 77 -/
def span_CompareRefs.f (k : Nat) (a0_0 : Int) (a0_1 : Int) (a1_0 : Int) (a1_1 : Int) : Option (Int) := (cmp_Compare_int.f a0_0 a1_0).bind fun t191 => ((cmp_Compare_int.f a0_1 a1_1).bind fun t192 => ((cmp_Or_int.f k (([t191, t192] : List Int))).bind fun t196 => (some t196)))
theorem span_CompareRefs.mono : ∀ a0 a1 a2 a3 k, LeO (span_CompareRefs.f k a0 a1 a2 a3) (span_CompareRefs.f (k + 1) a0 a1 a2 a3) := by
 intro a0 a1 a2 a3 k
 unfold span_CompareRefs.f
 repeat' first
   | (with_reducible exact cmp_Or_int.mono _ _)
   | (with_reducible exact LeO.refl _)
   | (with_reducible exact LeO.none _)
   | (with_reducible refine LeO.ite ?_ ?_)
   | (with_reducible refine LeO.bind ?_ (fun _ => ?_))
   | exact cmp_Or_int.mono _ _
   | exact LeO.none _
   | refine LeO.ite ?_ ?_
   | refine LeO.bind ?_ (fun _ => ?_)
def span_CompareRefs.T1 : Bool × List (List Nat × List Nat) := (true, [([], []), ([0], [0]), ([], []), ([2], [2]), ([1, 3], [1, 3]), ([], []), ([5], [5]), ([], []), ([7], [7]), ([6, 8, 4], [6, 8]), ([4, 9], [4, 9]), ([10, 9], [10]), ([11, 11, 0, 1, 2, 3, 4, 5, 6, 7, 8, 9, 10, 11], [11])])
def span_CompareRefs.B1 : List Nat := [0, 1, 0, 4, 15, 0, 32, 0, 128, 511, 1023, 2047, 4095]
theorem span_CompareRefs.tab1 : rtab .any (opsOf Try.f77 1) = span_CompareRefs.T1 := by kernel_rfl
theorem span_CompareRefs.bits1 : waitsOk span_CompareRefs.T1.2 span_CompareRefs.B1 = true := by kernel_rfl
set_option maxHeartbeats 8000000 in
set_option maxRecDepth 100000 in
theorem span_CompareRefs.calls (k : Nat) (a0_0 : Int) (a0_1 : Int) (a1_0 : Int) (a1_1 : Int) (r : Int) (w : World) (h : span_CompareRefs.f k a0_0 a0_1 a1_0 a1_1 = some r) :
  Calls Try.prog 77 #[.agg #[.int .i64 a0_0, .int .i64 a0_1], .agg #[.int .i64 a1_0, .int .i64 a1_1]] w fun e w' => e = .returned (.int .i64 r) ∧ Below w.heap.size w w' := by
 have hu146 := Try.underlying146
 have HB := Aside0.mk (Below.refl w.heap.size w)
 have H : ((cmp_Compare_int.f a0_0 a1_0).bind fun t191 => ((cmp_Compare_int.f a0_1 a1_1).bind fun t192 => ((cmp_Or_int.f k (([t191, t192] : List Int))).bind fun t196 => (some t196)))) = some r := h
 clear h
 replace H := Option.bind_eq_some_iff.mp H
 obtain ⟨t191, A30, H⟩ := H
 replace H : ((cmp_Compare_int.f a0_1 a1_1).bind fun t192 => ((cmp_Or_int.f k (([t191, t192] : List Int))).bind fun t196 => (some t196))) = some r := H
 have A3 := Aside0.mk A30
 clear A30
 replace H := Option.bind_eq_some_iff.mp H
 obtain ⟨t192, A40, H⟩ := H
 replace H : ((cmp_Or_int.f k (([t191, t192] : List Int))).bind fun t196 => (some t196)) = some r := H
 have A4 := Aside0.mk A40
 clear A40
 obtain ⟨y193, hy193⟩ : ∃ y_ : List Int, y_ = (([t191, t192] : List Int)) := ⟨_, rfl⟩
 replace H : ((cmp_Or_int.f k y193).bind fun t196 => (some t196)) = some r := by first | (rw [hy193]; with_reducible exact H) | (have H2_ := (Option.bind_some _ _).symm.trans H; rw [hy193]; with_reducible exact H2_) | (have H2_ := (Option.bind_some _ _).symm.trans H; with_reducible exact H2_) | with_reducible exact H | (rw [hy193]; exact H) | exact H
 have Ny193 := Aside0.mk hy193
 clear hy193
 replace H := Option.bind_eq_some_iff.mp H
 obtain ⟨t196, A50, H⟩ := H
 replace H : (some t196) = some r := H
 have A5 := Aside0.mk A50
 clear A50
 obtain rfl := Option.some.inj H
 go_enter Try.func77, Try.ntmps77
 try go_wp2_with (first | ((with_reducible refine gate_dst (N := 2) rfl ?_); refine box_event ?hg (N := 2) ?hd (cs := #[.int .i64 a0_0, .int .i64 a0_1]) (t := 146) ?hr ?_; (case hd => rfl); (case hg => rfl); (case hr => exact qgatt_21); intro gb189 hg w6 hbox hb; have n0_ := Aside0.mk (below_step qgatt_0 hb); have n1_ := Aside0.mk (hbox); have n2_ := Aside0.mk ((by rw [hg]; exact (below_size qgatt_0) : w.heap.size ≤ gb189)); have n3_ := Aside0.mk ((by rw [hg]; exact (below_size qgatt_0) : w.heap.size ≤ gb189)); clear HB; have HB := n0_; have BK189 := n1_; have GW189 := n2_; have GE189 := n3_; clear n0_ n1_ n2_ n3_; clear hb hbox hg) | ((with_reducible refine gate_dst (N := 3) rfl ?_); refine box_event ?hg (N := 3) ?hd (cs := #[.int .i64 a1_0, .int .i64 a1_1]) (t := 146) ?hr ?_; (case hd => rfl); (case hg => rfl); (case hr => exact qgatt_21); intro gb190 hg w7 hbox hb; have n0_ := Aside0.mk (blk_below (g := gb189) (o := .cells #[.int .i64 a0_0, .int .i64 a0_1] 146 (0, 0)) qgatt_18 hb); have n1_ := Aside0.mk (below_step qgatt_19 hb); have n2_ := Aside0.mk (hbox); have n3_ := Aside0.mk ((by rw [hg]; exact (below_size qgatt_19) : w.heap.size ≤ gb190)); have n4_ := Aside0.mk ((by rw [hg]; exact (below_size qgatt_19) : w.heap.size ≤ gb190)); have n5_ := Aside0.mk ((by rw [hg]; exact Nat.ne_of_lt (blk_lt (g := gb189) (o := .cells #[.int .i64 a0_0, .int .i64 a0_1] 146 (0, 0)) qgatt_18) : gb189 ≠ gb190)); have n6_ := Aside0.mk ((by rw [hg]; exact Nat.ne_of_gt (blk_lt (g := gb189) (o := .cells #[.int .i64 a0_0, .int .i64 a0_1] 146 (0, 0)) qgatt_18) : gb190 ≠ gb189)); clear BK189; clear HB; have BK189 := n0_; have HB := n1_; have BK190 := n2_; have GW190 := n3_; have GE190 := n4_; have NB189_190 := n5_; have NB190_189 := n6_; clear n0_ n1_ n2_ n3_ n4_ n5_ n6_; clear hb hbox hg))
 have n0_ := Aside0.mk (blk_drew BK189.out)
 have n1_ := Aside0.mk (blk_drew BK190.out)
 have n2_ := Aside0.mk (below_drew1 HB.out)
 clear BK189
 clear BK190
 clear HB
 have BK189 := n0_
 have BK190 := n1_
 have HB := n2_
 clear n0_ n1_ n2_
 refine start_ (n := 13) (S := fun w' => w'.cell? ⟨gb189, 0, none⟩ = some (.int .i64 a0_0) ∧ w'.cell? ⟨gb189, 1, none⟩ = some (.int .i64 a0_1) ∧ w'.cell? ⟨gb190, 0, none⟩ = some (.int .i64 a1_0) ∧ w'.cell? ⟨gb190, 1, none⟩ = some (.int .i64 a1_1)) (ds := []) #[F3372, F3372, F3372, F3372, F3372, F3372, F3372, F3372, F3372, F3372, F3372, F3372, F3372] (by kernel_rfl) rfl rfl ⟨(blk_cell BK189.out 0).trans rfl, (blk_cell BK189.out 1).trans rfl, (blk_cell BK190.out 0).trans rfl, (blk_cell BK190.out 1).trans rfl⟩ (fun hHeld => ?_); refine with_tabW span_CompareRefs.tab1 span_CompareRefs.bits1 (fun HT_ HW_ => ?_)
 generalize w7.drew = w8 at BK189 BK190 HB hHeld ⊢
 refine pure_ (i := 0) (N := some 5) (v := ?_) (a' := ?_) #[T3372, F3372, F3372, F3372, F3372, F3372, F3372, F3372, F3372, F3372, F3372, F3372, F3372] rfl rfl (any_of HT_.out (by kernel_rfl)) (fun _ _ _ h => h) (Or.inl ⟨by rfl, ?_⟩) ?_ ?_
 rotate_left
 ·intro w'
  go_simp
  with_reducible rfl
 rotate_left
 ·simp only [Act.put, List.setIfInBounds_toArray, List.set_cons_zero, List.set_cons_succ, i64_w, i32_w]
  rfl
 refine pure_ (i := 2) (N := some 7) (v := ?_) (a' := ?_) #[T3372, F3372, T3372, F3372, F3372, F3372, F3372, F3372, F3372, F3372, F3372, F3372, F3372] rfl rfl (any_of HT_.out (by kernel_rfl)) (fun _ _ _ h => h) (Or.inl ⟨by rfl, ?_⟩) ?_ ?_
 rotate_left
 ·intro w'
  go_simp
  with_reducible rfl
 rotate_left
 ·simp only [Act.put, List.setIfInBounds_toArray, List.set_cons_zero, List.set_cons_succ, i64_w, i32_w]
  rfl
 refine pure_ (i := 5) (N := some 10) (v := ?_) (a' := ?_) #[T3372, F3372, T3372, F3372, F3372, T3372, F3372, F3372, F3372, F3372, F3372, F3372, F3372] rfl rfl (any_of HT_.out (by kernel_rfl)) (fun _ _ _ h => h) (Or.inl ⟨by rfl, ?_⟩) ?_ ?_
 rotate_left
 ·intro w'
  go_simp
  with_reducible rfl
 rotate_left
 ·simp only [Act.put, List.setIfInBounds_toArray, List.set_cons_zero, List.set_cons_succ, i64_w, i32_w]
  rfl
 refine pure_ (i := 7) (N := some 12) (v := ?_) (a' := ?_) #[T3372, F3372, T3372, F3372, F3372, T3372, F3372, T3372, F3372, F3372, F3372, F3372, F3372] rfl rfl (any_of HT_.out (by kernel_rfl)) (fun _ _ _ h => h) (Or.inl ⟨by rfl, ?_⟩) ?_ ?_
 rotate_left
 ·intro w'
  go_simp
  with_reducible rfl
 rotate_left
 ·simp only [Act.put, List.setIfInBounds_toArray, List.set_cons_zero, List.set_cons_succ, i64_w, i32_w]
  rfl
 refine take_ (i := 1) (N := some 6) (v := ?_) (a' := ?_) #[T3372, T3372, T3372, F3372, F3372, T3372, F3372, T3372, F3372, F3372, F3372, F3372, F3372] rfl rfl (take_ofW HT_.out HW_.out (by kernel_rfl)) (fun _ _ _ h => h) (Or.inl ⟨by rfl, ?_⟩) hHeld ?_ ?_
 rotate_left
 ·rintro w' ⟨s0, s1, s2, s3⟩
  go_simp
  with_reducible rfl
 rotate_left
 ·simp only [Act.put, List.setIfInBounds_toArray, List.set_cons_zero, List.set_cons_succ, i64_w, i32_w]
  rfl
 refine take_ (i := 3) (N := some 8) (v := ?_) (a' := ?_) #[T3372, T3372, T3372, T3372, F3372, T3372, F3372, T3372, F3372, F3372, F3372, F3372, F3372] rfl rfl (take_ofW HT_.out HW_.out (by kernel_rfl)) (fun _ _ _ h => h) (Or.inl ⟨by rfl, ?_⟩) hHeld ?_ ?_
 rotate_left
 ·rintro w' ⟨s0, s1, s2, s3⟩
  go_simp
  with_reducible rfl
 rotate_left
 ·simp only [Act.put, List.setIfInBounds_toArray, List.set_cons_zero, List.set_cons_succ, i64_w, i32_w]
  rfl
 refine take_ (i := 6) (N := some 11) (v := ?_) (a' := ?_) #[T3372, T3372, T3372, T3372, F3372, T3372, T3372, T3372, F3372, F3372, F3372, F3372, F3372] rfl rfl (take_ofW HT_.out HW_.out (by kernel_rfl)) (fun _ _ _ h => h) (Or.inl ⟨by rfl, ?_⟩) hHeld ?_ ?_
 rotate_left
 ·rintro w' ⟨s0, s1, s2, s3⟩
  go_simp
  with_reducible rfl
 rotate_left
 ·simp only [Act.put, List.setIfInBounds_toArray, List.set_cons_zero, List.set_cons_succ, i64_w, i32_w]
  rfl
 refine take_ (i := 8) (N := some 13) (v := ?_) (a' := ?_) #[T3372, T3372, T3372, T3372, F3372, T3372, T3372, T3372, T3372, F3372, F3372, F3372, F3372] rfl rfl (take_ofW HT_.out HW_.out (by kernel_rfl)) (fun _ _ _ h => h) (Or.inl ⟨by rfl, ?_⟩) hHeld ?_ ?_
 rotate_left
 ·rintro w' ⟨s0, s1, s2, s3⟩
  go_simp
  with_reducible rfl
 rotate_left
 ·simp only [Act.put, List.setIfInBounds_toArray, List.set_cons_zero, List.set_cons_succ, i64_w, i32_w]
  rfl
 refine one_ (i := 4) (N := some 9) #[T3372, T3372, T3372, T3372, T3372, T3372, T3372, T3372, T3372, F3372, F3372, F3372, F3372] rfl rfl (one_of HT_.out (by kernel_rfl)) (by decide) (fun K hK => ?_)
 refine goes_ Try.func61 (by kernel_rfl) rfl #[.int .i64 a0_0, .int .i64 a1_0] (by rfl) rfl rfl qgatt_1 ?_
 with_reducible refine (cmp_Compare_int.calls a0_0 a1_0 t191 _ A3.out).mono ?_
 rintro e w' ⟨rfl, ⟨nd, rfl⟩⟩
 refine ⟨_, rfl, ?_⟩
 refine hK.out _ _ ⟨(blk_cell BK189.out 0).trans rfl, (blk_cell BK189.out 1).trans rfl, (blk_cell BK190.out 0).trans rfl, (blk_cell BK190.out 1).trans rfl⟩ (fun hHeld => ?_)
 clear hK K
 refine norm_ (a' := ?_) ?_ ?_
 rotate_left
 ·show Act.put _ (some 9) _ = _
  simp only [Act.put, List.setIfInBounds_toArray, List.set_cons_zero, List.set_cons_succ, i64_w, i32_w]
  rfl
 refine one_ (i := 9) (N := some 14) #[T3372, T3372, T3372, T3372, T3372, T3372, T3372, T3372, T3372, T3372, F3372, F3372, F3372] rfl rfl (one_of HT_.out (by kernel_rfl)) (by decide) (fun K hK => ?_)
 refine goes_ Try.func61 (by kernel_rfl) rfl #[.int .i64 a0_1, .int .i64 a1_1] (by rfl) rfl rfl qgatt_1 ?_
 with_reducible refine (cmp_Compare_int.calls a0_1 a1_1 t192 _ A4.out).mono ?_
 rintro e w' ⟨rfl, ⟨nd, rfl⟩⟩
 refine ⟨_, rfl, ?_⟩
 refine hK.out _ _ ⟨(blk_cell BK189.out 0).trans rfl, (blk_cell BK189.out 1).trans rfl, (blk_cell BK190.out 0).trans rfl, (blk_cell BK190.out 1).trans rfl⟩ (fun hHeld => ?_)
 clear hK K
 refine norm_ (a' := ?_) ?_ ?_
 rotate_left
 ·show Act.put _ (some 14) _ = _
  simp only [Act.put, List.setIfInBounds_toArray, List.set_cons_zero, List.set_cons_succ, i64_w, i32_w]
  rfl
 refine one_ (i := 10) (N := some 15) #[T3372, T3372, T3372, T3372, T3372, T3372, T3372, T3372, T3372, T3372, T3372, F3372, F3372] rfl rfl (one_of HT_.out (by kernel_rfl)) (by decide) (fun K hK => ?_)
 refine Kd.R_lit_step (Kd.int .i64) _ 3 ?hg (N := 15) ?hd (xs := ([t191, t192] : List Int)) (inner := [.int .i64 t191, .int .i64 t192]) (ok := fun _ => True) (okp := fun _ => True) ?hr ?hp (fun _ hk => hk) trivial (Below.refl _ _) (Nat.le_refl _) (by simp) ?_; (case hd => rfl); (case hg => rfl); (case hr => exact qgatt_21); (case hp => exact (Reps.one (show Kd.M (Kd.int .i64) _ _ _ t191 [.int .i64 t191] from rfl) (Reps.one (show Kd.M (Kd.int .i64) _ _ _ t192 [.int .i64 t192] from rfl) (Reps.none _ _))))
 intro v194 w9 ho10 hb hg_ hnew_
 clear hg_ hnew_
 (first | rw [← Ny193.out] at ho10 | (simp only [Int.reduceToNat] at ho10; rw [← Ny193.out] at ho10))
 have n0_ := Aside0.mk (Kd.R_lower ho10 (below_size qgatt_13))
 have n1_ := Aside0.mk (blk_below (g := gb189) (o := .cells #[.int .i64 a0_0, .int .i64 a0_1] 146 (0, 0)) qgatt_18 hb)
 have n2_ := Aside0.mk (blk_below (g := gb190) (o := .cells #[.int .i64 a1_0, .int .i64 a1_1] 146 (0, 0)) (by (with_reducible repeat (first | refine blk_drewN ?_ _ | refine blk_drew ?_ | refine blk_alloc ?_ _)); exact BK190.out) hb)
 have n3_ := Aside0.mk (below_step qgatt_13 hb)
 clear BK189
 clear BK190
 clear HB
 have HO195 := n0_
 have BK189 := n1_
 have BK190 := n2_
 have HB := n3_
 clear n0_ n1_ n2_ n3_
 clear hb ho10
 obtain ⟨Ao11, co11, eo11⟩ := Kd.R_slice HO195.out
 (first | subst eo11 | (injection eo11 with f1_ f2_ f3_; have f4_ := f1_.symm; have f5_ := f3_.symm; clear f1_ f2_ f3_; subst f4_; subst f5_))
 refine hK.out _ _ ⟨(blk_cell BK189.out 0).trans rfl, (blk_cell BK189.out 1).trans rfl, (blk_cell BK190.out 0).trans rfl, (blk_cell BK190.out 1).trans rfl⟩ (fun hHeld => ?_)
 clear hK K
 refine norm_ (a' := ?_) ?_ ?_
 rotate_left
 ·show Act.put _ (some 15) _ = _
  simp only [Act.put, List.setIfInBounds_toArray, List.set_cons_zero, List.set_cons_succ, i64_w, i32_w]
  rfl
 refine one_ (i := 11) (N := some 16) #[T3372, T3372, T3372, T3372, T3372, T3372, T3372, T3372, T3372, T3372, T3372, T3372, F3372] rfl rfl (one_of HT_.out (by kernel_rfl)) (by decide) (fun K hK => ?_)
 refine goes_ Try.func81 (by kernel_rfl) rfl #[.slice Ao11 y193.length co11] (by rfl) rfl rfl qgatt_1 ?_
 with_reducible refine (cmp_Or_int.calls k _ _ y193 t196 _ ?side1 ?side2 A5.out).mono ?_
 (case side1 => repeat (first | exact (Kd.R_reads' HO195.out).2.2 | (with_reducible refine Kd.C_alloc ?_ _) | (with_reducible refine Kd.C_drewN ?_ _) | (with_reducible refine Kd.C_drew ?_)))
 (case side2 => exact (Kd.R_reads' HO195.out).2.1)
 rintro e w' ⟨rfl, ⟨nd, rfl⟩⟩
 refine ⟨_, rfl, ?_⟩
 refine hK.out _ _ ⟨(blk_cell BK189.out 0).trans rfl, (blk_cell BK189.out 1).trans rfl, (blk_cell BK190.out 0).trans rfl, (blk_cell BK190.out 1).trans rfl⟩ (fun hHeld => ?_)
 clear hK K
 refine norm_ (a' := ?_) ?_ ?_
 rotate_left
 ·show Act.put _ (some 16) _ = _
  simp only [Act.put, List.setIfInBounds_toArray, List.set_cons_zero, List.set_cons_succ, i64_w, i32_w]
  rfl
 refine pure_ (i := 12) (N := some 4) (v := ?_) (a' := ?_) #[T3372, T3372, T3372, T3372, T3372, T3372, T3372, T3372, T3372, T3372, T3372, T3372, T3372] rfl rfl (any_of HT_.out (by kernel_rfl)) (fun _ _ _ h => h) (Or.inl ⟨by rfl, ?_⟩) ?_ ?_
 rotate_left
 ·intro w'
  go_simp
  with_reducible rfl
 rotate_left
 ·simp only [Act.put, List.setIfInBounds_toArray, List.set_cons_zero, List.set_cons_succ, i64_w, i32_w]
  rfl
 refine done_ (done_of HT_.out (by kernel_rfl)) ?_
 try go_wp2
 go_ret
 exact ⟨qgatt_8, qgatt_13⟩

/-! ### span_checkLinks: function 57 -/
mutual
def span_checkLinks.l0 : Nat → List (S146) → List (S146) → Int → Int → Option (Int)
 | 0, _, _, _, _ => none
 | k + 1, x0, x8, x9, x10 => if x10 < x9 then (if 0 ≤ x10 then (if x10 < (x8.length : Int) then ((span_badId.f ((rd_T146 x8 x10).f0)).bind fun t199 => (if t199 = true then (span_checkLinks.j1 k x0 x10 x8 x9 x10 true ((rd_T146 x8 x10).f0) ((rd_T146 x8 x10).f1)) else ((span_badId.f ((rd_T146 x8 x10).f1)).bind fun t200 => (span_checkLinks.j1 k x0 x10 x8 x9 x10 t200 ((rd_T146 x8 x10).f0) ((rd_T146 x8 x10).f1))))) else (none)) else (none)) else (some 0)
def span_checkLinks.j1 : Nat → List (S146) → Int → List (S146) → Int → Int → Bool → Int → Int → Option (Int)
 | 0, _, _, _, _, _, _, _, _ => none
 | k + 1, x0, x3, x8, x9, x10, x15, x199000, x199001 => if x15 = true then (some 2) else (if x3 > 0 then (if 0 ≤ (wrap64 (x3 - 1)) then (if (wrap64 (x3 - 1)) < (x0.length : Int) then ((span_CompareRefs.f k ((rd_T146 x0 (wrap64 (x3 - 1))).f0) ((rd_T146 x0 (wrap64 (x3 - 1))).f1) x199000 x199001).bind fun t202 => (if t202 ≥ 0 then (some 8) else (span_checkLinks.l0 k x0 x8 x9 (wrap64 (x10 + 1))))) else (none)) else (none)) else (span_checkLinks.l0 k x0 x8 x9 (wrap64 (x10 + 1))))
end
def span_checkLinks.f (k : Nat) (l0 : List (S146)) : Option (Int) := if (l0.length : Int) > 16 then (some 6) else (span_checkLinks.l0 k l0 l0 (l0.length : Int) 0)
theorem span_checkLinks.mono_l : ∀ k, (∀ y0 y1 y2 y3, LeO (span_checkLinks.l0 k y0 y1 y2 y3) (span_checkLinks.l0 (k + 1) y0 y1 y2 y3)) ∧ (∀ y0 y1 y2 y3 y4 y5 y6 y7, LeO (span_checkLinks.j1 k y0 y1 y2 y3 y4 y5 y6 y7) (span_checkLinks.j1 (k + 1) y0 y1 y2 y3 y4 y5 y6 y7))
 | 0 => ⟨fun _ _ _ _ r h => by simp [span_checkLinks.l0] at h, fun _ _ _ _ _ _ _ _ r h => by simp [span_checkLinks.j1] at h⟩
 | k + 1 => by
  obtain ⟨ih0, ih1⟩ := span_checkLinks.mono_l k
  refine ⟨?_, ?_⟩
  ·intro y0 y1 y2 y3
   unfold span_checkLinks.l0
   repeat' first
   | (with_reducible exact ih0 _ _ _ _)
   | (with_reducible exact ih1 _ _ _ _ _ _ _ _)
   | (with_reducible exact span_CompareRefs.mono _ _ _ _ _)
   | (with_reducible exact LeO.refl _)
   | (with_reducible exact LeO.none _)
   | (with_reducible refine LeO.ite ?_ ?_)
   | (with_reducible refine LeO.bind ?_ (fun _ => ?_))
   | exact ih0 _ _ _ _
   | exact ih1 _ _ _ _ _ _ _ _
   | exact span_CompareRefs.mono _ _ _ _ _
   | exact LeO.none _
   | refine LeO.ite ?_ ?_
   | refine LeO.bind ?_ (fun _ => ?_)
  ·intro y0 y1 y2 y3 y4 y5 y6 y7
   unfold span_checkLinks.j1
   repeat' first
   | (with_reducible exact ih0 _ _ _ _)
   | (with_reducible exact ih1 _ _ _ _ _ _ _ _)
   | (with_reducible exact span_CompareRefs.mono _ _ _ _ _)
   | (with_reducible exact LeO.refl _)
   | (with_reducible exact LeO.none _)
   | (with_reducible refine LeO.ite ?_ ?_)
   | (with_reducible refine LeO.bind ?_ (fun _ => ?_))
   | exact ih0 _ _ _ _
   | exact ih1 _ _ _ _ _ _ _ _
   | exact span_CompareRefs.mono _ _ _ _ _
   | exact LeO.none _
   | refine LeO.ite ?_ ?_
   | refine LeO.bind ?_ (fun _ => ?_)
theorem span_checkLinks.mono : ∀ a0 k, LeO (span_checkLinks.f k a0) (span_checkLinks.f (k + 1) a0) := by
 intro a0 k
 obtain ⟨ih0, ih1⟩ := span_checkLinks.mono_l k
 unfold span_checkLinks.f
 repeat' first
   | (with_reducible exact ih0 _ _ _ _)
   | (with_reducible exact ih1 _ _ _ _ _ _ _ _)
   | (with_reducible exact span_CompareRefs.mono _ _ _ _ _)
   | (with_reducible exact LeO.refl _)
   | (with_reducible exact LeO.none _)
   | (with_reducible refine LeO.ite ?_ ?_)
   | (with_reducible refine LeO.bind ?_ (fun _ => ?_))
   | exact ih0 _ _ _ _
   | exact ih1 _ _ _ _ _ _ _ _
   | exact span_CompareRefs.mono _ _ _ _ _
   | exact LeO.none _
   | refine LeO.ite ?_ ?_
   | refine LeO.bind ?_ (fun _ => ?_)
def span_checkLinks.T8 : Bool × List (List Nat × List Nat) := (true, [([], []), ([0], [0]), ([1], [1]), ([2], [2]), ([2], [2]), ([4, 2], [2, 4]), ([3, 5, 2], [2, 3, 5]), ([6, 2], [2, 6]), ([2], [2]), ([7, 8, 2, 2], [2, 7, 8]), ([9, 2], [2, 9]), ([2, 10], [2, 10]), ([11, 9], [11])])
def span_checkLinks.B8 : List Nat := [0, 1, 3, 7, 7, 23, 63, 127, 7, 511, 1023, 2047, 4095]
theorem span_checkLinks.tab8 : rtab .any (opsOf Try.f57 8) = span_checkLinks.T8 := by kernel_rfl
theorem span_checkLinks.bits8 : waitsOk span_checkLinks.T8.2 span_checkLinks.B8 = true := by kernel_rfl
set_option maxHeartbeats 8000000 in
set_option maxRecDepth 100000 in
theorem span_checkLinks.calls (k : Nat) (A0 : Option Addr) (c0 : Nat) (l0 : List (S146)) (r : Int) (w : World) (hr0 : Kd.C k146 w A0 l0.length l0) (hc0 : l0.length ≤ c0) (h : span_checkLinks.f k l0 = some r) :
  Calls Try.prog 57 #[.slice A0 l0.length c0] w fun e w' => e = .returned (.int .i64 r) ∧ Below w.heap.size w w' := by
 have hu146 := Try.underlying146
 have HR0 := Aside0.mk hr0
 have HC0 := Aside0.mk hc0
 clear hr0 hc0
 have HB := Aside0.mk (Below.refl w.heap.size w)
 have H : (if (l0.length : Int) > 16 then (some 6) else (span_checkLinks.l0 k l0 l0 (l0.length : Int) 0)) = some r := h
 clear h
 by_cases c2 : (l0.length : Int) > 16
 ·rw [if_pos c2] at H
  have c2b0 : decide (16 < (l0.length : Int)) = true := decide_eq_true c2
  have c2b1 : decide (16 < l0.length) = true := decide_eq_true (by omega)
  clear c2
  obtain rfl := Option.some.inj H
  go_enter Try.func57, Try.ntmps57
  go_wp2
  go_ret
  exact ⟨qgatt_8, qgatt_0⟩
 rw [if_neg c2] at H
 have c2b0 : decide (16 < (l0.length : Int)) = false := decide_eq_false c2
 have c2b1 : decide (16 < l0.length) = false := decide_eq_false (by omega)
 clear c2
 have H' := Aside0.mk H
 clear H
 go_enter Try.func57, Try.ntmps57
 go_wp2
 go_loopg [10] k (fun kq v10 w' => ∃ (x10_1 : Int), v10 = .int .i64 x10_1 ∧ Aside0 (span_checkLinks.l0 kq l0 l0 (l0.length : Int) x10_1 = some r) ∧ Aside0 (kq ≤ k) ∧ Aside0 (Below w.heap.size w w'))
 case atStart => exact ⟨(0), qgatt_4, H', ⟨Nat.le_refl _⟩, ⟨qgatt_0⟩⟩
 clear H'
 try clear c2
 try clear c2b0
 try clear c2b1
 try clear p2
 obtain ⟨x10_1, rfl, HA, HK1, HB⟩ := hrel
 cases gk with
 | zero => exact absurd HA.out (by simp [span_checkLinks.l0])
 | succ k1 =>
  have H := HA.out
  clear HA
  simp only [span_checkLinks.l0] at H
  by_cases c3 : x10_1 < (l0.length : Int)
  rotate_left
  ·rw [if_neg c3] at H
   have c3b0 : decide (x10_1 < (l0.length : Int)) = false := decide_eq_false c3
   clear c3
   obtain rfl := Option.some.inj H
   go_wp2
   go_ret
   exact ⟨qgatt_8, qgatt_0⟩
  rw [if_pos c3] at H
  have c3b0 : decide (x10_1 < (l0.length : Int)) = true := decide_eq_true c3
  clear c3
  by_cases c4 : 0 ≤ x10_1
  rotate_left
  ·rw [if_neg c4] at H
   exact absurd H (by simp)
  rw [if_pos c4] at H
  have c4b0 : decide (0 ≤ x10_1) = true := decide_eq_true c4
  clear c4
  by_cases c5 : x10_1 < (l0.length : Int)
  rotate_left
  ·rw [if_neg c5] at H
   exact absurd H (by simp)
  rw [if_pos c5] at H
  have c5b0 : decide (x10_1 < (l0.length : Int)) = true := decide_eq_true c5
  clear c5
  have HC6 := Aside0.mk H
  clear H
  have p197 : 0 ≤ (x10_1 : Int) := of_decide_eq_true qgatt_5
  have q197 : x10_1 < (l0.length : Int) := of_decide_eq_true qgatt_5
  obtain ⟨ad197, e197, hx197_0, hx197_1⟩ := at_T146 HR0.out x10_1 p197 q197
  cases e197
  replace hx197_0 := (HB.out.cell (World.block_lt_of_cell? w _ hx197_0)).trans hx197_0
  replace hx197_1 := (HB.out.cell (World.block_lt_of_cell? w _ hx197_1)).trans hx197_1
  replace p197 := eq_true p197
  replace q197 := eq_true q197
  go_upto_region 6 with (first | ((with_reducible refine gate_dst (N := 4) rfl ?_); refine box_event ?hg (N := 4) ?hd (cs := #[.int .i64 0, .int .i64 0]) (t := 146) ?hr ?_; (case hd => rfl); (case hg => rfl); (case hr => exact qgatt_21); intro gb198 hg w7 hbox hb; have n0_ := Aside0.mk (below_step qgatt_0 hb); have n1_ := Aside0.mk (hbox); have n2_ := Aside0.mk ((by rw [hg]; exact (below_size qgatt_0) : w.heap.size ≤ gb198)); have n3_ := Aside0.mk ((by rw [hg]; exact (below_size qgatt_0) : w.heap.size ≤ gb198)); clear HB; have HB := n0_; have BK198 := n1_; have GW198 := n2_; have GE198 := n3_; clear n0_ n1_ n2_ n3_; clear hb hbox hg; have hcz8_0 : w7.cell? ⟨gb198, 0, none⟩ = some (.int .i64 0) := (blk_cell BK198.out 0).trans rfl; have hcz8_1 : w7.cell? ⟨gb198, 1, none⟩ = some (.int .i64 0) := (blk_cell BK198.out 1).trans rfl; have hfz8_0 := blk_frozen BK198.out 0; have hfz8_1 := blk_frozen BK198.out 1))
  (try simp only [Act.put, List.setIfInBounds_toArray, List.set_cons_zero, List.set_cons_succ])
  go_cut [15] (fun v15 wc => ∃ (kq : Nat) (x15_5 : Bool), v15 = .bool x15_5 ∧ Aside0 (span_checkLinks.j1 kq l0 x10_1 l0 (l0.length : Int) x10_1 x15_5 ((rd_T146 l0 x10_1).f0) ((rd_T146 l0 x10_1).f1) = some r) ∧ Aside0 (kq ≤ k1) ∧ Aside0 (wc.heap[gb198]? = some (.cells #[.int .i64 ((rd_T146 l0 x10_1).f0), .int .i64 ((rd_T146 l0 x10_1).f1)] 146 (0, 0))) ∧ Aside0 (Below w.heap.size w wc))
  case first =>
   have H := HC6.out
   clear HC6
   replace H := Option.bind_eq_some_iff.mp H
   obtain ⟨t199, A90, H⟩ := H
   replace H : (if t199 = true then (span_checkLinks.j1 k1 l0 x10_1 l0 (l0.length : Int) x10_1 true ((rd_T146 l0 x10_1).f0) ((rd_T146 l0 x10_1).f1)) else ((span_badId.f ((rd_T146 l0 x10_1).f1)).bind fun t200 => (span_checkLinks.j1 k1 l0 x10_1 l0 (l0.length : Int) x10_1 t200 ((rd_T146 l0 x10_1).f0) ((rd_T146 l0 x10_1).f1)))) = some r := H
   have A9 := Aside0.mk A90
   clear A90
   by_cases c10 : t199 = true
   ·subst c10
    have H1 : (span_checkLinks.j1 k1 l0 x10_1 l0 (l0.length : Int) x10_1 true ((rd_T146 l0 x10_1).f0) ((rd_T146 l0 x10_1).f1)) = some r := by rw [if_pos rfl] at H; exact H
    clear H
    have H := H1
    clear H1
    have H' := Aside0.mk H
    clear H
    have hcz11_0 : w7.cell? ⟨gb198, 0, none⟩ = some (.int .i64 0) := (blk_cell BK198.out 0).trans rfl
    have hcz11_1 : w7.cell? ⟨gb198, 1, none⟩ = some (.int .i64 0) := (blk_cell BK198.out 1).trans rfl
    have hfz11_0 := blk_frozen BK198.out 0
    have hfz11_1 := blk_frozen BK198.out 1
    go_wp2_with (first | ((with_reducible refine gate_callee (f := 53) rfl ?_); refine goesL_ (some 18) rfl rfl Try.func53 (by kernel_rfl) rfl #[.int .i64 ((rd_T146 l0 x10_1).f0)] rfl qgatt_1 ?_; (with_reducible refine (span_badId.calls ((rd_T146 l0 x10_1).f0) true _ A9.out).mono ?_); rintro e w' ⟨rfl, ⟨nd, rfl⟩⟩; refine ⟨_, rfl, ?_⟩))
    go_meet
    case rel => exact ⟨_, (true), qgatt_4, H', ⟨qgatt_24⟩, ⟨qgatt_12⟩, ⟨qgatt_6⟩⟩
   replace c10 := Bool.eq_false_iff.mpr c10
   subst c10
   have H1 : ((span_badId.f ((rd_T146 l0 x10_1).f1)).bind fun t200 => (span_checkLinks.j1 k1 l0 x10_1 l0 (l0.length : Int) x10_1 t200 ((rd_T146 l0 x10_1).f0) ((rd_T146 l0 x10_1).f1))) = some r := by rw [if_neg (show ¬ (false = true) by decide)] at H; exact H
   clear H
   have H := H1
   clear H1
   replace H := Option.bind_eq_some_iff.mp H
   obtain ⟨t200, A120, H⟩ := H
   replace H : (span_checkLinks.j1 k1 l0 x10_1 l0 (l0.length : Int) x10_1 t200 ((rd_T146 l0 x10_1).f0) ((rd_T146 l0 x10_1).f1)) = some r := H
   have A12 := Aside0.mk A120
   clear A120
   have H' := Aside0.mk H
   clear H
   have hcz13_0 : w7.cell? ⟨gb198, 0, none⟩ = some (.int .i64 0) := (blk_cell BK198.out 0).trans rfl
   have hcz13_1 : w7.cell? ⟨gb198, 1, none⟩ = some (.int .i64 0) := (blk_cell BK198.out 1).trans rfl
   have hfz13_0 := blk_frozen BK198.out 0
   have hfz13_1 := blk_frozen BK198.out 1
   go_wp2_with (first | ((with_reducible refine gate_callee (f := 53) rfl ?_); refine goesL_ (some 18) rfl rfl Try.func53 (by kernel_rfl) rfl #[.int .i64 ((rd_T146 l0 x10_1).f0)] rfl qgatt_1 ?_; (with_reducible refine (span_badId.calls ((rd_T146 l0 x10_1).f0) false _ A9.out).mono ?_); rintro e w' ⟨rfl, ⟨nd, rfl⟩⟩; refine ⟨_, rfl, ?_⟩) | (go_at_call 53; (with_reducible refine (span_badId.calls ((rd_T146 l0 x10_1).f1) t200 _ A12.out).mono ?_); rintro e w' ⟨rfl, ⟨nd, rfl⟩⟩))
   go_meet
   case rel => exact ⟨_, (t200), qgatt_4, H', ⟨qgatt_24⟩, ⟨qgatt_12⟩, ⟨qgatt_6⟩⟩
  clear HC6
  try clear c1
  try clear p1
  try clear q1
  try clear hx1
  try clear c2
  try clear c2b0
  try clear c2b1
  try clear p2
  try clear c3
  try clear c3b0
  try clear c4
  try clear c4b0
  try clear c5
  try clear c5b0
  try clear c10
  try clear hcz11_0
  try clear hcz11_1
  try clear hcz13_0
  try clear hcz13_1
  try clear hcz8_0
  try clear hcz8_1
  try clear hfz11_0
  try clear hfz11_1
  try clear hfz13_0
  try clear hfz13_1
  try clear hfz8_0
  try clear hfz8_1
  try clear hx197_0
  try clear hx197_1
  try clear p197
  try clear p2
  try clear q197
  obtain ⟨kq, x15_5, rfl, HA, HJ5, BK198, HB⟩ := hcut
  cases kq with
  | zero => exact absurd HA.out (by simp [span_checkLinks.j1])
  | succ kj5 =>
   have H := HA.out
   clear HA
   simp only [span_checkLinks.j1] at H
   by_cases c14 : x15_5 = true
   ·subst c14
    have H1 : (some 2) = some r := by rw [if_pos rfl] at H; exact H
    clear H
    have H := H1
    clear H1
    obtain rfl := Option.some.inj H
    go_wp2
    go_ret
    exact ⟨qgatt_8, qgatt_6⟩
   replace c14 := Bool.eq_false_iff.mpr c14
   subst c14
   have H1 : (if x10_1 > 0 then (if 0 ≤ (wrap64 (x10_1 - 1)) then (if (wrap64 (x10_1 - 1)) < (l0.length : Int) then ((span_CompareRefs.f kj5 ((rd_T146 l0 (wrap64 (x10_1 - 1))).f0) ((rd_T146 l0 (wrap64 (x10_1 - 1))).f1) ((rd_T146 l0 x10_1).f0) ((rd_T146 l0 x10_1).f1)).bind fun t202 => (if t202 ≥ 0 then (some 8) else (span_checkLinks.l0 kj5 l0 l0 (l0.length : Int) (wrap64 (x10_1 + 1))))) else (none)) else (none)) else (span_checkLinks.l0 kj5 l0 l0 (l0.length : Int) (wrap64 (x10_1 + 1)))) = some r := by rw [if_neg (show ¬ (false = true) by decide)] at H; exact H
   clear H
   have H := H1
   clear H1
   by_cases c15 : x10_1 > 0
   rotate_left
   ·rw [if_neg c15] at H
    have c15b0 : decide (0 < x10_1) = false := decide_eq_false c15
    clear c15
    have H' := Aside0.mk H
    clear H
    try go_wp2
    have n0_ := Aside0.mk (blk_drew BK198.out)
    have n1_ := Aside0.mk (below_drew1 HB.out)
    clear BK198
    clear HB
    have BK198 := n0_
    have HB := n1_
    clear n0_ n1_
    refine start_ (n := 13) (S := fun w' => True) (ds := []) #[F3372, F3372, F3372, F3372, F3372, F3372, F3372, F3372, F3372, F3372, F3372, F3372, F3372] (by kernel_rfl) rfl rfl trivial (fun hHeld => ?_); refine with_tabW span_checkLinks.tab8 span_checkLinks.bits8 (fun HT_ HW_ => ?_)
    generalize wc.drew = w25 at BK198 HB hHeld ⊢
    refine pure_ (i := 0) (N := some 25) (v := ?_) (a' := ?_) #[T3372, F3372, F3372, F3372, F3372, F3372, F3372, F3372, F3372, F3372, F3372, F3372, F3372] rfl rfl (any_of HT_.out (by kernel_rfl)) (fun _ _ _ h => h) (Or.inl ⟨by rfl, ?_⟩) ?_ ?_
    rotate_left
    ·intro w'
     go_simp
     with_reducible rfl
    rotate_left
    ·simp only [Act.put, List.setIfInBounds_toArray, List.set_cons_zero, List.set_cons_succ, i64_w, i32_w]
     rfl
    refine pure_ (i := 1) (N := some 26) (v := ?_) (a' := ?_) #[T3372, T3372, F3372, F3372, F3372, F3372, F3372, F3372, F3372, F3372, F3372, F3372, F3372] rfl rfl (any_of HT_.out (by kernel_rfl)) (fun _ _ _ h => h) (Or.inl ⟨by rfl, ?_⟩) ?_ ?_
    rotate_left
    ·intro w'
     go_simp
     with_reducible rfl
    rotate_left
    ·simp only [Act.put, List.setIfInBounds_toArray, List.set_cons_zero, List.set_cons_succ, i64_w, i32_w]
     rfl
    refine pure_ (i := 2) (N := some 27) (v := ?_) (a' := ?_) #[T3372, T3372, T3372, F3372, F3372, F3372, F3372, F3372, F3372, F3372, F3372, F3372, F3372] rfl rfl (any_of HT_.out (by kernel_rfl)) (fun _ _ _ h => h) (Or.inl ⟨by rfl, ?_⟩) ?_ ?_
    rotate_left
    ·intro w'
     go_simp
     with_reducible rfl
    rotate_left
    ·simp only [Act.put, List.setIfInBounds_toArray, List.set_cons_zero, List.set_cons_succ, i64_w, i32_w]
     rfl
    refine pure_ (i := 3) (N := some 28) (v := undef) (a' := ?_) #[T3372, T3372, T3372, T3372, F3372, F3372, F3372, F3372, F3372, F3372, F3372, F3372, F3372] rfl rfl (any_of HT_.out (by kernel_rfl)) (fun _ _ _ h => h) (Or.inr ⟨by rfl, rfl⟩) ?_ ?_
    rotate_left
    ·simp only [Act.put, List.setIfInBounds_toArray, List.set_cons_zero, List.set_cons_succ, i64_w, i32_w]
     rfl
    refine pure_ (i := 4) (N := some 29) (v := undef) (a' := ?_) #[T3372, T3372, T3372, T3372, T3372, F3372, F3372, F3372, F3372, F3372, F3372, F3372, F3372] rfl rfl (any_of HT_.out (by kernel_rfl)) (fun _ _ _ h => h) (Or.inr ⟨by rfl, rfl⟩) ?_ ?_
    rotate_left
    ·simp only [Act.put, List.setIfInBounds_toArray, List.set_cons_zero, List.set_cons_succ, i64_w, i32_w]
     rfl
    refine pure_ (i := 5) (N := some 30) (v := undef) (a' := ?_) #[T3372, T3372, T3372, T3372, T3372, T3372, F3372, F3372, F3372, F3372, F3372, F3372, F3372] rfl rfl (any_of HT_.out (by kernel_rfl)) (fun _ _ _ h => h) (Or.inr ⟨by rfl, rfl⟩) ?_ ?_
    rotate_left
    ·simp only [Act.put, List.setIfInBounds_toArray, List.set_cons_zero, List.set_cons_succ, i64_w, i32_w]
     rfl
    refine pure_ (i := 6) (N := some 31) (v := undef) (a' := ?_) #[T3372, T3372, T3372, T3372, T3372, T3372, T3372, F3372, F3372, F3372, F3372, F3372, F3372] rfl rfl (any_of HT_.out (by kernel_rfl)) (fun _ _ _ h => h) (Or.inr ⟨by rfl, rfl⟩) ?_ ?_
    rotate_left
    ·simp only [Act.put, List.setIfInBounds_toArray, List.set_cons_zero, List.set_cons_succ, i64_w, i32_w]
     rfl
    refine pure_ (i := 7) (N := some 32) (v := undef) (a' := ?_) #[T3372, T3372, T3372, T3372, T3372, T3372, T3372, T3372, F3372, F3372, F3372, F3372, F3372] rfl rfl (any_of HT_.out (by kernel_rfl)) (fun _ _ _ h => h) (Or.inr ⟨by rfl, rfl⟩) ?_ ?_
    rotate_left
    ·simp only [Act.put, List.setIfInBounds_toArray, List.set_cons_zero, List.set_cons_succ, i64_w, i32_w]
     rfl
    refine pure_ (i := 8) (N := some 33) (v := undef) (a' := ?_) #[T3372, T3372, T3372, T3372, T3372, T3372, T3372, T3372, T3372, F3372, F3372, F3372, F3372] rfl rfl (any_of HT_.out (by kernel_rfl)) (fun _ _ _ h => h) (Or.inr ⟨by rfl, rfl⟩) ?_ ?_
    rotate_left
    ·simp only [Act.put, List.setIfInBounds_toArray, List.set_cons_zero, List.set_cons_succ, i64_w, i32_w]
     rfl
    refine pure_ (i := 9) (N := some 34) (v := undef) (a' := ?_) #[T3372, T3372, T3372, T3372, T3372, T3372, T3372, T3372, T3372, T3372, F3372, F3372, F3372] rfl rfl (any_of HT_.out (by kernel_rfl)) (fun _ _ _ h => h) (Or.inr ⟨by rfl, rfl⟩) ?_ ?_
    rotate_left
    ·simp only [Act.put, List.setIfInBounds_toArray, List.set_cons_zero, List.set_cons_succ, i64_w, i32_w]
     rfl
    refine pure_ (i := 10) (N := some 35) (v := undef) (a' := ?_) #[T3372, T3372, T3372, T3372, T3372, T3372, T3372, T3372, T3372, T3372, T3372, F3372, F3372] rfl rfl (any_of HT_.out (by kernel_rfl)) (fun _ _ _ h => h) (Or.inr ⟨by rfl, rfl⟩) ?_ ?_
    rotate_left
    ·simp only [Act.put, List.setIfInBounds_toArray, List.set_cons_zero, List.set_cons_succ, i64_w, i32_w]
     rfl
    refine pure_ (i := 11) (N := some 36) (v := ?_) (a' := ?_) #[T3372, T3372, T3372, T3372, T3372, T3372, T3372, T3372, T3372, T3372, T3372, T3372, F3372] rfl rfl (any_of HT_.out (by kernel_rfl)) (fun _ _ _ h => h) (Or.inl ⟨by rfl, ?_⟩) ?_ ?_
    rotate_left
    ·intro w'
     go_simp
     with_reducible rfl
    rotate_left
    ·simp only [Act.put, List.setIfInBounds_toArray, List.set_cons_zero, List.set_cons_succ, i64_w, i32_w]
     rfl
    refine pure_ (i := 12) (N := some 24) (v := ?_) (a' := ?_) #[T3372, T3372, T3372, T3372, T3372, T3372, T3372, T3372, T3372, T3372, T3372, T3372, T3372] rfl rfl (any_of HT_.out (by kernel_rfl)) (fun _ _ _ h => h) (Or.inl ⟨by rfl, ?_⟩) ?_ ?_
    rotate_left
    ·intro w'
     go_simp
     with_reducible rfl
    rotate_left
    ·simp only [Act.put, List.setIfInBounds_toArray, List.set_cons_zero, List.set_cons_succ, i64_w, i32_w]
     rfl
    refine done_ (done_of HT_.out (by kernel_rfl)) ?_
    try go_wp2
    go_roundg kj5
    case measure => have := HK1.out; have := HJ5.out; omega
    case rel => exact ⟨(wrap64 (x10_1 + 1)), qgatt_4, H', ⟨by have := HK1.out; have := HJ5.out; omega⟩, ⟨qgatt_6⟩⟩
   rw [if_pos c15] at H
   have c15b0 : decide (0 < x10_1) = true := decide_eq_true c15
   clear c15
   obtain ⟨ji16, hji16⟩ : ∃ j_ : Int, (wrap64 (x10_1 - 1)) = j_ := ⟨_, rfl⟩
   replace H : (if 0 ≤ (ji16) then (if (ji16) < (l0.length : Int) then ((span_CompareRefs.f kj5 ((rd_T146 l0 (ji16)).f0) ((rd_T146 l0 (ji16)).f1) ((rd_T146 l0 x10_1).f0) ((rd_T146 l0 x10_1).f1)).bind fun t202 => (if t202 ≥ 0 then (some 8) else (span_checkLinks.l0 kj5 l0 l0 (l0.length : Int) (wrap64 (x10_1 + 1))))) else (none)) else (none)) = some r := by first | (rw [hji16] at H; exact H) | (simp only [hji16] at H ⊢; exact H)
   have hji16w : (IntKind.i64.wrap (x10_1 - 1)) = ji16 := (i64_w _).trans hji16
   by_cases c17 : 0 ≤ (ji16)
   rotate_left
   ·rw [if_neg c17] at H
    exact absurd H (by simp)
   rw [if_pos c17] at H
   have c17b0 : decide (0 ≤ (ji16)) = true := decide_eq_true c17
   clear c17
   by_cases c18 : (ji16) < (l0.length : Int)
   rotate_left
   ·rw [if_neg c18] at H
    exact absurd H (by simp)
   rw [if_pos c18] at H
   have c18b0 : decide ((ji16) < (l0.length : Int)) = true := decide_eq_true c18
   clear c18
   replace H := Option.bind_eq_some_iff.mp H
   obtain ⟨t202, A190, H⟩ := H
   replace H : (if t202 ≥ 0 then (some 8) else (span_checkLinks.l0 kj5 l0 l0 (l0.length : Int) (wrap64 (x10_1 + 1)))) = some r := H
   have A19 := Aside0.mk A190
   clear A190
   by_cases c20 : t202 ≥ 0
   ·rw [if_pos c20] at H
    have c20b0 : decide (0 ≤ t202) = true := decide_eq_true c20
    clear c20
    obtain rfl := Option.some.inj H
    try go_wp2
    have n0_ := Aside0.mk (blk_drew BK198.out)
    have n1_ := Aside0.mk (below_drew1 HB.out)
    clear BK198
    clear HB
    have BK198 := n0_
    have HB := n1_
    clear n0_ n1_
    have p201 : 0 ≤ ((ji16) : Int) := of_decide_eq_true qgatt_5
    have q201 : (ji16) < (l0.length : Int) := of_decide_eq_true qgatt_5
    obtain ⟨ad201, e201, hx201_0, hx201_1⟩ := at_T146 HR0.out (ji16) p201 q201
    have hw201_1 := hx201_1
    have hw201_0 := hx201_0
    obtain rfl : ad197 = ad201 := (by injection e201)
    replace hx201_0 := (HB.out.cell (World.block_lt_of_cell? w _ hx201_0)).trans hx201_0
    replace hx201_1 := (HB.out.cell (World.block_lt_of_cell? w _ hx201_1)).trans hx201_1
    replace p201 := eq_true p201
    replace q201 := eq_true q201
    refine start_ (n := 13) (S := fun w' => w'.cell? ⟨gb198, 0, none⟩ = some (.int .i64 ((rd_T146 l0 x10_1).f0)) ∧ w'.cell? ⟨gb198, 1, none⟩ = some (.int .i64 ((rd_T146 l0 x10_1).f1)) ∧ w'.cell? (ad197.add (((ji16)).toNat * 2)) = some (.int .i64 ((rd_T146 l0 (ji16)).f0)) ∧ w'.cell? ⟨(ad197.add (((ji16)).toNat * 2)).block, (ad197.add (((ji16)).toNat * 2)).off + 1, none⟩ = some (.int .i64 ((rd_T146 l0 (ji16)).f1))) (ds := []) #[F3372, F3372, F3372, F3372, F3372, F3372, F3372, F3372, F3372, F3372, F3372, F3372, F3372] (by kernel_rfl) rfl rfl ⟨(blk_cell BK198.out 0).trans rfl, (blk_cell BK198.out 1).trans rfl, ((HB.out.cell (World.block_lt_of_cell? w _ hw201_0)).trans hw201_0), ((HB.out.cell (World.block_lt_of_cell? w _ hw201_1)).trans hw201_1)⟩ (fun hHeld => ?_); refine with_tabW span_checkLinks.tab8 span_checkLinks.bits8 (fun HT_ HW_ => ?_)
    generalize wc.drew = w21 at BK198 HB hx201_0 hx201_1 hHeld ⊢
    refine pure_ (i := 0) (N := some 25) (v := ?_) (a' := ?_) #[T3372, F3372, F3372, F3372, F3372, F3372, F3372, F3372, F3372, F3372, F3372, F3372, F3372] rfl rfl (any_of HT_.out (by kernel_rfl)) (fun _ _ _ h => h) (Or.inl ⟨by rfl, ?_⟩) ?_ ?_
    rotate_left
    ·intro w'
     go_simp
     with_reducible rfl
    rotate_left
    ·simp only [Act.put, List.setIfInBounds_toArray, List.set_cons_zero, List.set_cons_succ, i64_w, i32_w]
     rfl
    refine pure_ (i := 1) (N := some 26) (v := ?_) (a' := ?_) #[T3372, T3372, F3372, F3372, F3372, F3372, F3372, F3372, F3372, F3372, F3372, F3372, F3372] rfl rfl (any_of HT_.out (by kernel_rfl)) (fun _ _ _ h => h) (Or.inl ⟨by rfl, ?_⟩) ?_ ?_
    rotate_left
    ·intro w'
     go_simp
     with_reducible rfl
    rotate_left
    ·simp only [Act.put, List.setIfInBounds_toArray, List.set_cons_zero, List.set_cons_succ, i64_w, i32_w]
     rfl
    refine pure_ (i := 2) (N := some 27) (v := ?_) (a' := ?_) #[T3372, T3372, T3372, F3372, F3372, F3372, F3372, F3372, F3372, F3372, F3372, F3372, F3372] rfl rfl (any_of HT_.out (by kernel_rfl)) (fun _ _ _ h => h) (Or.inl ⟨by rfl, ?_⟩) ?_ ?_
    rotate_left
    ·intro w'
     go_simp
     with_reducible rfl
    rotate_left
    ·simp only [Act.put, List.setIfInBounds_toArray, List.set_cons_zero, List.set_cons_succ, i64_w, i32_w]
     rfl
    refine pure_ (i := 3) (N := some 28) (v := ?_) (a' := ?_) #[T3372, T3372, T3372, T3372, F3372, F3372, F3372, F3372, F3372, F3372, F3372, F3372, F3372] rfl rfl (any_of HT_.out (by kernel_rfl)) (fun _ _ _ h => h) (Or.inl ⟨by rfl, ?_⟩) ?_ ?_
    rotate_left
    ·intro w'
     go_simp
     with_reducible rfl
    rotate_left
    ·simp only [Act.put, List.setIfInBounds_toArray, List.set_cons_zero, List.set_cons_succ, i64_w, i32_w]
     rfl
    refine pure_ (i := 4) (N := some 29) (v := ?_) (a' := ?_) #[T3372, T3372, T3372, T3372, T3372, F3372, F3372, F3372, F3372, F3372, F3372, F3372, F3372] rfl rfl (any_of HT_.out (by kernel_rfl)) (fun _ _ _ h => h) (Or.inl ⟨by rfl, ?_⟩) ?_ ?_
    rotate_left
    ·intro w'
     go_simp
     with_reducible rfl
    rotate_left
    ·simp only [Act.put, List.setIfInBounds_toArray, List.set_cons_zero, List.set_cons_succ, i64_w, i32_w]
     rfl
    refine pure_ (i := 5) (N := some 30) (v := ?_) (a' := ?_) #[T3372, T3372, T3372, T3372, T3372, T3372, F3372, F3372, F3372, F3372, F3372, F3372, F3372] rfl rfl (any_of HT_.out (by kernel_rfl)) (fun _ _ _ h => h) (Or.inl ⟨by rfl, ?_⟩) ?_ ?_
    rotate_left
    ·intro w'
     go_simp
     with_reducible rfl
    rotate_left
    ·simp only [Act.put, List.setIfInBounds_toArray, List.set_cons_zero, List.set_cons_succ, i64_w, i32_w]
     rfl
    refine pure_ (i := 6) (N := some 31) (v := ?_) (a' := ?_) #[T3372, T3372, T3372, T3372, T3372, T3372, T3372, F3372, F3372, F3372, F3372, F3372, F3372] rfl rfl (any_of HT_.out (by kernel_rfl)) (fun _ _ _ h => h) (Or.inl ⟨by rfl, ?_⟩) ?_ ?_
    rotate_left
    ·intro w'
     go_simp
     with_reducible rfl
    rotate_left
    ·simp only [Act.put, List.setIfInBounds_toArray, List.set_cons_zero, List.set_cons_succ, i64_w, i32_w]
     rfl
    refine take_ (i := 7) (N := some 32) (v := ?_) (a' := ?_) #[T3372, T3372, T3372, T3372, T3372, T3372, T3372, T3372, F3372, F3372, F3372, F3372, F3372] rfl rfl (take_ofW HT_.out HW_.out (by kernel_rfl)) (fun _ _ _ h => h) (Or.inl ⟨by rfl, ?_⟩) hHeld ?_ ?_
    rotate_left
    ·rintro w' ⟨s0, s1, s2, s3⟩
     go_simp
     with_reducible rfl
    rotate_left
    ·simp only [Act.put, List.setIfInBounds_toArray, List.set_cons_zero, List.set_cons_succ, i64_w, i32_w]
     rfl
    refine take_ (i := 8) (N := some 33) (v := ?_) (a' := ?_) #[T3372, T3372, T3372, T3372, T3372, T3372, T3372, T3372, T3372, F3372, F3372, F3372, F3372] rfl rfl (take_ofW HT_.out HW_.out (by kernel_rfl)) (fun _ _ _ h => h) (Or.inl ⟨by rfl, ?_⟩) hHeld ?_ ?_
    rotate_left
    ·rintro w' ⟨s0, s1, s2, s3⟩
     go_simp
     with_reducible rfl
    rotate_left
    ·simp only [Act.put, List.setIfInBounds_toArray, List.set_cons_zero, List.set_cons_succ, i64_w, i32_w]
     rfl
    refine one_ (i := 9) (N := some 34) #[T3372, T3372, T3372, T3372, T3372, T3372, T3372, T3372, T3372, T3372, F3372, F3372, F3372] rfl rfl (one_of HT_.out (by kernel_rfl)) (by decide) (fun K hK => ?_)
    refine goes_ Try.func77 (by kernel_rfl) rfl #[.agg #[.int .i64 ((rd_T146 l0 (ji16)).f0), .int .i64 ((rd_T146 l0 (ji16)).f1)], .agg #[.int .i64 ((rd_T146 l0 x10_1).f0), .int .i64 ((rd_T146 l0 x10_1).f1)]] (by rfl) rfl rfl qgatt_23 ?_
    with_reducible refine (span_CompareRefs.calls kj5 ((rd_T146 l0 (ji16)).f0) ((rd_T146 l0 (ji16)).f1) ((rd_T146 l0 x10_1).f0) ((rd_T146 l0 x10_1).f1) t202 _ A19.out).mono ?_
    rintro e w22 ⟨rfl, hb⟩
    refine ⟨_, rfl, ?_⟩
    have n0_ := Aside0.mk (blk_below (g := gb198) (o := .cells #[.int .i64 ((rd_T146 l0 x10_1).f0), .int .i64 ((rd_T146 l0 x10_1).f1)] 146 (0, 0)) (by (with_reducible repeat (first | refine blk_drewN ?_ _ | refine blk_drew ?_ | refine blk_alloc ?_ _)); exact BK198.out) hb)
    have n1_ := Aside0.mk (below_step qgatt_6 hb)
    clear BK198
    clear HB
    have BK198 := n0_
    have HB := n1_
    clear n0_ n1_
    (try clear hb)
    (try clear hb2)
    (try clear hk)
    (try clear hi)
    refine hK.out _ _ ⟨(blk_cell BK198.out 0).trans rfl, (blk_cell BK198.out 1).trans rfl, ((HB.out.cell (World.block_lt_of_cell? w _ hw201_0)).trans hw201_0), ((HB.out.cell (World.block_lt_of_cell? w _ hw201_1)).trans hw201_1)⟩ (fun hHeld => ?_)
    clear hK K
    refine norm_ (a' := ?_) ?_ ?_
    rotate_left
    ·show Act.put _ (some 34) _ = _
     simp only [Act.put, List.setIfInBounds_toArray, List.set_cons_zero, List.set_cons_succ, i64_w, i32_w]
     rfl
    refine pure_ (i := 10) (N := some 35) (v := ?_) (a' := ?_) #[T3372, T3372, T3372, T3372, T3372, T3372, T3372, T3372, T3372, T3372, T3372, F3372, F3372] rfl rfl (any_of HT_.out (by kernel_rfl)) (fun _ _ _ h => h) (Or.inl ⟨by rfl, ?_⟩) ?_ ?_
    rotate_left
    ·intro w'
     go_simp
     with_reducible rfl
    rotate_left
    ·simp only [Act.put, List.setIfInBounds_toArray, List.set_cons_zero, List.set_cons_succ, i64_w, i32_w]
     rfl
    refine pure_ (i := 11) (N := some 36) (v := ?_) (a' := ?_) #[T3372, T3372, T3372, T3372, T3372, T3372, T3372, T3372, T3372, T3372, T3372, T3372, F3372] rfl rfl (any_of HT_.out (by kernel_rfl)) (fun _ _ _ h => h) (Or.inl ⟨by rfl, ?_⟩) ?_ ?_
    rotate_left
    ·intro w'
     go_simp
     with_reducible rfl
    rotate_left
    ·simp only [Act.put, List.setIfInBounds_toArray, List.set_cons_zero, List.set_cons_succ, i64_w, i32_w]
     rfl
    refine pure_ (i := 12) (N := some 24) (v := ?_) (a' := ?_) #[T3372, T3372, T3372, T3372, T3372, T3372, T3372, T3372, T3372, T3372, T3372, T3372, T3372] rfl rfl (any_of HT_.out (by kernel_rfl)) (fun _ _ _ h => h) (Or.inl ⟨by rfl, ?_⟩) ?_ ?_
    rotate_left
    ·intro w'
     go_simp
     with_reducible rfl
    rotate_left
    ·simp only [Act.put, List.setIfInBounds_toArray, List.set_cons_zero, List.set_cons_succ, i64_w, i32_w]
     rfl
    refine done_ (done_of HT_.out (by kernel_rfl)) ?_
    try go_wp2
    go_ret
    exact ⟨by first | rfl | (simp [errW_none, errW_some] <;> rfl) | (simp only [← hji16]; first | rfl | (simp [errW_none, errW_some] <;> rfl)) | (simp [*, errW_none, errW_some] <;> rfl), qgatt_6⟩
   rw [if_neg c20] at H
   have c20b0 : decide (0 ≤ t202) = false := decide_eq_false c20
   clear c20
   have H' := Aside0.mk H
   clear H
   try go_wp2
   have n0_ := Aside0.mk (blk_drew BK198.out)
   have n1_ := Aside0.mk (below_drew1 HB.out)
   clear BK198
   clear HB
   have BK198 := n0_
   have HB := n1_
   clear n0_ n1_
   have p201 : 0 ≤ ((ji16) : Int) := of_decide_eq_true qgatt_5
   have q201 : (ji16) < (l0.length : Int) := of_decide_eq_true qgatt_5
   obtain ⟨ad201, e201, hx201_0, hx201_1⟩ := at_T146 HR0.out (ji16) p201 q201
   have hw201_1 := hx201_1
   have hw201_0 := hx201_0
   obtain rfl : ad197 = ad201 := (by injection e201)
   replace hx201_0 := (HB.out.cell (World.block_lt_of_cell? w _ hx201_0)).trans hx201_0
   replace hx201_1 := (HB.out.cell (World.block_lt_of_cell? w _ hx201_1)).trans hx201_1
   replace p201 := eq_true p201
   replace q201 := eq_true q201
   refine start_ (n := 13) (S := fun w' => w'.cell? ⟨gb198, 0, none⟩ = some (.int .i64 ((rd_T146 l0 x10_1).f0)) ∧ w'.cell? ⟨gb198, 1, none⟩ = some (.int .i64 ((rd_T146 l0 x10_1).f1)) ∧ w'.cell? (ad197.add (((ji16)).toNat * 2)) = some (.int .i64 ((rd_T146 l0 (ji16)).f0)) ∧ w'.cell? ⟨(ad197.add (((ji16)).toNat * 2)).block, (ad197.add (((ji16)).toNat * 2)).off + 1, none⟩ = some (.int .i64 ((rd_T146 l0 (ji16)).f1))) (ds := []) #[F3372, F3372, F3372, F3372, F3372, F3372, F3372, F3372, F3372, F3372, F3372, F3372, F3372] (by kernel_rfl) rfl rfl ⟨(blk_cell BK198.out 0).trans rfl, (blk_cell BK198.out 1).trans rfl, ((HB.out.cell (World.block_lt_of_cell? w _ hw201_0)).trans hw201_0), ((HB.out.cell (World.block_lt_of_cell? w _ hw201_1)).trans hw201_1)⟩ (fun hHeld => ?_); refine with_tabW span_checkLinks.tab8 span_checkLinks.bits8 (fun HT_ HW_ => ?_)
   generalize wc.drew = w23 at BK198 HB hx201_0 hx201_1 hHeld ⊢
   refine pure_ (i := 0) (N := some 25) (v := ?_) (a' := ?_) #[T3372, F3372, F3372, F3372, F3372, F3372, F3372, F3372, F3372, F3372, F3372, F3372, F3372] rfl rfl (any_of HT_.out (by kernel_rfl)) (fun _ _ _ h => h) (Or.inl ⟨by rfl, ?_⟩) ?_ ?_
   rotate_left
   ·intro w'
    go_simp
    with_reducible rfl
   rotate_left
   ·simp only [Act.put, List.setIfInBounds_toArray, List.set_cons_zero, List.set_cons_succ, i64_w, i32_w]
    rfl
   refine pure_ (i := 1) (N := some 26) (v := ?_) (a' := ?_) #[T3372, T3372, F3372, F3372, F3372, F3372, F3372, F3372, F3372, F3372, F3372, F3372, F3372] rfl rfl (any_of HT_.out (by kernel_rfl)) (fun _ _ _ h => h) (Or.inl ⟨by rfl, ?_⟩) ?_ ?_
   rotate_left
   ·intro w'
    go_simp
    with_reducible rfl
   rotate_left
   ·simp only [Act.put, List.setIfInBounds_toArray, List.set_cons_zero, List.set_cons_succ, i64_w, i32_w]
    rfl
   refine pure_ (i := 2) (N := some 27) (v := ?_) (a' := ?_) #[T3372, T3372, T3372, F3372, F3372, F3372, F3372, F3372, F3372, F3372, F3372, F3372, F3372] rfl rfl (any_of HT_.out (by kernel_rfl)) (fun _ _ _ h => h) (Or.inl ⟨by rfl, ?_⟩) ?_ ?_
   rotate_left
   ·intro w'
    go_simp
    with_reducible rfl
   rotate_left
   ·simp only [Act.put, List.setIfInBounds_toArray, List.set_cons_zero, List.set_cons_succ, i64_w, i32_w]
    rfl
   refine pure_ (i := 3) (N := some 28) (v := ?_) (a' := ?_) #[T3372, T3372, T3372, T3372, F3372, F3372, F3372, F3372, F3372, F3372, F3372, F3372, F3372] rfl rfl (any_of HT_.out (by kernel_rfl)) (fun _ _ _ h => h) (Or.inl ⟨by rfl, ?_⟩) ?_ ?_
   rotate_left
   ·intro w'
    go_simp
    with_reducible rfl
   rotate_left
   ·simp only [Act.put, List.setIfInBounds_toArray, List.set_cons_zero, List.set_cons_succ, i64_w, i32_w]
    rfl
   refine pure_ (i := 4) (N := some 29) (v := ?_) (a' := ?_) #[T3372, T3372, T3372, T3372, T3372, F3372, F3372, F3372, F3372, F3372, F3372, F3372, F3372] rfl rfl (any_of HT_.out (by kernel_rfl)) (fun _ _ _ h => h) (Or.inl ⟨by rfl, ?_⟩) ?_ ?_
   rotate_left
   ·intro w'
    go_simp
    with_reducible rfl
   rotate_left
   ·simp only [Act.put, List.setIfInBounds_toArray, List.set_cons_zero, List.set_cons_succ, i64_w, i32_w]
    rfl
   refine pure_ (i := 5) (N := some 30) (v := ?_) (a' := ?_) #[T3372, T3372, T3372, T3372, T3372, T3372, F3372, F3372, F3372, F3372, F3372, F3372, F3372] rfl rfl (any_of HT_.out (by kernel_rfl)) (fun _ _ _ h => h) (Or.inl ⟨by rfl, ?_⟩) ?_ ?_
   rotate_left
   ·intro w'
    go_simp
    with_reducible rfl
   rotate_left
   ·simp only [Act.put, List.setIfInBounds_toArray, List.set_cons_zero, List.set_cons_succ, i64_w, i32_w]
    rfl
   refine pure_ (i := 6) (N := some 31) (v := ?_) (a' := ?_) #[T3372, T3372, T3372, T3372, T3372, T3372, T3372, F3372, F3372, F3372, F3372, F3372, F3372] rfl rfl (any_of HT_.out (by kernel_rfl)) (fun _ _ _ h => h) (Or.inl ⟨by rfl, ?_⟩) ?_ ?_
   rotate_left
   ·intro w'
    go_simp
    with_reducible rfl
   rotate_left
   ·simp only [Act.put, List.setIfInBounds_toArray, List.set_cons_zero, List.set_cons_succ, i64_w, i32_w]
    rfl
   refine take_ (i := 7) (N := some 32) (v := ?_) (a' := ?_) #[T3372, T3372, T3372, T3372, T3372, T3372, T3372, T3372, F3372, F3372, F3372, F3372, F3372] rfl rfl (take_ofW HT_.out HW_.out (by kernel_rfl)) (fun _ _ _ h => h) (Or.inl ⟨by rfl, ?_⟩) hHeld ?_ ?_
   rotate_left
   ·rintro w' ⟨s0, s1, s2, s3⟩
    go_simp
    with_reducible rfl
   rotate_left
   ·simp only [Act.put, List.setIfInBounds_toArray, List.set_cons_zero, List.set_cons_succ, i64_w, i32_w]
    rfl
   refine take_ (i := 8) (N := some 33) (v := ?_) (a' := ?_) #[T3372, T3372, T3372, T3372, T3372, T3372, T3372, T3372, T3372, F3372, F3372, F3372, F3372] rfl rfl (take_ofW HT_.out HW_.out (by kernel_rfl)) (fun _ _ _ h => h) (Or.inl ⟨by rfl, ?_⟩) hHeld ?_ ?_
   rotate_left
   ·rintro w' ⟨s0, s1, s2, s3⟩
    go_simp
    with_reducible rfl
   rotate_left
   ·simp only [Act.put, List.setIfInBounds_toArray, List.set_cons_zero, List.set_cons_succ, i64_w, i32_w]
    rfl
   refine one_ (i := 9) (N := some 34) #[T3372, T3372, T3372, T3372, T3372, T3372, T3372, T3372, T3372, T3372, F3372, F3372, F3372] rfl rfl (one_of HT_.out (by kernel_rfl)) (by decide) (fun K hK => ?_)
   refine goes_ Try.func77 (by kernel_rfl) rfl #[.agg #[.int .i64 ((rd_T146 l0 (ji16)).f0), .int .i64 ((rd_T146 l0 (ji16)).f1)], .agg #[.int .i64 ((rd_T146 l0 x10_1).f0), .int .i64 ((rd_T146 l0 x10_1).f1)]] (by rfl) rfl rfl qgatt_23 ?_
   with_reducible refine (span_CompareRefs.calls kj5 ((rd_T146 l0 (ji16)).f0) ((rd_T146 l0 (ji16)).f1) ((rd_T146 l0 x10_1).f0) ((rd_T146 l0 x10_1).f1) t202 _ A19.out).mono ?_
   rintro e w24 ⟨rfl, hb⟩
   refine ⟨_, rfl, ?_⟩
   have n0_ := Aside0.mk (blk_below (g := gb198) (o := .cells #[.int .i64 ((rd_T146 l0 x10_1).f0), .int .i64 ((rd_T146 l0 x10_1).f1)] 146 (0, 0)) (by (with_reducible repeat (first | refine blk_drewN ?_ _ | refine blk_drew ?_ | refine blk_alloc ?_ _)); exact BK198.out) hb)
   have n1_ := Aside0.mk (below_step qgatt_6 hb)
   clear BK198
   clear HB
   have BK198 := n0_
   have HB := n1_
   clear n0_ n1_
   (try clear hb)
   (try clear hb2)
   (try clear hk)
   (try clear hi)
   refine hK.out _ _ ⟨(blk_cell BK198.out 0).trans rfl, (blk_cell BK198.out 1).trans rfl, ((HB.out.cell (World.block_lt_of_cell? w _ hw201_0)).trans hw201_0), ((HB.out.cell (World.block_lt_of_cell? w _ hw201_1)).trans hw201_1)⟩ (fun hHeld => ?_)
   clear hK K
   refine norm_ (a' := ?_) ?_ ?_
   rotate_left
   ·show Act.put _ (some 34) _ = _
    simp only [Act.put, List.setIfInBounds_toArray, List.set_cons_zero, List.set_cons_succ, i64_w, i32_w]
    rfl
   refine pure_ (i := 10) (N := some 35) (v := ?_) (a' := ?_) #[T3372, T3372, T3372, T3372, T3372, T3372, T3372, T3372, T3372, T3372, T3372, F3372, F3372] rfl rfl (any_of HT_.out (by kernel_rfl)) (fun _ _ _ h => h) (Or.inl ⟨by rfl, ?_⟩) ?_ ?_
   rotate_left
   ·intro w'
    go_simp
    with_reducible rfl
   rotate_left
   ·simp only [Act.put, List.setIfInBounds_toArray, List.set_cons_zero, List.set_cons_succ, i64_w, i32_w]
    rfl
   refine pure_ (i := 11) (N := some 36) (v := ?_) (a' := ?_) #[T3372, T3372, T3372, T3372, T3372, T3372, T3372, T3372, T3372, T3372, T3372, T3372, F3372] rfl rfl (any_of HT_.out (by kernel_rfl)) (fun _ _ _ h => h) (Or.inl ⟨by rfl, ?_⟩) ?_ ?_
   rotate_left
   ·intro w'
    go_simp
    with_reducible rfl
   rotate_left
   ·simp only [Act.put, List.setIfInBounds_toArray, List.set_cons_zero, List.set_cons_succ, i64_w, i32_w]
    rfl
   refine pure_ (i := 12) (N := some 24) (v := ?_) (a' := ?_) #[T3372, T3372, T3372, T3372, T3372, T3372, T3372, T3372, T3372, T3372, T3372, T3372, T3372] rfl rfl (any_of HT_.out (by kernel_rfl)) (fun _ _ _ h => h) (Or.inl ⟨by rfl, ?_⟩) ?_ ?_
   rotate_left
   ·intro w'
    go_simp
    with_reducible rfl
   rotate_left
   ·simp only [Act.put, List.setIfInBounds_toArray, List.set_cons_zero, List.set_cons_succ, i64_w, i32_w]
    rfl
   refine done_ (done_of HT_.out (by kernel_rfl)) ?_
   try go_wp2
   go_roundg kj5
   case measure => have := HK1.out; have := HJ5.out; omega
   case rel => exact ⟨(wrap64 (x10_1 + 1)), qgatt_4, H', ⟨by have := HK1.out; have := HJ5.out; omega⟩, ⟨qgatt_6⟩⟩

end Go.Proofs.Ythdifdnjodbdnaa.Q
