-- Laid by myprint.py (a program of this session's, over the kit's printer and with functions proved by hand)
import Derived.Test.YthdifdnjodbdnaaTy
import Derived.Test.YthdifdnjodbdnaaGs
namespace Go.Proofs.Ythdifdnjodbdnaa.Q
open Go.RowKit Go.Proofs.YthdifdnjodbdnaaW.PrintWords Go.Proofs.YthdifdnjodbdnaaW.PrintLast Go.Proofs.YthdifdnjodbdnaaW.PrintMore
attribute [local go_sem] max2_int min2_int max_two min_two max_three min_three max_four min_four   -- for this text's walks alone
set_option linter.unusedVariables false
set_option linter.unusedSimpArgs false

attribute [local go_sem high] Str.binOp_string_gtr' Str.binOp_string_leq'
theorem qgcnt_0 {p : Prop} (h : p := by (with_reducible repeat (first | refine blk_drewN ?_ _ | refine blk_drew ?_ | refine blk_alloc ?_ _)); refine blk_far ?_ NB127_131.out _; (with_reducible repeat (first | refine blk_drewN ?_ _ | refine blk_drew ?_ | refine blk_alloc ?_ _)); refine blk_far ?_ NB127_131.out _; (with_reducible repeat (first | refine blk_drewN ?_ _ | refine blk_drew ?_ | refine blk_alloc ?_ _)); refine blk_far ?_ NB127_131.out _; (with_reducible repeat (first | refine blk_drewN ?_ _ | refine blk_drew ?_ | refine blk_alloc ?_ _)); refine blk_far ?_ NB127_131.out _; (with_reducible repeat (first | refine blk_drewN ?_ _ | refine blk_drew ?_ | refine blk_alloc ?_ _)); refine blk_far ?_ NB127_131.out _; (with_reducible repeat (first | refine blk_drewN ?_ _ | refine blk_drew ?_ | refine blk_alloc ?_ _)); refine blk_far ?_ NB127_131.out _; (with_reducible repeat (first | refine blk_drewN ?_ _ | refine blk_drew ?_ | refine blk_alloc ?_ _)); refine blk_far ?_ NB127_131.out _; (with_reducible repeat (first | refine blk_drewN ?_ _ | refine blk_drew ?_ | refine blk_alloc ?_ _)); refine blk_far ?_ NB127_131.out _; (with_reducible repeat (first | refine blk_drewN ?_ _ | refine blk_drew ?_ | refine blk_alloc ?_ _)); refine blk_far ?_ NB127_131.out _; (with_reducible repeat (first | refine blk_drewN ?_ _ | refine blk_drew ?_ | refine blk_alloc ?_ _)); refine blk_far ?_ NB127_131.out _; (with_reducible repeat (first | refine blk_drewN ?_ _ | refine blk_drew ?_ | refine blk_alloc ?_ _)); refine blk_far ?_ NB127_131.out _; (with_reducible repeat (first | refine blk_drewN ?_ _ | refine blk_drew ?_ | refine blk_alloc ?_ _)); refine blk_far ?_ NB127_131.out _; (with_reducible repeat (first | refine blk_drewN ?_ _ | refine blk_drew ?_ | refine blk_alloc ?_ _)); refine blk_far ?_ NB127_131.out _; (with_reducible repeat (first | refine blk_drewN ?_ _ | refine blk_drew ?_ | refine blk_alloc ?_ _)); refine blk_far ?_ NB127_131.out _; (with_reducible repeat (first | refine blk_drewN ?_ _ | refine blk_drew ?_ | refine blk_alloc ?_ _)); exact BK127.out) : p := h
theorem qgcnt_1 {p : Prop} (h : p := by (with_reducible repeat (first | refine blk_drewN ?_ _ | refine blk_drew ?_ | refine blk_alloc ?_ _)); refine blk_far ?_ NB129_131.out _; (with_reducible repeat (first | refine blk_drewN ?_ _ | refine blk_drew ?_ | refine blk_alloc ?_ _)); refine blk_far ?_ NB129_131.out _; (with_reducible repeat (first | refine blk_drewN ?_ _ | refine blk_drew ?_ | refine blk_alloc ?_ _)); refine blk_far ?_ NB129_131.out _; (with_reducible repeat (first | refine blk_drewN ?_ _ | refine blk_drew ?_ | refine blk_alloc ?_ _)); refine blk_far ?_ NB129_131.out _; (with_reducible repeat (first | refine blk_drewN ?_ _ | refine blk_drew ?_ | refine blk_alloc ?_ _)); refine blk_far ?_ NB129_131.out _; (with_reducible repeat (first | refine blk_drewN ?_ _ | refine blk_drew ?_ | refine blk_alloc ?_ _)); refine blk_far ?_ NB129_131.out _; (with_reducible repeat (first | refine blk_drewN ?_ _ | refine blk_drew ?_ | refine blk_alloc ?_ _)); refine blk_far ?_ NB129_131.out _; (with_reducible repeat (first | refine blk_drewN ?_ _ | refine blk_drew ?_ | refine blk_alloc ?_ _)); refine blk_far ?_ NB129_131.out _; (with_reducible repeat (first | refine blk_drewN ?_ _ | refine blk_drew ?_ | refine blk_alloc ?_ _)); refine blk_far ?_ NB129_131.out _; (with_reducible repeat (first | refine blk_drewN ?_ _ | refine blk_drew ?_ | refine blk_alloc ?_ _)); refine blk_far ?_ NB129_131.out _; (with_reducible repeat (first | refine blk_drewN ?_ _ | refine blk_drew ?_ | refine blk_alloc ?_ _)); refine blk_far ?_ NB129_131.out _; (with_reducible repeat (first | refine blk_drewN ?_ _ | refine blk_drew ?_ | refine blk_alloc ?_ _)); refine blk_far ?_ NB129_131.out _; (with_reducible repeat (first | refine blk_drewN ?_ _ | refine blk_drew ?_ | refine blk_alloc ?_ _)); refine blk_far ?_ NB129_131.out _; (with_reducible repeat (first | refine blk_drewN ?_ _ | refine blk_drew ?_ | refine blk_alloc ?_ _)); refine blk_far ?_ NB129_131.out _; (with_reducible repeat (first | refine blk_drewN ?_ _ | refine blk_drew ?_ | refine blk_alloc ?_ _)); exact BK129.out) : p := h
theorem qgcnt_2 {p : Prop} (h : p := by (with_reducible repeat (first | refine blk_drewN ?_ _ | refine blk_drew ?_ | refine blk_alloc ?_ _)); exact BK127.out) : p := h
theorem qgcnt_3 {p : Prop} (h : p := by repeat (first | (with_reducible first | exact HB.out | apply below_alloc | apply pw_below_drewN | apply below_drew1 | refine below_set ?_ GE127.out) | exact HB.out)) : p := h
theorem qgcnt_4 {p : Prop} (h : p := by repeat (first | (with_reducible first | exact HB.out | apply below_alloc | apply pw_below_drewN | apply below_drew1 | refine below_set ?_ GE127.out | refine below_set ?_ GE129.out) | exact HB.out)) : p := h
theorem qgcnt_5 {p : Prop} (h : p := by (with_reducible repeat (first | refine blk_drewN ?_ _ | refine blk_drew ?_ | refine blk_alloc ?_ _)); refine blk_far ?_ NB127_134.out _; (with_reducible repeat (first | refine blk_drewN ?_ _ | refine blk_drew ?_ | refine blk_alloc ?_ _)); refine blk_far ?_ NB127_134.out _; (with_reducible repeat (first | refine blk_drewN ?_ _ | refine blk_drew ?_ | refine blk_alloc ?_ _)); refine blk_far ?_ NB127_134.out _; (with_reducible repeat (first | refine blk_drewN ?_ _ | refine blk_drew ?_ | refine blk_alloc ?_ _)); refine blk_far ?_ NB127_134.out _; (with_reducible repeat (first | refine blk_drewN ?_ _ | refine blk_drew ?_ | refine blk_alloc ?_ _)); exact BK127.out) : p := h
theorem qgcnt_6 {p : Prop} (h : p := by first | rfl | (simp; done) | (simp [*]; done)) : p := h
theorem qgcnt_7 {p : Prop} (h : p := by (with_reducible repeat (first | refine blk_drewN ?_ _ | refine blk_drew ?_ | refine blk_alloc ?_ _)); exact BK129.out) : p := h
theorem qgcnt_8 {p : Prop} (h : p := by first | (with_reducible assumption) | assumption) : p := h
theorem qgcnt_9 {p : Prop} (h : p := by repeat (first | (with_reducible first | exact HB.out | apply below_alloc | apply pw_below_drewN | apply below_drew1 | refine below_set ?_ GE127.out | refine below_set ?_ GE129.out | refine below_set ?_ GE131.out) | exact HB.out)) : p := h
theorem qgcnt_10 {p : Prop} (h : p := by (try simp only [List.map_toArray, List.map_cons, List.map_nil]); first | done | rfl | (simp only [List.length_drop, List.length_take]; rfl)) : p := h
theorem qgcnt_11 {p : Prop} (h : p := by (with_reducible repeat (first | refine blk_drewN ?_ _ | refine blk_drew ?_ | refine blk_alloc ?_ _)); refine blk_far ?_ NB127_136.out _; (with_reducible repeat (first | refine blk_drewN ?_ _ | refine blk_drew ?_ | refine blk_alloc ?_ _)); refine blk_far ?_ NB127_136.out _; (with_reducible repeat (first | refine blk_drewN ?_ _ | refine blk_drew ?_ | refine blk_alloc ?_ _)); exact BK127.out) : p := h
theorem qgcnt_12 {p : Prop} (h : p := by repeat (first | (with_reducible first | exact HB.out | apply below_alloc | apply pw_below_drewN | apply below_drew1 | refine below_set ?_ GE127.out | refine below_set ?_ GE134.out) | exact HB.out)) : p := h
theorem qgcnt_13 {p : Prop} (h : p := by repeat (first | (with_reducible first | exact HB.out | apply below_alloc | apply pw_below_drewN | apply below_drew1) | exact HB.out)) : p := h
theorem qgcnt_14 {p : Prop} (h : p := by first | (go_simp; done) | (go_simp; rfl)) : p := h
theorem qgcnt_15 {p : Prop} (h : p := by have := HK1.out; have := HK2.out; omega) : p := h
theorem qgcnt_16 {p : Prop} (h : p := by repeat (first | (with_reducible first | exact HB.out | apply below_alloc | apply pw_below_drewN | apply below_drew1 | refine below_set ?_ GE127.out | refine below_set ?_ GE136.out) | exact HB.out)) : p := h
/-! ### span_Slot: function 43 -/
def span_Slot.f (a0 : Int) : Option (Int) := some (a0 / 1048576)
set_option maxHeartbeats 8000000 in
set_option maxRecDepth 100000 in
theorem span_Slot.calls (a0 : Int) (r : Int) (w : World) (h : span_Slot.f a0 = some r) :
  Calls Try.prog 43 #[.int .i64 a0] w fun e w' => e = .returned (.int .i64 r) ∧ Drawn0 w w' := by
 have H : (some (a0 / 1048576)) = some r := h
 clear h
 obtain rfl := Option.some.inj H
 go_enter Try.func43, Try.ntmps43
 go_wp2
 go_ret
 exact ⟨qgcnt_6, by repeat (first | exact Drawn0.refl _ | apply Drawn0.step)⟩

/-! ### span_Partition: function 18 -/
def span_Partition.f (a0 : Int) : Option (Int) := (span_Slot.f a0).bind fun t126 => (some (t126 / 16))
set_option maxHeartbeats 8000000 in
set_option maxRecDepth 100000 in
theorem span_Partition.calls (a0 : Int) (r : Int) (w : World) (h : span_Partition.f a0 = some r) :
  Calls Try.prog 18 #[.int .i64 a0] w fun e w' => e = .returned (.int .i64 r) ∧ Drawn0 w w' := by
 have H : ((span_Slot.f a0).bind fun t126 => (some (t126 / 16))) = some r := h
 clear h
 replace H := Option.bind_eq_some_iff.mp H
 obtain ⟨t126, A20, H⟩ := H
 replace H : (some (t126 / 16)) = some r := H
 have A2 := Aside0.mk A20
 clear A20
 obtain rfl := Option.some.inj H
 go_enter Try.func18, Try.ntmps18
 go_wp2_with (first | ((with_reducible refine gate_callee (f := 43) rfl ?_); refine goesL_ (some 4) rfl rfl Try.func43 (by kernel_rfl) rfl #[.int .i64 a0] rfl qgcnt_10 ?_; (with_reducible refine (span_Slot.calls a0 t126 _ A2.out).mono ?_); rintro e w' ⟨rfl, ⟨nd, rfl⟩⟩; refine ⟨_, rfl, ?_⟩))
 go_ret
 exact ⟨qgcnt_6, by repeat (first | exact Drawn0.refl _ | apply Drawn0.step)⟩

/-! ### estimate_Count: function 19 -/
mutual
def estimate_Count.l0 : Nat → Int → ByteArray → Int → Int → List (S53) → Int → Int → List (S53) → List (S195) → List (S60) → List (S62) → Option (Int × Int)
 | 0, _, _, _, _, _, _, _, _, _, _, _ => none
 | k + 1, x1, x2, x8, x9, x19, x20, x21, x128000, x128001, x128002, x128003 => if x21 < x20 then (if 0 ≤ x21 then (if x21 < (x19.length : Int) then (estimate_Count.l1 k x1 x2 x8 x9 x19 x20 x21 ((rd_T53 x19 x21).f2) (((rd_T53 x19 x21).f2).length : Int) 0 x128000 x128001 x128002 x128003 ((rd_T53 x19 x21).f0) ((rd_T53 x19 x21).f1) ((rd_T53 x19 x21).f2)) else (none)) else (none)) else (estimate_Count.l2 k x1 x2 x8 x9 x128002 (x128002.length : Int) 0 x128000 x128001 x128002 x128003)
def estimate_Count.l1 : Nat → Int → ByteArray → Int → Int → List (S53) → Int → Int → List (S58) → Int → Int → List (S53) → List (S195) → List (S60) → List (S62) → Int → Int → List (S58) → Option (Int × Int)
 | 0, _, _, _, _, _, _, _, _, _, _, _, _, _, _, _, _, _ => none
 | k + 1, x1, x2, x8, x9, x19, x20, x21, x26, x27, x28, x128000, x128001, x128002, x128003, x130000, x130001, x130002 => if x28 < x27 then (if 0 ≤ x28 then (if x28 < (x26.length : Int) then ((span_Partition.f x130000).bind fun t132 => (if t132 = x1 then (if ((rd_T58 x26 x28).f6).toList = x2.toList then (estimate_Count.l1 k x1 x2 (wrap64 (x8 + 1)) x9 x19 x20 x21 x26 x27 (wrap64 (x28 + 1)) x128000 x128001 x128002 x128003 x130000 x130001 x130002) else (estimate_Count.l1 k x1 x2 x8 x9 x19 x20 x21 x26 x27 (wrap64 (x28 + 1)) x128000 x128001 x128002 x128003 x130000 x130001 x130002)) else (estimate_Count.l1 k x1 x2 x8 x9 x19 x20 x21 x26 x27 (wrap64 (x28 + 1)) x128000 x128001 x128002 x128003 x130000 x130001 x130002))) else (none)) else (none)) else (estimate_Count.l0 k x1 x2 x8 x9 x19 x20 (wrap64 (x21 + 1)) x128000 x128001 x128002 x128003)
def estimate_Count.l2 : Nat → Int → ByteArray → Int → Int → List (S60) → Int → Int → List (S53) → List (S195) → List (S60) → List (S62) → Option (Int × Int)
 | 0, _, _, _, _, _, _, _, _, _, _, _ => none
 | k + 1, x1, x2, x8, x9, x48, x49, x50, x128000, x128001, x128002, x128003 => if x50 < x49 then (if 0 ≤ x50 then (if x50 < (x48.length : Int) then (if ((rd_T60 x48 x50).f0) = x1 then (if ((rd_T60 x48 x50).f1).toList = x2.toList then (estimate_Count.l2 k x1 x2 (wrap64 (x8 + ((rd_T60 x48 x50).f2))) x9 x48 x49 (wrap64 (x50 + 1)) x128000 x128001 x128002 x128003) else (estimate_Count.l2 k x1 x2 x8 x9 x48 x49 (wrap64 (x50 + 1)) x128000 x128001 x128002 x128003)) else (estimate_Count.l2 k x1 x2 x8 x9 x48 x49 (wrap64 (x50 + 1)) x128000 x128001 x128002 x128003)) else (none)) else (none)) else (estimate_Count.l3 k x1 x8 x9 x128003 (x128003.length : Int) 0)
def estimate_Count.l3 : Nat → Int → Int → Int → List (S62) → Int → Int → Option (Int × Int)
 | 0, _, _, _, _, _, _ => none
 | k + 1, x1, x8, x9, x70, x71, x72 => if x72 < x71 then (if 0 ≤ x72 then (if x72 < (x70.length : Int) then (if ((rd_T62 x70 x72).f0) = x1 then (estimate_Count.l3 k x1 x8 (wrap64 (x9 + ((rd_T62 x70 x72).f1))) x70 x71 (wrap64 (x72 + 1))) else (estimate_Count.l3 k x1 x8 x9 x70 x71 (wrap64 (x72 + 1)))) else (none)) else (none)) else (some (mx 0 (wrap64 (x8 - x9)), wrap64 (x8 + x9)))
end
def estimate_Count.f (k : Nat) (l0_0 : List (S53)) (l0_1 : List (S195)) (l0_2 : List (S60)) (l0_3 : List (S62)) (a1 : Int) (a2 : ByteArray) : Option (Int × Int) := estimate_Count.l0 k a1 a2 0 0 l0_0 (l0_0.length : Int) 0 l0_0 l0_1 l0_2 l0_3
theorem estimate_Count.mono_l : ∀ k, (∀ y0 y1 y2 y3 y4 y5 y6 y7 y8 y9 y10, LeO (estimate_Count.l0 k y0 y1 y2 y3 y4 y5 y6 y7 y8 y9 y10) (estimate_Count.l0 (k + 1) y0 y1 y2 y3 y4 y5 y6 y7 y8 y9 y10)) ∧ (∀ y0 y1 y2 y3 y4 y5 y6 y7 y8 y9 y10 y11 y12 y13 y14 y15 y16, LeO (estimate_Count.l1 k y0 y1 y2 y3 y4 y5 y6 y7 y8 y9 y10 y11 y12 y13 y14 y15 y16) (estimate_Count.l1 (k + 1) y0 y1 y2 y3 y4 y5 y6 y7 y8 y9 y10 y11 y12 y13 y14 y15 y16)) ∧ (∀ y0 y1 y2 y3 y4 y5 y6 y7 y8 y9 y10, LeO (estimate_Count.l2 k y0 y1 y2 y3 y4 y5 y6 y7 y8 y9 y10) (estimate_Count.l2 (k + 1) y0 y1 y2 y3 y4 y5 y6 y7 y8 y9 y10)) ∧ (∀ y0 y1 y2 y3 y4 y5, LeO (estimate_Count.l3 k y0 y1 y2 y3 y4 y5) (estimate_Count.l3 (k + 1) y0 y1 y2 y3 y4 y5))
 | 0 => ⟨fun _ _ _ _ _ _ _ _ _ _ _ r h => by simp [estimate_Count.l0] at h, fun _ _ _ _ _ _ _ _ _ _ _ _ _ _ _ _ _ r h => by simp [estimate_Count.l1] at h, fun _ _ _ _ _ _ _ _ _ _ _ r h => by simp [estimate_Count.l2] at h, fun _ _ _ _ _ _ r h => by simp [estimate_Count.l3] at h⟩
 | k + 1 => by
  obtain ⟨ih0, ih1, ih2, ih3⟩ := estimate_Count.mono_l k
  refine ⟨?_, ?_, ?_, ?_⟩
  ·intro y0 y1 y2 y3 y4 y5 y6 y7 y8 y9 y10
   unfold estimate_Count.l0
   repeat' first
   | (with_reducible exact ih0 _ _ _ _ _ _ _ _ _ _ _)
   | (with_reducible exact ih1 _ _ _ _ _ _ _ _ _ _ _ _ _ _ _ _ _)
   | (with_reducible exact ih2 _ _ _ _ _ _ _ _ _ _ _)
   | (with_reducible exact ih3 _ _ _ _ _ _)
   | (with_reducible exact LeO.refl _)
   | (with_reducible exact LeO.none _)
   | (with_reducible refine LeO.ite ?_ ?_)
   | (with_reducible refine LeO.bind ?_ (fun _ => ?_))
   | exact ih0 _ _ _ _ _ _ _ _ _ _ _
   | exact ih1 _ _ _ _ _ _ _ _ _ _ _ _ _ _ _ _ _
   | exact ih2 _ _ _ _ _ _ _ _ _ _ _
   | exact ih3 _ _ _ _ _ _
   | exact LeO.none _
   | refine LeO.ite ?_ ?_
   | refine LeO.bind ?_ (fun _ => ?_)
  ·intro y0 y1 y2 y3 y4 y5 y6 y7 y8 y9 y10 y11 y12 y13 y14 y15 y16
   unfold estimate_Count.l1
   repeat' first
   | (with_reducible exact ih0 _ _ _ _ _ _ _ _ _ _ _)
   | (with_reducible exact ih1 _ _ _ _ _ _ _ _ _ _ _ _ _ _ _ _ _)
   | (with_reducible exact ih2 _ _ _ _ _ _ _ _ _ _ _)
   | (with_reducible exact ih3 _ _ _ _ _ _)
   | (with_reducible exact LeO.refl _)
   | (with_reducible exact LeO.none _)
   | (with_reducible refine LeO.ite ?_ ?_)
   | (with_reducible refine LeO.bind ?_ (fun _ => ?_))
   | exact ih0 _ _ _ _ _ _ _ _ _ _ _
   | exact ih1 _ _ _ _ _ _ _ _ _ _ _ _ _ _ _ _ _
   | exact ih2 _ _ _ _ _ _ _ _ _ _ _
   | exact ih3 _ _ _ _ _ _
   | exact LeO.none _
   | refine LeO.ite ?_ ?_
   | refine LeO.bind ?_ (fun _ => ?_)
  ·intro y0 y1 y2 y3 y4 y5 y6 y7 y8 y9 y10
   unfold estimate_Count.l2
   repeat' first
   | (with_reducible exact ih0 _ _ _ _ _ _ _ _ _ _ _)
   | (with_reducible exact ih1 _ _ _ _ _ _ _ _ _ _ _ _ _ _ _ _ _)
   | (with_reducible exact ih2 _ _ _ _ _ _ _ _ _ _ _)
   | (with_reducible exact ih3 _ _ _ _ _ _)
   | (with_reducible exact LeO.refl _)
   | (with_reducible exact LeO.none _)
   | (with_reducible refine LeO.ite ?_ ?_)
   | (with_reducible refine LeO.bind ?_ (fun _ => ?_))
   | exact ih0 _ _ _ _ _ _ _ _ _ _ _
   | exact ih1 _ _ _ _ _ _ _ _ _ _ _ _ _ _ _ _ _
   | exact ih2 _ _ _ _ _ _ _ _ _ _ _
   | exact ih3 _ _ _ _ _ _
   | exact LeO.none _
   | refine LeO.ite ?_ ?_
   | refine LeO.bind ?_ (fun _ => ?_)
  ·intro y0 y1 y2 y3 y4 y5
   unfold estimate_Count.l3
   repeat' first
   | (with_reducible exact ih0 _ _ _ _ _ _ _ _ _ _ _)
   | (with_reducible exact ih1 _ _ _ _ _ _ _ _ _ _ _ _ _ _ _ _ _)
   | (with_reducible exact ih2 _ _ _ _ _ _ _ _ _ _ _)
   | (with_reducible exact ih3 _ _ _ _ _ _)
   | (with_reducible exact LeO.refl _)
   | (with_reducible exact LeO.none _)
   | (with_reducible refine LeO.ite ?_ ?_)
   | (with_reducible refine LeO.bind ?_ (fun _ => ?_))
   | exact ih0 _ _ _ _ _ _ _ _ _ _ _
   | exact ih1 _ _ _ _ _ _ _ _ _ _ _ _ _ _ _ _ _
   | exact ih2 _ _ _ _ _ _ _ _ _ _ _
   | exact ih3 _ _ _ _ _ _
   | exact LeO.none _
   | refine LeO.ite ?_ ?_
   | refine LeO.bind ?_ (fun _ => ?_)
theorem estimate_Count.mono : ∀ a0 a1 a2 a3 a4 a5 k, LeO (estimate_Count.f k a0 a1 a2 a3 a4 a5) (estimate_Count.f (k + 1) a0 a1 a2 a3 a4 a5) := by
 intro a0 a1 a2 a3 a4 a5 k
 obtain ⟨ih0, ih1, ih2, ih3⟩ := estimate_Count.mono_l k
 unfold estimate_Count.f
 repeat' first
   | (with_reducible exact ih0 _ _ _ _ _ _ _ _ _ _ _)
   | (with_reducible exact ih1 _ _ _ _ _ _ _ _ _ _ _ _ _ _ _ _ _)
   | (with_reducible exact ih2 _ _ _ _ _ _ _ _ _ _ _)
   | (with_reducible exact ih3 _ _ _ _ _ _)
   | (with_reducible exact LeO.refl _)
   | (with_reducible exact LeO.none _)
   | (with_reducible refine LeO.ite ?_ ?_)
   | (with_reducible refine LeO.bind ?_ (fun _ => ?_))
   | exact ih0 _ _ _ _ _ _ _ _ _ _ _
   | exact ih1 _ _ _ _ _ _ _ _ _ _ _ _ _ _ _ _ _
   | exact ih2 _ _ _ _ _ _ _ _ _ _ _
   | exact ih3 _ _ _ _ _ _
   | exact LeO.none _
   | refine LeO.ite ?_ ?_
   | refine LeO.bind ?_ (fun _ => ?_)
set_option maxHeartbeats 8000000 in
set_option maxRecDepth 100000 in
theorem estimate_Count.calls (k : Nat) (A0_0 : Option Addr) (c0_0 : Nat) (l0_0 : List (S53)) (A0_1 : Option Addr) (c0_1 : Nat) (l0_1 : List (S195)) (A0_2 : Option Addr) (c0_2 : Nat) (l0_2 : List (S60)) (A0_3 : Option Addr) (c0_3 : Nat) (l0_3 : List (S62)) (a1 : Int) (a2 : ByteArray) (r1 : Int) (r2 : Int) (w : World) (hr0_0 : Kd.C k53 w A0_0 l0_0.length l0_0) (hc0_0 : l0_0.length ≤ c0_0) (hr0_1 : Kd.C k195 w A0_1 l0_1.length l0_1) (hc0_1 : l0_1.length ≤ c0_1) (hr0_2 : Kd.C k60 w A0_2 l0_2.length l0_2) (hc0_2 : l0_2.length ≤ c0_2) (hr0_3 : Kd.C k62 w A0_3 l0_3.length l0_3) (hc0_3 : l0_3.length ≤ c0_3) (h : estimate_Count.f k l0_0 l0_1 l0_2 l0_3 a1 a2 = some (r1, r2)) :
  Calls Try.prog 19 #[.agg #[.slice A0_0 l0_0.length c0_0, .slice A0_1 l0_1.length c0_1, .slice A0_2 l0_2.length c0_2, .slice A0_3 l0_3.length c0_3], .int .i64 a1, .string a2] w fun e w' => e = .returned (.tuple #[.int .i64 r1, .int .i64 r2]) ∧ Below w.heap.size w w' := by
 have hu50 := Try.underlying50
 have hu53 := Try.underlying53
 have hu58 := Try.underlying58
 have hu60 := Try.underlying60
 have hu62 := Try.underlying62
 have HR0_0 := Aside0.mk hr0_0
 have HC0_0 := Aside0.mk hc0_0
 clear hr0_0 hc0_0
 have HR0_1 := Aside0.mk hr0_1
 have HC0_1 := Aside0.mk hc0_1
 clear hr0_1 hc0_1
 have HR0_2 := Aside0.mk hr0_2
 have HC0_2 := Aside0.mk hc0_2
 clear hr0_2 hc0_2
 have HR0_3 := Aside0.mk hr0_3
 have HC0_3 := Aside0.mk hc0_3
 clear hr0_3 hc0_3
 have HB := Aside0.mk (Below.refl w.heap.size w)
 have H : (estimate_Count.l0 k a1 a2 0 0 l0_0 (l0_0.length : Int) 0 l0_0 l0_1 l0_2 l0_3) = some (r1, r2) := h
 clear h
 have H' := Aside0.mk H
 clear H
 go_enter Try.func19, Try.ntmps19
 go_wp2_with (first | ((with_reducible refine gate_dst (N := 3) rfl ?_); refine box_event ?hg (N := 3) ?hd (cs := #[.slice A0_0 l0_0.length c0_0, .slice A0_1 l0_1.length c0_1, .slice A0_2 l0_2.length c0_2, .slice A0_3 l0_3.length c0_3]) (t := 50) ?hr ?_; (case hd => rfl); (case hg => rfl); (case hr => exact qgcnt_14); intro gb127 hg w4 hbox hb; have n0_ := Aside0.mk (below_step qgcnt_13 hb); have n1_ := Aside0.mk (hbox); have n2_ := Aside0.mk ((by rw [hg]; exact (below_size qgcnt_13) : w.heap.size ≤ gb127)); have n3_ := Aside0.mk ((by rw [hg]; exact (below_size qgcnt_13) : w.heap.size ≤ gb127)); clear HB; have HB := n0_; have BK127 := n1_; have GW127 := n2_; have GE127 := n3_; clear n0_ n1_ n2_ n3_; clear hb hbox hg; have hcz5_0 : w4.cell? ⟨gb127, 0, none⟩ = some (.slice A0_0 l0_0.length c0_0) := (blk_cell BK127.out 0).trans rfl; have hcz5_1 : w4.cell? ⟨gb127, 1, none⟩ = some (.slice A0_1 l0_1.length c0_1) := (blk_cell BK127.out 1).trans rfl; have hcz5_2 : w4.cell? ⟨gb127, 2, none⟩ = some (.slice A0_2 l0_2.length c0_2) := (blk_cell BK127.out 2).trans rfl; have hcz5_3 : w4.cell? ⟨gb127, 3, none⟩ = some (.slice A0_3 l0_3.length c0_3) := (blk_cell BK127.out 3).trans rfl; have hfz5_0 := blk_frozen BK127.out 0; have hfz5_1 := blk_frozen BK127.out 1; have hfz5_2 := blk_frozen BK127.out 2; have hfz5_3 := blk_frozen BK127.out 3))
 go_loopg [8, 21] k (fun kq v8 v21 w' => ∃ (x8_1 : Int) (x21_1 : Int), v8 = .int .i64 x8_1 ∧ v21 = .int .i64 x21_1 ∧ Aside0 (estimate_Count.l0 kq a1 a2 x8_1 0 l0_0 (l0_0.length : Int) x21_1 l0_0 l0_1 l0_2 l0_3 = some (r1, r2)) ∧ Aside0 (kq ≤ k) ∧ Aside0 (w'.heap[gb127]? = some (.cells #[(.slice A0_0 l0_0.length c0_0), (.slice A0_1 l0_1.length c0_1), (.slice A0_2 l0_2.length c0_2), (.slice A0_3 l0_3.length c0_3)] 50 (0, 0))) ∧ Aside0 (Below w.heap.size w w'))
 case atStart => exact ⟨(0), (0), qgcnt_6, qgcnt_6, H', ⟨Nat.le_refl _⟩, ⟨qgcnt_2⟩, ⟨qgcnt_3⟩⟩
 clear H'
 try clear c1
 try clear p2
 try clear hcz5_0
 try clear hcz5_1
 try clear hcz5_2
 try clear hcz5_3
 try clear hfz5_0
 try clear hfz5_1
 try clear hfz5_2
 try clear hfz5_3
 obtain ⟨x8_1, x21_1, rfl, rfl, HA, HK1, BK127, HB⟩ := hrel
 cases gk with
 | zero => exact absurd HA.out (by simp [estimate_Count.l0])
 | succ k1 =>
  have H := HA.out
  clear HA
  simp only [estimate_Count.l0] at H
  by_cases c6 : x21_1 < (l0_0.length : Int)
  rotate_left
  ·rw [if_neg c6] at H
   have c6b0 : decide (x21_1 < (l0_0.length : Int)) = false := decide_eq_false c6
   clear c6
   have H' := Aside0.mk H
   clear H
   have hcz36_0 : wr.cell? ⟨gb127, 0, none⟩ = some (.slice A0_0 l0_0.length c0_0) := (blk_cell BK127.out 0).trans rfl
   have hcz36_1 : wr.cell? ⟨gb127, 1, none⟩ = some (.slice A0_1 l0_1.length c0_1) := (blk_cell BK127.out 1).trans rfl
   have hcz36_2 : wr.cell? ⟨gb127, 2, none⟩ = some (.slice A0_2 l0_2.length c0_2) := (blk_cell BK127.out 2).trans rfl
   have hcz36_3 : wr.cell? ⟨gb127, 3, none⟩ = some (.slice A0_3 l0_3.length c0_3) := (blk_cell BK127.out 3).trans rfl
   have hfz36_0 := blk_frozen BK127.out 0
   have hfz36_1 := blk_frozen BK127.out 1
   have hfz36_2 := blk_frozen BK127.out 2
   have hfz36_3 := blk_frozen BK127.out 3
   go_wp2
   go_loopg [8, 50] k1 (fun kq v8 v50 w' => ∃ (x8_2 : Int) (x50_2 : Int), v8 = .int .i64 x8_2 ∧ v50 = .int .i64 x50_2 ∧ Aside0 (estimate_Count.l2 kq a1 a2 x8_2 0 l0_2 (l0_2.length : Int) x50_2 l0_0 l0_1 l0_2 l0_3 = some (r1, r2)) ∧ Aside0 (kq ≤ k1) ∧ Aside0 (w'.heap[gb127]? = some (.cells #[(.slice A0_0 l0_0.length c0_0), (.slice A0_1 l0_1.length c0_1), (.slice A0_2 l0_2.length c0_2), (.slice A0_3 l0_3.length c0_3)] 50 (0, 0))) ∧ Aside0 (Below w.heap.size w w'))
   case atStart => exact ⟨(x8_1), (0), qgcnt_6, qgcnt_6, H', ⟨Nat.le_refl _⟩, ⟨qgcnt_2⟩, ⟨qgcnt_3⟩⟩
   clear H'
   try clear c1
   try clear p1
   try clear q1
   try clear hx1
   try clear c2
   try clear p2
   try clear c3
   try clear c6
   try clear c6b0
   try clear p6
   try clear c7
   try clear c7b0
   try clear c8
   try clear c8b0
   try clear c10
   try clear c12
   try clear c12b0
   try clear p12
   try clear q12
   try clear hx12
   try clear c13
   try clear c13b0
   try clear p13
   try clear q13
   try clear hx13
   try clear c14
   try clear c14b0
   try clear c16
   try clear c16b0
   try clear c16b1
   try clear c17
   try clear c17b0
   try clear c17b1
   try clear c18
   try clear c19
   try clear c20
   try clear c22
   try clear c25
   try clear c26
   try clear c28
   try clear c31
   try clear c32
   try clear c34
   try clear hcz11_0
   try clear hcz11_1
   try clear hcz11_2
   try clear hcz21_0
   try clear hcz21_1
   try clear hcz21_10
   try clear hcz21_11
   try clear hcz21_12
   try clear hcz21_13
   try clear hcz21_2
   try clear hcz21_3
   try clear hcz21_4
   try clear hcz21_5
   try clear hcz21_6
   try clear hcz21_7
   try clear hcz21_8
   try clear hcz21_9
   try clear hcz23_0
   try clear hcz23_1
   try clear hcz23_2
   try clear hcz27_0
   try clear hcz27_1
   try clear hcz27_10
   try clear hcz27_11
   try clear hcz27_12
   try clear hcz27_13
   try clear hcz27_2
   try clear hcz27_3
   try clear hcz27_4
   try clear hcz27_5
   try clear hcz27_6
   try clear hcz27_7
   try clear hcz27_8
   try clear hcz27_9
   try clear hcz29_0
   try clear hcz29_1
   try clear hcz29_2
   try clear hcz33_0
   try clear hcz33_1
   try clear hcz33_10
   try clear hcz33_11
   try clear hcz33_12
   try clear hcz33_13
   try clear hcz33_2
   try clear hcz33_3
   try clear hcz33_4
   try clear hcz33_5
   try clear hcz33_6
   try clear hcz33_7
   try clear hcz33_8
   try clear hcz33_9
   try clear hcz35_0
   try clear hcz35_1
   try clear hcz35_2
   try clear hcz36_0
   try clear hcz36_1
   try clear hcz36_2
   try clear hcz36_3
   try clear hcz5_0
   try clear hcz5_1
   try clear hcz5_2
   try clear hcz5_3
   try clear hfz11_0
   try clear hfz11_1
   try clear hfz11_2
   try clear hfz21_0
   try clear hfz21_1
   try clear hfz21_10
   try clear hfz21_11
   try clear hfz21_12
   try clear hfz21_13
   try clear hfz21_2
   try clear hfz21_3
   try clear hfz21_4
   try clear hfz21_5
   try clear hfz21_6
   try clear hfz21_7
   try clear hfz21_8
   try clear hfz21_9
   try clear hfz23_0
   try clear hfz23_1
   try clear hfz23_2
   try clear hfz27_0
   try clear hfz27_1
   try clear hfz27_10
   try clear hfz27_11
   try clear hfz27_12
   try clear hfz27_13
   try clear hfz27_2
   try clear hfz27_3
   try clear hfz27_4
   try clear hfz27_5
   try clear hfz27_6
   try clear hfz27_7
   try clear hfz27_8
   try clear hfz27_9
   try clear hfz29_0
   try clear hfz29_1
   try clear hfz29_2
   try clear hfz33_0
   try clear hfz33_1
   try clear hfz33_10
   try clear hfz33_11
   try clear hfz33_12
   try clear hfz33_13
   try clear hfz33_2
   try clear hfz33_3
   try clear hfz33_4
   try clear hfz33_5
   try clear hfz33_6
   try clear hfz33_7
   try clear hfz33_8
   try clear hfz33_9
   try clear hfz35_0
   try clear hfz35_1
   try clear hfz35_2
   try clear hfz36_0
   try clear hfz36_1
   try clear hfz36_2
   try clear hfz36_3
   try clear hfz5_0
   try clear hfz5_1
   try clear hfz5_2
   try clear hfz5_3
   try clear hx128_0
   try clear hx128_1
   try clear hx128_2
   try clear hx130_0
   try clear hx130_1
   try clear hx130_10
   try clear hx130_11
   try clear hx130_12
   try clear hx130_13
   try clear hx130_2
   try clear hx130_3
   try clear hx130_4
   try clear hx130_5
   try clear hx130_6
   try clear hx130_7
   try clear hx130_8
   try clear hx130_9
   try clear p1
   try clear p128
   try clear p130
   try clear p2
   try clear q1
   try clear q128
   try clear q130
   obtain ⟨x8_2, x50_2, rfl, rfl, HA, HK2, BK127, HB⟩ := hrel
   cases gk with
   | zero => exact absurd HA.out (by simp [estimate_Count.l2])
   | succ k2 =>
    have H := HA.out
    clear HA
    simp only [estimate_Count.l2] at H
    by_cases c37 : x50_2 < (l0_2.length : Int)
    ·rw [if_pos c37] at H
     have c37b0 : decide (x50_2 < (l0_2.length : Int)) = true := decide_eq_true c37
     clear c37
     by_cases c38 : 0 ≤ x50_2
     rotate_left
     ·rw [if_neg c38] at H
      exact absurd H (by simp)
     rw [if_pos c38] at H
     have c38b0 : decide (0 ≤ x50_2) = true := decide_eq_true c38
     clear c38
     by_cases c39 : x50_2 < (l0_2.length : Int)
     rotate_left
     ·rw [if_neg c39] at H
      exact absurd H (by simp)
     rw [if_pos c39] at H
     have c39b0 : decide (x50_2 < (l0_2.length : Int)) = true := decide_eq_true c39
     clear c39
     by_cases c40 : ((rd_T60 l0_2 x50_2).f0) = a1
     rotate_left
     ·rw [if_neg c40] at H
      have c40b0 : (((rd_T60 l0_2 x50_2).f0) == a1) = false := beq_eq_false_iff_ne.mpr c40
      have c40b1 : (((rd_T60 l0_2 x50_2).f0) != a1) = true := bne_iff_ne.mpr c40
      have H' := Aside0.mk H
      clear H
      have p133 : 0 ≤ (x50_2 : Int) := of_decide_eq_true qgcnt_8
      have q133 : x50_2 < (l0_2.length : Int) := of_decide_eq_true qgcnt_8
      obtain ⟨ad133, e133, hx133_0, hx133_1, hx133_2, hx133_3⟩ := at_T60 HR0_2.out x50_2 p133 q133
      cases e133
      replace hx133_0 := (HB.out.cell (World.block_lt_of_cell? w _ hx133_0)).trans hx133_0
      replace hx133_1 := (HB.out.cell (World.block_lt_of_cell? w _ hx133_1)).trans hx133_1
      replace hx133_2 := (HB.out.cell (World.block_lt_of_cell? w _ hx133_2)).trans hx133_2
      replace hx133_3 := (HB.out.cell (World.block_lt_of_cell? w _ hx133_3)).trans hx133_3
      replace p133 := eq_true p133
      replace q133 := eq_true q133
      go_wp2_with (first | ((with_reducible refine gate_dst (N := 15) rfl ?_); refine box_event ?hg (N := 15) ?hd (cs := #[.int .i64 0, .string (⟨#[]⟩ : ByteArray), .int .i64 0, .int .i64 0]) (t := 60) ?hr ?_; (case hd => rfl); (case hg => rfl); (case hr => exact qgcnt_14); intro gb134 hg w48 hbox hb; have n0_ := Aside0.mk (blk_below (g := gb127) (o := .cells #[.slice A0_0 l0_0.length c0_0, .slice A0_1 l0_1.length c0_1, .slice (some ad133) l0_2.length c0_2, .slice A0_3 l0_3.length c0_3] 50 (0, 0)) qgcnt_2 hb); have n1_ := Aside0.mk (below_step qgcnt_3 hb); have n2_ := Aside0.mk (hbox); have n3_ := Aside0.mk ((by rw [hg]; exact (below_size qgcnt_3) : w.heap.size ≤ gb134)); have n4_ := Aside0.mk ((by rw [hg]; exact (below_size qgcnt_3) : w.heap.size ≤ gb134)); have n5_ := Aside0.mk ((by rw [hg]; exact Nat.ne_of_lt (blk_lt (g := gb127) (o := .cells #[.slice A0_0 l0_0.length c0_0, .slice A0_1 l0_1.length c0_1, .slice (some ad133) l0_2.length c0_2, .slice A0_3 l0_3.length c0_3] 50 (0, 0)) qgcnt_2) : gb127 ≠ gb134)); have n6_ := Aside0.mk ((by rw [hg]; exact Nat.ne_of_gt (blk_lt (g := gb127) (o := .cells #[.slice A0_0 l0_0.length c0_0, .slice A0_1 l0_1.length c0_1, .slice (some ad133) l0_2.length c0_2, .slice A0_3 l0_3.length c0_3] 50 (0, 0)) qgcnt_2) : gb134 ≠ gb127)); clear BK127; clear HB; have BK127 := n0_; have HB := n1_; have BK134 := n2_; have GW134 := n3_; have GE134 := n4_; have NB127_134 := n5_; have NB134_127 := n6_; clear n0_ n1_ n2_ n3_ n4_ n5_ n6_; clear hb hbox hg; have hnb49 := NB134_127.out; have hnc49 := NB127_134.out; have hcz50_0 : w48.cell? ⟨gb134, 0, none⟩ = some (.int .i64 0) := (blk_cell BK134.out 0).trans rfl; have hcz50_1 : w48.cell? ⟨gb134, 1, none⟩ = some (.string (⟨#[]⟩ : ByteArray)) := (blk_cell BK134.out 1).trans rfl; have hcz50_2 : w48.cell? ⟨gb134, 2, none⟩ = some (.int .i64 0) := (blk_cell BK134.out 2).trans rfl; have hcz50_3 : w48.cell? ⟨gb134, 3, none⟩ = some (.int .i64 0) := (blk_cell BK134.out 3).trans rfl; have hfz50_0 := blk_frozen BK134.out 0; have hfz50_1 := blk_frozen BK134.out 1; have hfz50_2 := blk_frozen BK134.out 2; have hfz50_3 := blk_frozen BK134.out 3))
      go_roundg k2
      case measure => have := HK1.out; have := HK2.out; omega
      case rel => exact ⟨(x8_2), (wrap64 (x50_2 + 1)), qgcnt_6, qgcnt_6, H', ⟨qgcnt_15⟩, ⟨qgcnt_5⟩, ⟨qgcnt_12⟩⟩
     rw [if_pos c40] at H
     have c40b0 : (((rd_T60 l0_2 x50_2).f0) == a1) = true := beq_iff_eq.mpr c40
     have c40b1 : (((rd_T60 l0_2 x50_2).f0) != a1) = false := bne_eq_false_iff_eq.mpr c40
     clear c40
     by_cases c41 : ((rd_T60 l0_2 x50_2).f1).toList = a2.toList
     rotate_left
     ·rw [if_neg c41] at H
      have c41b0 : (((rd_T60 l0_2 x50_2).f1).toList == a2.toList) = false := beq_eq_false_iff_ne.mpr c41
      have c41b1 : (((rd_T60 l0_2 x50_2).f1).toList != a2.toList) = true := bne_iff_ne.mpr c41
      have H' := Aside0.mk H
      clear H
      have p133 : 0 ≤ (x50_2 : Int) := of_decide_eq_true qgcnt_8
      have q133 : x50_2 < (l0_2.length : Int) := of_decide_eq_true qgcnt_8
      obtain ⟨ad133, e133, hx133_0, hx133_1, hx133_2, hx133_3⟩ := at_T60 HR0_2.out x50_2 p133 q133
      cases e133
      replace hx133_0 := (HB.out.cell (World.block_lt_of_cell? w _ hx133_0)).trans hx133_0
      replace hx133_1 := (HB.out.cell (World.block_lt_of_cell? w _ hx133_1)).trans hx133_1
      replace hx133_2 := (HB.out.cell (World.block_lt_of_cell? w _ hx133_2)).trans hx133_2
      replace hx133_3 := (HB.out.cell (World.block_lt_of_cell? w _ hx133_3)).trans hx133_3
      replace p133 := eq_true p133
      replace q133 := eq_true q133
      go_wp2_with (first | ((with_reducible refine gate_dst (N := 15) rfl ?_); refine box_event ?hg (N := 15) ?hd (cs := #[.int .i64 0, .string (⟨#[]⟩ : ByteArray), .int .i64 0, .int .i64 0]) (t := 60) ?hr ?_; (case hd => rfl); (case hg => rfl); (case hr => exact qgcnt_14); intro gb134 hg w45 hbox hb; have n0_ := Aside0.mk (blk_below (g := gb127) (o := .cells #[.slice A0_0 l0_0.length c0_0, .slice A0_1 l0_1.length c0_1, .slice (some ad133) l0_2.length c0_2, .slice A0_3 l0_3.length c0_3] 50 (0, 0)) qgcnt_2 hb); have n1_ := Aside0.mk (below_step qgcnt_3 hb); have n2_ := Aside0.mk (hbox); have n3_ := Aside0.mk ((by rw [hg]; exact (below_size qgcnt_3) : w.heap.size ≤ gb134)); have n4_ := Aside0.mk ((by rw [hg]; exact (below_size qgcnt_3) : w.heap.size ≤ gb134)); have n5_ := Aside0.mk ((by rw [hg]; exact Nat.ne_of_lt (blk_lt (g := gb127) (o := .cells #[.slice A0_0 l0_0.length c0_0, .slice A0_1 l0_1.length c0_1, .slice (some ad133) l0_2.length c0_2, .slice A0_3 l0_3.length c0_3] 50 (0, 0)) qgcnt_2) : gb127 ≠ gb134)); have n6_ := Aside0.mk ((by rw [hg]; exact Nat.ne_of_gt (blk_lt (g := gb127) (o := .cells #[.slice A0_0 l0_0.length c0_0, .slice A0_1 l0_1.length c0_1, .slice (some ad133) l0_2.length c0_2, .slice A0_3 l0_3.length c0_3] 50 (0, 0)) qgcnt_2) : gb134 ≠ gb127)); clear BK127; clear HB; have BK127 := n0_; have HB := n1_; have BK134 := n2_; have GW134 := n3_; have GE134 := n4_; have NB127_134 := n5_; have NB134_127 := n6_; clear n0_ n1_ n2_ n3_ n4_ n5_ n6_; clear hb hbox hg; have hnb46 := NB134_127.out; have hnc46 := NB127_134.out; have hcz47_0 : w45.cell? ⟨gb134, 0, none⟩ = some (.int .i64 0) := (blk_cell BK134.out 0).trans rfl; have hcz47_1 : w45.cell? ⟨gb134, 1, none⟩ = some (.string (⟨#[]⟩ : ByteArray)) := (blk_cell BK134.out 1).trans rfl; have hcz47_2 : w45.cell? ⟨gb134, 2, none⟩ = some (.int .i64 0) := (blk_cell BK134.out 2).trans rfl; have hcz47_3 : w45.cell? ⟨gb134, 3, none⟩ = some (.int .i64 0) := (blk_cell BK134.out 3).trans rfl; have hfz47_0 := blk_frozen BK134.out 0; have hfz47_1 := blk_frozen BK134.out 1; have hfz47_2 := blk_frozen BK134.out 2; have hfz47_3 := blk_frozen BK134.out 3))
      go_roundg k2
      case measure => have := HK1.out; have := HK2.out; omega
      case rel => exact ⟨(x8_2), (wrap64 (x50_2 + 1)), qgcnt_6, qgcnt_6, H', ⟨qgcnt_15⟩, ⟨qgcnt_5⟩, ⟨qgcnt_12⟩⟩
     rw [if_pos c41] at H
     have c41b0 : (((rd_T60 l0_2 x50_2).f1).toList == a2.toList) = true := beq_iff_eq.mpr c41
     have c41b1 : (((rd_T60 l0_2 x50_2).f1).toList != a2.toList) = false := bne_eq_false_iff_eq.mpr c41
     clear c41
     have H' := Aside0.mk H
     clear H
     have p133 : 0 ≤ (x50_2 : Int) := of_decide_eq_true qgcnt_8
     have q133 : x50_2 < (l0_2.length : Int) := of_decide_eq_true qgcnt_8
     obtain ⟨ad133, e133, hx133_0, hx133_1, hx133_2, hx133_3⟩ := at_T60 HR0_2.out x50_2 p133 q133
     cases e133
     replace hx133_0 := (HB.out.cell (World.block_lt_of_cell? w _ hx133_0)).trans hx133_0
     replace hx133_1 := (HB.out.cell (World.block_lt_of_cell? w _ hx133_1)).trans hx133_1
     replace hx133_2 := (HB.out.cell (World.block_lt_of_cell? w _ hx133_2)).trans hx133_2
     replace hx133_3 := (HB.out.cell (World.block_lt_of_cell? w _ hx133_3)).trans hx133_3
     replace p133 := eq_true p133
     replace q133 := eq_true q133
     go_wp2_with (first | ((with_reducible refine gate_dst (N := 15) rfl ?_); refine box_event ?hg (N := 15) ?hd (cs := #[.int .i64 0, .string (⟨#[]⟩ : ByteArray), .int .i64 0, .int .i64 0]) (t := 60) ?hr ?_; (case hd => rfl); (case hg => rfl); (case hr => exact qgcnt_14); intro gb134 hg w42 hbox hb; have n0_ := Aside0.mk (blk_below (g := gb127) (o := .cells #[.slice A0_0 l0_0.length c0_0, .slice A0_1 l0_1.length c0_1, .slice (some ad133) l0_2.length c0_2, .slice A0_3 l0_3.length c0_3] 50 (0, 0)) qgcnt_2 hb); have n1_ := Aside0.mk (below_step qgcnt_3 hb); have n2_ := Aside0.mk (hbox); have n3_ := Aside0.mk ((by rw [hg]; exact (below_size qgcnt_3) : w.heap.size ≤ gb134)); have n4_ := Aside0.mk ((by rw [hg]; exact (below_size qgcnt_3) : w.heap.size ≤ gb134)); have n5_ := Aside0.mk ((by rw [hg]; exact Nat.ne_of_lt (blk_lt (g := gb127) (o := .cells #[.slice A0_0 l0_0.length c0_0, .slice A0_1 l0_1.length c0_1, .slice (some ad133) l0_2.length c0_2, .slice A0_3 l0_3.length c0_3] 50 (0, 0)) qgcnt_2) : gb127 ≠ gb134)); have n6_ := Aside0.mk ((by rw [hg]; exact Nat.ne_of_gt (blk_lt (g := gb127) (o := .cells #[.slice A0_0 l0_0.length c0_0, .slice A0_1 l0_1.length c0_1, .slice (some ad133) l0_2.length c0_2, .slice A0_3 l0_3.length c0_3] 50 (0, 0)) qgcnt_2) : gb134 ≠ gb127)); clear BK127; clear HB; have BK127 := n0_; have HB := n1_; have BK134 := n2_; have GW134 := n3_; have GE134 := n4_; have NB127_134 := n5_; have NB134_127 := n6_; clear n0_ n1_ n2_ n3_ n4_ n5_ n6_; clear hb hbox hg; have hnb43 := NB134_127.out; have hnc43 := NB127_134.out; have hcz44_0 : w42.cell? ⟨gb134, 0, none⟩ = some (.int .i64 0) := (blk_cell BK134.out 0).trans rfl; have hcz44_1 : w42.cell? ⟨gb134, 1, none⟩ = some (.string (⟨#[]⟩ : ByteArray)) := (blk_cell BK134.out 1).trans rfl; have hcz44_2 : w42.cell? ⟨gb134, 2, none⟩ = some (.int .i64 0) := (blk_cell BK134.out 2).trans rfl; have hcz44_3 : w42.cell? ⟨gb134, 3, none⟩ = some (.int .i64 0) := (blk_cell BK134.out 3).trans rfl; have hfz44_0 := blk_frozen BK134.out 0; have hfz44_1 := blk_frozen BK134.out 1; have hfz44_2 := blk_frozen BK134.out 2; have hfz44_3 := blk_frozen BK134.out 3))
     go_roundg k2
     case measure => have := HK1.out; have := HK2.out; omega
     case rel => exact ⟨(wrap64 (x8_2 + ((rd_T60 l0_2 x50_2).f2))), (wrap64 (x50_2 + 1)), qgcnt_6, qgcnt_6, H', ⟨qgcnt_15⟩, ⟨qgcnt_5⟩, ⟨qgcnt_12⟩⟩
    rw [if_neg c37] at H
    have c37b0 : decide (x50_2 < (l0_2.length : Int)) = false := decide_eq_false c37
    clear c37
    have H' := Aside0.mk H
    clear H
    have hcz51_0 : wr.cell? ⟨gb127, 0, none⟩ = some (.slice A0_0 l0_0.length c0_0) := (blk_cell BK127.out 0).trans rfl
    have hcz51_1 : wr.cell? ⟨gb127, 1, none⟩ = some (.slice A0_1 l0_1.length c0_1) := (blk_cell BK127.out 1).trans rfl
    have hcz51_2 : wr.cell? ⟨gb127, 2, none⟩ = some (.slice A0_2 l0_2.length c0_2) := (blk_cell BK127.out 2).trans rfl
    have hcz51_3 : wr.cell? ⟨gb127, 3, none⟩ = some (.slice A0_3 l0_3.length c0_3) := (blk_cell BK127.out 3).trans rfl
    have hfz51_0 := blk_frozen BK127.out 0
    have hfz51_1 := blk_frozen BK127.out 1
    have hfz51_2 := blk_frozen BK127.out 2
    have hfz51_3 := blk_frozen BK127.out 3
    go_wp2
    go_loopg [9, 72] k2 (fun kq v9 v72 w' => ∃ (x9_3 : Int) (x72_3 : Int), v9 = .int .i64 x9_3 ∧ v72 = .int .i64 x72_3 ∧ Aside0 (estimate_Count.l3 kq a1 x8_2 x9_3 l0_3 (l0_3.length : Int) x72_3 = some (r1, r2)) ∧ Aside0 (kq ≤ k2) ∧ Aside0 (w'.heap[gb127]? = some (.cells #[(.slice A0_0 l0_0.length c0_0), (.slice A0_1 l0_1.length c0_1), (.slice A0_2 l0_2.length c0_2), (.slice A0_3 l0_3.length c0_3)] 50 (0, 0))) ∧ Aside0 (Below w.heap.size w w'))
    case atStart => exact ⟨(0), (0), qgcnt_6, qgcnt_6, H', ⟨Nat.le_refl _⟩, ⟨qgcnt_2⟩, ⟨qgcnt_3⟩⟩
    clear H'
    try clear c1
    try clear p1
    try clear q1
    try clear hx1
    try clear c2
    try clear p2
    try clear c3
    try clear c4
    try clear c6
    try clear c6b0
    try clear p6
    try clear c7
    try clear c7b0
    try clear c8
    try clear c8b0
    try clear c10
    try clear c12
    try clear c12b0
    try clear p12
    try clear q12
    try clear hx12
    try clear c13
    try clear c13b0
    try clear p13
    try clear q13
    try clear hx13
    try clear c14
    try clear c14b0
    try clear c16
    try clear c16b0
    try clear c16b1
    try clear c17
    try clear c17b0
    try clear c17b1
    try clear c18
    try clear c19
    try clear c20
    try clear c22
    try clear c25
    try clear c26
    try clear c28
    try clear c31
    try clear c32
    try clear c34
    try clear c37
    try clear c37b0
    try clear c38
    try clear c38b0
    try clear c39
    try clear c39b0
    try clear c40
    try clear c40b0
    try clear c40b1
    try clear c41
    try clear c41b0
    try clear c41b1
    try clear c43
    try clear c46
    try clear c49
    try clear hcz11_0
    try clear hcz11_1
    try clear hcz11_2
    try clear hcz21_0
    try clear hcz21_1
    try clear hcz21_10
    try clear hcz21_11
    try clear hcz21_12
    try clear hcz21_13
    try clear hcz21_2
    try clear hcz21_3
    try clear hcz21_4
    try clear hcz21_5
    try clear hcz21_6
    try clear hcz21_7
    try clear hcz21_8
    try clear hcz21_9
    try clear hcz23_0
    try clear hcz23_1
    try clear hcz23_2
    try clear hcz27_0
    try clear hcz27_1
    try clear hcz27_10
    try clear hcz27_11
    try clear hcz27_12
    try clear hcz27_13
    try clear hcz27_2
    try clear hcz27_3
    try clear hcz27_4
    try clear hcz27_5
    try clear hcz27_6
    try clear hcz27_7
    try clear hcz27_8
    try clear hcz27_9
    try clear hcz29_0
    try clear hcz29_1
    try clear hcz29_2
    try clear hcz33_0
    try clear hcz33_1
    try clear hcz33_10
    try clear hcz33_11
    try clear hcz33_12
    try clear hcz33_13
    try clear hcz33_2
    try clear hcz33_3
    try clear hcz33_4
    try clear hcz33_5
    try clear hcz33_6
    try clear hcz33_7
    try clear hcz33_8
    try clear hcz33_9
    try clear hcz35_0
    try clear hcz35_1
    try clear hcz35_2
    try clear hcz36_0
    try clear hcz36_1
    try clear hcz36_2
    try clear hcz36_3
    try clear hcz44_0
    try clear hcz44_1
    try clear hcz44_2
    try clear hcz44_3
    try clear hcz47_0
    try clear hcz47_1
    try clear hcz47_2
    try clear hcz47_3
    try clear hcz50_0
    try clear hcz50_1
    try clear hcz50_2
    try clear hcz50_3
    try clear hcz51_0
    try clear hcz51_1
    try clear hcz51_2
    try clear hcz51_3
    try clear hcz5_0
    try clear hcz5_1
    try clear hcz5_2
    try clear hcz5_3
    try clear hfz11_0
    try clear hfz11_1
    try clear hfz11_2
    try clear hfz21_0
    try clear hfz21_1
    try clear hfz21_10
    try clear hfz21_11
    try clear hfz21_12
    try clear hfz21_13
    try clear hfz21_2
    try clear hfz21_3
    try clear hfz21_4
    try clear hfz21_5
    try clear hfz21_6
    try clear hfz21_7
    try clear hfz21_8
    try clear hfz21_9
    try clear hfz23_0
    try clear hfz23_1
    try clear hfz23_2
    try clear hfz27_0
    try clear hfz27_1
    try clear hfz27_10
    try clear hfz27_11
    try clear hfz27_12
    try clear hfz27_13
    try clear hfz27_2
    try clear hfz27_3
    try clear hfz27_4
    try clear hfz27_5
    try clear hfz27_6
    try clear hfz27_7
    try clear hfz27_8
    try clear hfz27_9
    try clear hfz29_0
    try clear hfz29_1
    try clear hfz29_2
    try clear hfz33_0
    try clear hfz33_1
    try clear hfz33_10
    try clear hfz33_11
    try clear hfz33_12
    try clear hfz33_13
    try clear hfz33_2
    try clear hfz33_3
    try clear hfz33_4
    try clear hfz33_5
    try clear hfz33_6
    try clear hfz33_7
    try clear hfz33_8
    try clear hfz33_9
    try clear hfz35_0
    try clear hfz35_1
    try clear hfz35_2
    try clear hfz36_0
    try clear hfz36_1
    try clear hfz36_2
    try clear hfz36_3
    try clear hfz44_0
    try clear hfz44_1
    try clear hfz44_2
    try clear hfz44_3
    try clear hfz47_0
    try clear hfz47_1
    try clear hfz47_2
    try clear hfz47_3
    try clear hfz50_0
    try clear hfz50_1
    try clear hfz50_2
    try clear hfz50_3
    try clear hfz51_0
    try clear hfz51_1
    try clear hfz51_2
    try clear hfz51_3
    try clear hfz5_0
    try clear hfz5_1
    try clear hfz5_2
    try clear hfz5_3
    try clear hx128_0
    try clear hx128_1
    try clear hx128_2
    try clear hx130_0
    try clear hx130_1
    try clear hx130_10
    try clear hx130_11
    try clear hx130_12
    try clear hx130_13
    try clear hx130_2
    try clear hx130_3
    try clear hx130_4
    try clear hx130_5
    try clear hx130_6
    try clear hx130_7
    try clear hx130_8
    try clear hx130_9
    try clear hx133_0
    try clear hx133_1
    try clear hx133_2
    try clear hx133_3
    try clear p1
    try clear p12
    try clear p128
    try clear p13
    try clear p130
    try clear p133
    try clear p2
    try clear p6
    try clear q1
    try clear q12
    try clear q128
    try clear q13
    try clear q130
    try clear q133
    obtain ⟨x9_3, x72_3, rfl, rfl, HA, HK3, BK127, HB⟩ := hrel
    cases gk with
    | zero => exact absurd HA.out (by simp [estimate_Count.l3])
    | succ k3 =>
     have H := HA.out
     clear HA
     simp only [estimate_Count.l3] at H
     by_cases c52 : x72_3 < (l0_3.length : Int)
     rotate_left
     ·rw [if_neg c52] at H
      have c52b0 : decide (x72_3 < (l0_3.length : Int)) = false := decide_eq_false c52
      clear c52
      obtain ⟨ji62, hji62⟩ : ∃ j_ : Int, (mx 0 (wrap64 (x8_2 - x9_3))) = j_ := ⟨_, rfl⟩
      replace H : (some (ji62, wrap64 (x8_2 + x9_3))) = some (r1, r2) := by first | (rw [hji62] at H; exact H) | (simp only [hji62] at H ⊢; exact H)
      have hji62_ : (if 0 < (wrap64 (x8_2 - x9_3)) then (wrap64 (x8_2 - x9_3)) else 0) = ji62 := hji62
      simp only [Option.some.injEq, Prod.mk.injEq] at H
      obtain ⟨rfl, rfl⟩ := H
      go_wp2
      go_ret2
      exact ⟨by first | rfl | (simp [errW_none, errW_some] <;> rfl) | (simp only [← hji62]; first | rfl | (simp [errW_none, errW_some] <;> rfl)) | (simp [*, errW_none, errW_some] <;> rfl), qgcnt_3⟩
     rw [if_pos c52] at H
     have c52b0 : decide (x72_3 < (l0_3.length : Int)) = true := decide_eq_true c52
     clear c52
     by_cases c53 : 0 ≤ x72_3
     rotate_left
     ·rw [if_neg c53] at H
      exact absurd H (by simp)
     rw [if_pos c53] at H
     have c53b0 : decide (0 ≤ x72_3) = true := decide_eq_true c53
     clear c53
     by_cases c54 : x72_3 < (l0_3.length : Int)
     rotate_left
     ·rw [if_neg c54] at H
      exact absurd H (by simp)
     rw [if_pos c54] at H
     have c54b0 : decide (x72_3 < (l0_3.length : Int)) = true := decide_eq_true c54
     clear c54
     by_cases c55 : ((rd_T62 l0_3 x72_3).f0) = a1
     rotate_left
     ·rw [if_neg c55] at H
      have c55b0 : (((rd_T62 l0_3 x72_3).f0) == a1) = false := beq_eq_false_iff_ne.mpr c55
      have c55b1 : (((rd_T62 l0_3 x72_3).f0) != a1) = true := bne_iff_ne.mpr c55
      have H' := Aside0.mk H
      clear H
      have p135 : 0 ≤ (x72_3 : Int) := of_decide_eq_true qgcnt_8
      have q135 : x72_3 < (l0_3.length : Int) := of_decide_eq_true qgcnt_8
      obtain ⟨ad135, e135, hx135_0, hx135_1⟩ := at_T62 HR0_3.out x72_3 p135 q135
      cases e135
      replace hx135_0 := (HB.out.cell (World.block_lt_of_cell? w _ hx135_0)).trans hx135_0
      replace hx135_1 := (HB.out.cell (World.block_lt_of_cell? w _ hx135_1)).trans hx135_1
      replace p135 := eq_true p135
      replace q135 := eq_true q135
      go_wp2_with (first | ((with_reducible refine gate_dst (N := 17) rfl ?_); refine box_event ?hg (N := 17) ?hd (cs := #[.int .i64 0, .int .i64 0]) (t := 62) ?hr ?_; (case hd => rfl); (case hg => rfl); (case hr => exact qgcnt_14); intro gb136 hg w59 hbox hb; have n0_ := Aside0.mk (blk_below (g := gb127) (o := .cells #[.slice A0_0 l0_0.length c0_0, .slice A0_1 l0_1.length c0_1, .slice A0_2 l0_2.length c0_2, .slice (some ad135) l0_3.length c0_3] 50 (0, 0)) qgcnt_2 hb); have n1_ := Aside0.mk (below_step qgcnt_3 hb); have n2_ := Aside0.mk (hbox); have n3_ := Aside0.mk ((by rw [hg]; exact (below_size qgcnt_3) : w.heap.size ≤ gb136)); have n4_ := Aside0.mk ((by rw [hg]; exact (below_size qgcnt_3) : w.heap.size ≤ gb136)); have n5_ := Aside0.mk ((by rw [hg]; exact Nat.ne_of_lt (blk_lt (g := gb127) (o := .cells #[.slice A0_0 l0_0.length c0_0, .slice A0_1 l0_1.length c0_1, .slice A0_2 l0_2.length c0_2, .slice (some ad135) l0_3.length c0_3] 50 (0, 0)) qgcnt_2) : gb127 ≠ gb136)); have n6_ := Aside0.mk ((by rw [hg]; exact Nat.ne_of_gt (blk_lt (g := gb127) (o := .cells #[.slice A0_0 l0_0.length c0_0, .slice A0_1 l0_1.length c0_1, .slice A0_2 l0_2.length c0_2, .slice (some ad135) l0_3.length c0_3] 50 (0, 0)) qgcnt_2) : gb136 ≠ gb127)); clear BK127; clear HB; have BK127 := n0_; have HB := n1_; have BK136 := n2_; have GW136 := n3_; have GE136 := n4_; have NB127_136 := n5_; have NB136_127 := n6_; clear n0_ n1_ n2_ n3_ n4_ n5_ n6_; clear hb hbox hg; have hnb60 := NB136_127.out; have hnc60 := NB127_136.out; have hcz61_0 : w59.cell? ⟨gb136, 0, none⟩ = some (.int .i64 0) := (blk_cell BK136.out 0).trans rfl; have hcz61_1 : w59.cell? ⟨gb136, 1, none⟩ = some (.int .i64 0) := (blk_cell BK136.out 1).trans rfl; have hfz61_0 := blk_frozen BK136.out 0; have hfz61_1 := blk_frozen BK136.out 1))
      go_roundg k3
      case measure => have := HK1.out; have := HK2.out; have := HK3.out; omega
      case rel => exact ⟨(x9_3), (wrap64 (x72_3 + 1)), qgcnt_6, qgcnt_6, H', ⟨by have := HK1.out; have := HK2.out; have := HK3.out; omega⟩, ⟨qgcnt_11⟩, ⟨qgcnt_16⟩⟩
     rw [if_pos c55] at H
     have c55b0 : (((rd_T62 l0_3 x72_3).f0) == a1) = true := beq_iff_eq.mpr c55
     have c55b1 : (((rd_T62 l0_3 x72_3).f0) != a1) = false := bne_eq_false_iff_eq.mpr c55
     clear c55
     have H' := Aside0.mk H
     clear H
     have p135 : 0 ≤ (x72_3 : Int) := of_decide_eq_true qgcnt_8
     have q135 : x72_3 < (l0_3.length : Int) := of_decide_eq_true qgcnt_8
     obtain ⟨ad135, e135, hx135_0, hx135_1⟩ := at_T62 HR0_3.out x72_3 p135 q135
     cases e135
     replace hx135_0 := (HB.out.cell (World.block_lt_of_cell? w _ hx135_0)).trans hx135_0
     replace hx135_1 := (HB.out.cell (World.block_lt_of_cell? w _ hx135_1)).trans hx135_1
     replace p135 := eq_true p135
     replace q135 := eq_true q135
     go_wp2_with (first | ((with_reducible refine gate_dst (N := 17) rfl ?_); refine box_event ?hg (N := 17) ?hd (cs := #[.int .i64 0, .int .i64 0]) (t := 62) ?hr ?_; (case hd => rfl); (case hg => rfl); (case hr => exact qgcnt_14); intro gb136 hg w56 hbox hb; have n0_ := Aside0.mk (blk_below (g := gb127) (o := .cells #[.slice A0_0 l0_0.length c0_0, .slice A0_1 l0_1.length c0_1, .slice A0_2 l0_2.length c0_2, .slice (some ad135) l0_3.length c0_3] 50 (0, 0)) qgcnt_2 hb); have n1_ := Aside0.mk (below_step qgcnt_3 hb); have n2_ := Aside0.mk (hbox); have n3_ := Aside0.mk ((by rw [hg]; exact (below_size qgcnt_3) : w.heap.size ≤ gb136)); have n4_ := Aside0.mk ((by rw [hg]; exact (below_size qgcnt_3) : w.heap.size ≤ gb136)); have n5_ := Aside0.mk ((by rw [hg]; exact Nat.ne_of_lt (blk_lt (g := gb127) (o := .cells #[.slice A0_0 l0_0.length c0_0, .slice A0_1 l0_1.length c0_1, .slice A0_2 l0_2.length c0_2, .slice (some ad135) l0_3.length c0_3] 50 (0, 0)) qgcnt_2) : gb127 ≠ gb136)); have n6_ := Aside0.mk ((by rw [hg]; exact Nat.ne_of_gt (blk_lt (g := gb127) (o := .cells #[.slice A0_0 l0_0.length c0_0, .slice A0_1 l0_1.length c0_1, .slice A0_2 l0_2.length c0_2, .slice (some ad135) l0_3.length c0_3] 50 (0, 0)) qgcnt_2) : gb136 ≠ gb127)); clear BK127; clear HB; have BK127 := n0_; have HB := n1_; have BK136 := n2_; have GW136 := n3_; have GE136 := n4_; have NB127_136 := n5_; have NB136_127 := n6_; clear n0_ n1_ n2_ n3_ n4_ n5_ n6_; clear hb hbox hg; have hnb57 := NB136_127.out; have hnc57 := NB127_136.out; have hcz58_0 : w56.cell? ⟨gb136, 0, none⟩ = some (.int .i64 0) := (blk_cell BK136.out 0).trans rfl; have hcz58_1 : w56.cell? ⟨gb136, 1, none⟩ = some (.int .i64 0) := (blk_cell BK136.out 1).trans rfl; have hfz58_0 := blk_frozen BK136.out 0; have hfz58_1 := blk_frozen BK136.out 1))
     go_roundg k3
     case measure => have := HK1.out; have := HK2.out; have := HK3.out; omega
     case rel => exact ⟨(wrap64 (x9_3 + ((rd_T62 l0_3 x72_3).f1))), (wrap64 (x72_3 + 1)), qgcnt_6, qgcnt_6, H', ⟨by have := HK1.out; have := HK2.out; have := HK3.out; omega⟩, ⟨qgcnt_11⟩, ⟨qgcnt_16⟩⟩
  rw [if_pos c6] at H
  have c6b0 : decide (x21_1 < (l0_0.length : Int)) = true := decide_eq_true c6
  clear c6
  by_cases c7 : 0 ≤ x21_1
  rotate_left
  ·rw [if_neg c7] at H
   exact absurd H (by simp)
  rw [if_pos c7] at H
  have c7b0 : decide (0 ≤ x21_1) = true := decide_eq_true c7
  clear c7
  by_cases c8 : x21_1 < (l0_0.length : Int)
  rotate_left
  ·rw [if_neg c8] at H
   exact absurd H (by simp)
  rw [if_pos c8] at H
  have c8b0 : decide (x21_1 < (l0_0.length : Int)) = true := decide_eq_true c8
  clear c8
  have H' := Aside0.mk H
  clear H
  have p128 : 0 ≤ (x21_1 : Int) := of_decide_eq_true qgcnt_8
  have q128 : x21_1 < (l0_0.length : Int) := of_decide_eq_true qgcnt_8
  obtain ⟨ad128, A128_2, c128_2, e128, hx128_0, hx128_1, hx128_2, hl128_2, hi128_2⟩ := at_T53 HR0_0.out x21_1 p128 q128
  cases e128
  replace hx128_0 := (HB.out.cell (World.block_lt_of_cell? w _ hx128_0)).trans hx128_0
  replace hx128_1 := (HB.out.cell (World.block_lt_of_cell? w _ hx128_1)).trans hx128_1
  replace hx128_2 := (HB.out.cell (World.block_lt_of_cell? w _ hx128_2)).trans hx128_2
  have HR128_2 := Aside0.mk hi128_2
  have HC128_2 := Aside0.mk hl128_2
  clear hi128_2 hl128_2
  replace p128 := eq_true p128
  replace q128 := eq_true q128
  go_wp2_with (first | ((with_reducible refine gate_dst (N := 11) rfl ?_); refine box_event ?hg (N := 11) ?hd (cs := #[.int .i64 0, .int .i64 0, .slice none 0 0]) (t := 53) ?hr ?_; (case hd => rfl); (case hg => rfl); (case hr => exact qgcnt_14); intro gb129 hg w9 hbox hb; have n0_ := Aside0.mk (blk_below (g := gb127) (o := .cells #[.slice (some ad128) l0_0.length c0_0, .slice A0_1 l0_1.length c0_1, .slice A0_2 l0_2.length c0_2, .slice A0_3 l0_3.length c0_3] 50 (0, 0)) qgcnt_2 hb); have n1_ := Aside0.mk (below_step qgcnt_3 hb); have n2_ := Aside0.mk (hbox); have n3_ := Aside0.mk ((by rw [hg]; exact (below_size qgcnt_3) : w.heap.size ≤ gb129)); have n4_ := Aside0.mk ((by rw [hg]; exact (below_size qgcnt_3) : w.heap.size ≤ gb129)); have n5_ := Aside0.mk ((by rw [hg]; exact Nat.ne_of_lt (blk_lt (g := gb127) (o := .cells #[.slice (some ad128) l0_0.length c0_0, .slice A0_1 l0_1.length c0_1, .slice A0_2 l0_2.length c0_2, .slice A0_3 l0_3.length c0_3] 50 (0, 0)) qgcnt_2) : gb127 ≠ gb129)); have n6_ := Aside0.mk ((by rw [hg]; exact Nat.ne_of_gt (blk_lt (g := gb127) (o := .cells #[.slice (some ad128) l0_0.length c0_0, .slice A0_1 l0_1.length c0_1, .slice A0_2 l0_2.length c0_2, .slice A0_3 l0_3.length c0_3] 50 (0, 0)) qgcnt_2) : gb129 ≠ gb127)); clear BK127; clear HB; have BK127 := n0_; have HB := n1_; have BK129 := n2_; have GW129 := n3_; have GE129 := n4_; have NB127_129 := n5_; have NB129_127 := n6_; clear n0_ n1_ n2_ n3_ n4_ n5_ n6_; clear hb hbox hg; have hnb10 := NB129_127.out; have hnc10 := NB127_129.out; have hcz11_0 : w9.cell? ⟨gb129, 0, none⟩ = some (.int .i64 0) := (blk_cell BK129.out 0).trans rfl; have hcz11_1 : w9.cell? ⟨gb129, 1, none⟩ = some (.int .i64 0) := (blk_cell BK129.out 1).trans rfl; have hcz11_2 : w9.cell? ⟨gb129, 2, none⟩ = some (.slice none 0 0) := (blk_cell BK129.out 2).trans rfl; have hfz11_0 := blk_frozen BK129.out 0; have hfz11_1 := blk_frozen BK129.out 1; have hfz11_2 := blk_frozen BK129.out 2))
  go_loopg [8, 28] k1 (fun kq v8 v28 w' => ∃ (x8_2 : Int) (x28_2 : Int), v8 = .int .i64 x8_2 ∧ v28 = .int .i64 x28_2 ∧ Aside0 (estimate_Count.l1 kq a1 a2 x8_2 0 l0_0 (l0_0.length : Int) x21_1 ((rd_T53 l0_0 x21_1).f2) (((rd_T53 l0_0 x21_1).f2).length : Int) x28_2 l0_0 l0_1 l0_2 l0_3 ((rd_T53 l0_0 x21_1).f0) ((rd_T53 l0_0 x21_1).f1) ((rd_T53 l0_0 x21_1).f2) = some (r1, r2)) ∧ Aside0 (kq ≤ k1) ∧ Aside0 (w'.heap[gb127]? = some (.cells #[(.slice (some ad128) l0_0.length c0_0), (.slice A0_1 l0_1.length c0_1), (.slice A0_2 l0_2.length c0_2), (.slice A0_3 l0_3.length c0_3)] 50 (0, 0))) ∧ Aside0 (w'.heap[gb129]? = some (.cells #[.int .i64 ((rd_T53 l0_0 x21_1).f0), .int .i64 ((rd_T53 l0_0 x21_1).f1), (.slice A128_2 ((rd_T53 l0_0 x21_1).f2).length c128_2)] 53 (0, 0))) ∧ Aside0 (Below w.heap.size w w'))
  case atStart => exact ⟨(x8_1), (0), qgcnt_6, qgcnt_6, H', ⟨Nat.le_refl _⟩, ⟨by (with_reducible repeat (first | refine blk_drewN ?_ _ | refine blk_drew ?_ | refine blk_alloc ?_ _)); refine blk_far ?_ NB127_129.out _; (with_reducible repeat (first | refine blk_drewN ?_ _ | refine blk_drew ?_ | refine blk_alloc ?_ _)); refine blk_far ?_ NB127_129.out _; (with_reducible repeat (first | refine blk_drewN ?_ _ | refine blk_drew ?_ | refine blk_alloc ?_ _)); refine blk_far ?_ NB127_129.out _; (with_reducible repeat (first | refine blk_drewN ?_ _ | refine blk_drew ?_ | refine blk_alloc ?_ _)); exact BK127.out⟩, ⟨by (with_reducible repeat (first | refine blk_drewN ?_ _ | refine blk_drew ?_ | refine blk_alloc ?_ _)); refine blk_put (cs := #[.int .i64 ((rd_T53 l0_0 x21_1).f0), .int .i64 ((rd_T53 l0_0 x21_1).f1), .slice none 0 0]) ?_ 2 _ rfl; (with_reducible repeat (first | refine blk_drewN ?_ _ | refine blk_drew ?_ | refine blk_alloc ?_ _)); refine blk_put (cs := #[.int .i64 ((rd_T53 l0_0 x21_1).f0), .int .i64 0, .slice none 0 0]) ?_ 1 _ rfl; (with_reducible repeat (first | refine blk_drewN ?_ _ | refine blk_drew ?_ | refine blk_alloc ?_ _)); refine blk_put (cs := #[.int .i64 0, .int .i64 0, .slice none 0 0]) ?_ 0 _ rfl; (with_reducible repeat (first | refine blk_drewN ?_ _ | refine blk_drew ?_ | refine blk_alloc ?_ _)); exact BK129.out⟩, ⟨qgcnt_4⟩⟩
  clear H'
  try clear c1
  try clear p1
  try clear q1
  try clear hx1
  try clear p2
  try clear c6
  try clear c6b0
  try clear c7
  try clear c7b0
  try clear c8
  try clear c8b0
  try clear c10
  try clear hcz11_0
  try clear hcz11_1
  try clear hcz11_2
  try clear hcz5_0
  try clear hcz5_1
  try clear hcz5_2
  try clear hcz5_3
  try clear hfz11_0
  try clear hfz11_1
  try clear hfz11_2
  try clear hfz5_0
  try clear hfz5_1
  try clear hfz5_2
  try clear hfz5_3
  try clear hx128_0
  try clear hx128_1
  try clear hx128_2
  try clear p128
  try clear p2
  try clear q128
  obtain ⟨x8_2, x28_2, rfl, rfl, HA, HK2, BK127, BK129, HB⟩ := hrel
  cases gk with
  | zero => exact absurd HA.out (by simp [estimate_Count.l1])
  | succ k2 =>
   have H := HA.out
   clear HA
   simp only [estimate_Count.l1] at H
   by_cases c12 : x28_2 < (((rd_T53 l0_0 x21_1).f2).length : Int)
   rotate_left
   ·rw [if_neg c12] at H
    have c12b0 : decide (x28_2 < (((rd_T53 l0_0 x21_1).f2).length : Int)) = false := decide_eq_false c12
    clear c12
    have H' := Aside0.mk H
    clear H
    go_wp2
    go_roundg k2
    case measure => have := HK1.out; have := HK2.out; omega
    case rel => exact ⟨(x8_2), (wrap64 (x21_1 + 1)), qgcnt_6, qgcnt_6, H', ⟨qgcnt_15⟩, ⟨qgcnt_2⟩, ⟨qgcnt_4⟩⟩
   rw [if_pos c12] at H
   have c12b0 : decide (x28_2 < (((rd_T53 l0_0 x21_1).f2).length : Int)) = true := decide_eq_true c12
   clear c12
   by_cases c13 : 0 ≤ x28_2
   rotate_left
   ·rw [if_neg c13] at H
    exact absurd H (by simp)
   rw [if_pos c13] at H
   have c13b0 : decide (0 ≤ x28_2) = true := decide_eq_true c13
   clear c13
   by_cases c14 : x28_2 < (((rd_T53 l0_0 x21_1).f2).length : Int)
   rotate_left
   ·rw [if_neg c14] at H
    exact absurd H (by simp)
   rw [if_pos c14] at H
   have c14b0 : decide (x28_2 < (((rd_T53 l0_0 x21_1).f2).length : Int)) = true := decide_eq_true c14
   clear c14
   replace H := Option.bind_eq_some_iff.mp H
   obtain ⟨t132, A150, H⟩ := H
   replace H : (if t132 = a1 then (if ((rd_T58 ((rd_T53 l0_0 x21_1).f2) x28_2).f6).toList = a2.toList then (estimate_Count.l1 k2 a1 a2 (wrap64 (x8_2 + 1)) 0 l0_0 (l0_0.length : Int) x21_1 ((rd_T53 l0_0 x21_1).f2) (((rd_T53 l0_0 x21_1).f2).length : Int) (wrap64 (x28_2 + 1)) l0_0 l0_1 l0_2 l0_3 ((rd_T53 l0_0 x21_1).f0) ((rd_T53 l0_0 x21_1).f1) ((rd_T53 l0_0 x21_1).f2)) else (estimate_Count.l1 k2 a1 a2 x8_2 0 l0_0 (l0_0.length : Int) x21_1 ((rd_T53 l0_0 x21_1).f2) (((rd_T53 l0_0 x21_1).f2).length : Int) (wrap64 (x28_2 + 1)) l0_0 l0_1 l0_2 l0_3 ((rd_T53 l0_0 x21_1).f0) ((rd_T53 l0_0 x21_1).f1) ((rd_T53 l0_0 x21_1).f2))) else (estimate_Count.l1 k2 a1 a2 x8_2 0 l0_0 (l0_0.length : Int) x21_1 ((rd_T53 l0_0 x21_1).f2) (((rd_T53 l0_0 x21_1).f2).length : Int) (wrap64 (x28_2 + 1)) l0_0 l0_1 l0_2 l0_3 ((rd_T53 l0_0 x21_1).f0) ((rd_T53 l0_0 x21_1).f1) ((rd_T53 l0_0 x21_1).f2))) = some (r1, r2) := H
   have A15 := Aside0.mk A150
   clear A150
   by_cases c16 : t132 = a1
   rotate_left
   ·rw [if_neg c16] at H
    have c16b0 : (t132 == a1) = false := beq_eq_false_iff_ne.mpr c16
    have c16b1 : (t132 != a1) = true := bne_iff_ne.mpr c16
    have H' := Aside0.mk H
    clear H
    have p130 : 0 ≤ (x28_2 : Int) := of_decide_eq_true qgcnt_8
    have q130 : x28_2 < (((rd_T53 l0_0 x21_1).f2).length : Int) := of_decide_eq_true qgcnt_8
    obtain ⟨ad130, A130_12, c130_12, A130_13, c130_13, e130, hx130_0, hx130_1, hx130_2, hx130_3, hx130_4, hx130_5, hx130_6, hx130_7, hx130_8, hx130_9, hx130_10, hx130_11, hx130_12, hx130_13, hl130_12, hi130_12, hl130_13, hi130_13⟩ := at_T58 HR128_2.out x28_2 p130 q130
    cases e130
    replace hx130_0 := (HB.out.cell (World.block_lt_of_cell? w _ hx130_0)).trans hx130_0
    replace hx130_1 := (HB.out.cell (World.block_lt_of_cell? w _ hx130_1)).trans hx130_1
    replace hx130_2 := (HB.out.cell (World.block_lt_of_cell? w _ hx130_2)).trans hx130_2
    replace hx130_3 := (HB.out.cell (World.block_lt_of_cell? w _ hx130_3)).trans hx130_3
    replace hx130_4 := (HB.out.cell (World.block_lt_of_cell? w _ hx130_4)).trans hx130_4
    replace hx130_5 := (HB.out.cell (World.block_lt_of_cell? w _ hx130_5)).trans hx130_5
    replace hx130_6 := (HB.out.cell (World.block_lt_of_cell? w _ hx130_6)).trans hx130_6
    replace hx130_7 := (HB.out.cell (World.block_lt_of_cell? w _ hx130_7)).trans hx130_7
    replace hx130_8 := (HB.out.cell (World.block_lt_of_cell? w _ hx130_8)).trans hx130_8
    replace hx130_9 := (HB.out.cell (World.block_lt_of_cell? w _ hx130_9)).trans hx130_9
    replace hx130_10 := (HB.out.cell (World.block_lt_of_cell? w _ hx130_10)).trans hx130_10
    replace hx130_11 := (HB.out.cell (World.block_lt_of_cell? w _ hx130_11)).trans hx130_11
    replace hx130_12 := (HB.out.cell (World.block_lt_of_cell? w _ hx130_12)).trans hx130_12
    replace hx130_13 := (HB.out.cell (World.block_lt_of_cell? w _ hx130_13)).trans hx130_13
    have HR130_12 := Aside0.mk hi130_12
    have HC130_12 := Aside0.mk hl130_12
    clear hi130_12 hl130_12
    have HR130_13 := Aside0.mk hi130_13
    have HC130_13 := Aside0.mk hl130_13
    clear hi130_13 hl130_13
    replace p130 := eq_true p130
    replace q130 := eq_true q130
    go_wp2_with (first | ((with_reducible refine gate_dst (N := 13) rfl ?_); refine box_event ?hg (N := 13) ?hd (cs := #[.int .i64 0, .int .i64 0, .int .i64 0, .int .i64 0, .int .i64 0, .int .i64 0, .string (⟨#[]⟩ : ByteArray), .string (⟨#[]⟩ : ByteArray), .string (⟨#[]⟩ : ByteArray), .int .i64 0, .int .i64 0, .bool false, .slice none 0 0, .slice none 0 0]) (t := 58) ?hr ?_; (case hd => rfl); (case hg => rfl); (case hr => exact qgcnt_14); intro gb131 hg w30 hbox hb; have n0_ := Aside0.mk (blk_below (g := gb127) (o := .cells #[.slice (some ad128) l0_0.length c0_0, .slice A0_1 l0_1.length c0_1, .slice A0_2 l0_2.length c0_2, .slice A0_3 l0_3.length c0_3] 50 (0, 0)) qgcnt_2 hb); have n1_ := Aside0.mk (blk_below (g := gb129) (o := .cells #[.int .i64 ((rd_T53 l0_0 x21_1).f0), .int .i64 ((rd_T53 l0_0 x21_1).f1), .slice (some ad130) ((rd_T53 l0_0 x21_1).f2).length c128_2] 53 (0, 0)) qgcnt_7 hb); have n2_ := Aside0.mk (below_step qgcnt_4 hb); have n3_ := Aside0.mk (hbox); have n4_ := Aside0.mk ((by rw [hg]; exact (below_size qgcnt_4) : w.heap.size ≤ gb131)); have n5_ := Aside0.mk ((by rw [hg]; exact (below_size qgcnt_4) : w.heap.size ≤ gb131)); have n6_ := Aside0.mk ((by rw [hg]; exact Nat.ne_of_lt (blk_lt (g := gb127) (o := .cells #[.slice (some ad128) l0_0.length c0_0, .slice A0_1 l0_1.length c0_1, .slice A0_2 l0_2.length c0_2, .slice A0_3 l0_3.length c0_3] 50 (0, 0)) qgcnt_2) : gb127 ≠ gb131)); have n7_ := Aside0.mk ((by rw [hg]; exact Nat.ne_of_gt (blk_lt (g := gb127) (o := .cells #[.slice (some ad128) l0_0.length c0_0, .slice A0_1 l0_1.length c0_1, .slice A0_2 l0_2.length c0_2, .slice A0_3 l0_3.length c0_3] 50 (0, 0)) qgcnt_2) : gb131 ≠ gb127)); have n8_ := Aside0.mk ((by rw [hg]; exact Nat.ne_of_lt (blk_lt (g := gb129) (o := .cells #[.int .i64 ((rd_T53 l0_0 x21_1).f0), .int .i64 ((rd_T53 l0_0 x21_1).f1), .slice (some ad130) ((rd_T53 l0_0 x21_1).f2).length c128_2] 53 (0, 0)) qgcnt_7) : gb129 ≠ gb131)); have n9_ := Aside0.mk ((by rw [hg]; exact Nat.ne_of_gt (blk_lt (g := gb129) (o := .cells #[.int .i64 ((rd_T53 l0_0 x21_1).f0), .int .i64 ((rd_T53 l0_0 x21_1).f1), .slice (some ad130) ((rd_T53 l0_0 x21_1).f2).length c128_2] 53 (0, 0)) qgcnt_7) : gb131 ≠ gb129)); clear BK127; clear BK129; clear HB; have BK127 := n0_; have BK129 := n1_; have HB := n2_; have BK131 := n3_; have GW131 := n4_; have GE131 := n5_; have NB127_131 := n6_; have NB131_127 := n7_; have NB129_131 := n8_; have NB131_129 := n9_; clear n0_ n1_ n2_ n3_ n4_ n5_ n6_ n7_ n8_ n9_; clear hb hbox hg; have hnb31 := NB131_127.out; have hnc31 := NB127_131.out; have hnb32 := NB131_129.out; have hnc32 := NB129_131.out; have hcz33_0 : w30.cell? ⟨gb131, 0, none⟩ = some (.int .i64 0) := (blk_cell BK131.out 0).trans rfl; have hcz33_1 : w30.cell? ⟨gb131, 1, none⟩ = some (.int .i64 0) := (blk_cell BK131.out 1).trans rfl; have hcz33_2 : w30.cell? ⟨gb131, 2, none⟩ = some (.int .i64 0) := (blk_cell BK131.out 2).trans rfl; have hcz33_3 : w30.cell? ⟨gb131, 3, none⟩ = some (.int .i64 0) := (blk_cell BK131.out 3).trans rfl; have hcz33_4 : w30.cell? ⟨gb131, 4, none⟩ = some (.int .i64 0) := (blk_cell BK131.out 4).trans rfl; have hcz33_5 : w30.cell? ⟨gb131, 5, none⟩ = some (.int .i64 0) := (blk_cell BK131.out 5).trans rfl; have hcz33_6 : w30.cell? ⟨gb131, 6, none⟩ = some (.string (⟨#[]⟩ : ByteArray)) := (blk_cell BK131.out 6).trans rfl; have hcz33_7 : w30.cell? ⟨gb131, 7, none⟩ = some (.string (⟨#[]⟩ : ByteArray)) := (blk_cell BK131.out 7).trans rfl; have hcz33_8 : w30.cell? ⟨gb131, 8, none⟩ = some (.string (⟨#[]⟩ : ByteArray)) := (blk_cell BK131.out 8).trans rfl; have hcz33_9 : w30.cell? ⟨gb131, 9, none⟩ = some (.int .i64 0) := (blk_cell BK131.out 9).trans rfl; have hcz33_10 : w30.cell? ⟨gb131, 10, none⟩ = some (.int .i64 0) := (blk_cell BK131.out 10).trans rfl; have hcz33_11 : w30.cell? ⟨gb131, 11, none⟩ = some (.bool false) := (blk_cell BK131.out 11).trans rfl; have hcz33_12 : w30.cell? ⟨gb131, 12, none⟩ = some (.slice none 0 0) := (blk_cell BK131.out 12).trans rfl; have hcz33_13 : w30.cell? ⟨gb131, 13, none⟩ = some (.slice none 0 0) := (blk_cell BK131.out 13).trans rfl; have hfz33_0 := blk_frozen BK131.out 0; have hfz33_1 := blk_frozen BK131.out 1; have hfz33_2 := blk_frozen BK131.out 2; have hfz33_3 := blk_frozen BK131.out 3; have hfz33_4 := blk_frozen BK131.out 4; have hfz33_5 := blk_frozen BK131.out 5; have hfz33_6 := blk_frozen BK131.out 6; have hfz33_7 := blk_frozen BK131.out 7; have hfz33_8 := blk_frozen BK131.out 8; have hfz33_9 := blk_frozen BK131.out 9; have hfz33_10 := blk_frozen BK131.out 10; have hfz33_11 := blk_frozen BK131.out 11; have hfz33_12 := blk_frozen BK131.out 12; have hfz33_13 := blk_frozen BK131.out 13; have hnb34 := NB129_127.out; have hnc34 := NB127_129.out; have hcz35_0 : w30.cell? ⟨gb129, 0, none⟩ = some (.int .i64 ((rd_T53 l0_0 x21_1).f0)) := (blk_cell BK129.out 0).trans rfl; have hcz35_1 : w30.cell? ⟨gb129, 1, none⟩ = some (.int .i64 ((rd_T53 l0_0 x21_1).f1)) := (blk_cell BK129.out 1).trans rfl; have hcz35_2 : w30.cell? ⟨gb129, 2, none⟩ = some (.slice (some ad130) ((rd_T53 l0_0 x21_1).f2).length c128_2) := (blk_cell BK129.out 2).trans rfl; have hfz35_0 := blk_frozen BK129.out 0; have hfz35_1 := blk_frozen BK129.out 1; have hfz35_2 := blk_frozen BK129.out 2) | ((with_reducible refine gate_callee (f := 18) rfl ?_); refine goesL_ (some 34) rfl rfl Try.func18 (by kernel_rfl) rfl #[.int .i64 ((rd_T53 l0_0 x21_1).f0)] rfl qgcnt_10 ?_; (with_reducible refine (span_Partition.calls ((rd_T53 l0_0 x21_1).f0) t132 _ A15.out).mono ?_); rintro e w' ⟨rfl, ⟨nd, rfl⟩⟩; refine ⟨_, rfl, ?_⟩))
    go_roundg k2
    case measure => have := HK1.out; have := HK2.out; omega
    case rel => exact ⟨(x8_2), (wrap64 (x28_2 + 1)), qgcnt_6, qgcnt_6, H', ⟨qgcnt_15⟩, ⟨qgcnt_0⟩, ⟨qgcnt_1⟩, ⟨qgcnt_9⟩⟩
   rw [if_pos c16] at H
   have c16b0 : (t132 == a1) = true := beq_iff_eq.mpr c16
   have c16b1 : (t132 != a1) = false := bne_eq_false_iff_eq.mpr c16
   clear c16
   by_cases c17 : ((rd_T58 ((rd_T53 l0_0 x21_1).f2) x28_2).f6).toList = a2.toList
   rotate_left
   ·rw [if_neg c17] at H
    have c17b0 : (((rd_T58 ((rd_T53 l0_0 x21_1).f2) x28_2).f6).toList == a2.toList) = false := beq_eq_false_iff_ne.mpr c17
    have c17b1 : (((rd_T58 ((rd_T53 l0_0 x21_1).f2) x28_2).f6).toList != a2.toList) = true := bne_iff_ne.mpr c17
    have H' := Aside0.mk H
    clear H
    have p130 : 0 ≤ (x28_2 : Int) := of_decide_eq_true qgcnt_8
    have q130 : x28_2 < (((rd_T53 l0_0 x21_1).f2).length : Int) := of_decide_eq_true qgcnt_8
    obtain ⟨ad130, A130_12, c130_12, A130_13, c130_13, e130, hx130_0, hx130_1, hx130_2, hx130_3, hx130_4, hx130_5, hx130_6, hx130_7, hx130_8, hx130_9, hx130_10, hx130_11, hx130_12, hx130_13, hl130_12, hi130_12, hl130_13, hi130_13⟩ := at_T58 HR128_2.out x28_2 p130 q130
    cases e130
    replace hx130_0 := (HB.out.cell (World.block_lt_of_cell? w _ hx130_0)).trans hx130_0
    replace hx130_1 := (HB.out.cell (World.block_lt_of_cell? w _ hx130_1)).trans hx130_1
    replace hx130_2 := (HB.out.cell (World.block_lt_of_cell? w _ hx130_2)).trans hx130_2
    replace hx130_3 := (HB.out.cell (World.block_lt_of_cell? w _ hx130_3)).trans hx130_3
    replace hx130_4 := (HB.out.cell (World.block_lt_of_cell? w _ hx130_4)).trans hx130_4
    replace hx130_5 := (HB.out.cell (World.block_lt_of_cell? w _ hx130_5)).trans hx130_5
    replace hx130_6 := (HB.out.cell (World.block_lt_of_cell? w _ hx130_6)).trans hx130_6
    replace hx130_7 := (HB.out.cell (World.block_lt_of_cell? w _ hx130_7)).trans hx130_7
    replace hx130_8 := (HB.out.cell (World.block_lt_of_cell? w _ hx130_8)).trans hx130_8
    replace hx130_9 := (HB.out.cell (World.block_lt_of_cell? w _ hx130_9)).trans hx130_9
    replace hx130_10 := (HB.out.cell (World.block_lt_of_cell? w _ hx130_10)).trans hx130_10
    replace hx130_11 := (HB.out.cell (World.block_lt_of_cell? w _ hx130_11)).trans hx130_11
    replace hx130_12 := (HB.out.cell (World.block_lt_of_cell? w _ hx130_12)).trans hx130_12
    replace hx130_13 := (HB.out.cell (World.block_lt_of_cell? w _ hx130_13)).trans hx130_13
    have HR130_12 := Aside0.mk hi130_12
    have HC130_12 := Aside0.mk hl130_12
    clear hi130_12 hl130_12
    have HR130_13 := Aside0.mk hi130_13
    have HC130_13 := Aside0.mk hl130_13
    clear hi130_13 hl130_13
    replace p130 := eq_true p130
    replace q130 := eq_true q130
    go_wp2_with (first | ((with_reducible refine gate_dst (N := 13) rfl ?_); refine box_event ?hg (N := 13) ?hd (cs := #[.int .i64 0, .int .i64 0, .int .i64 0, .int .i64 0, .int .i64 0, .int .i64 0, .string (⟨#[]⟩ : ByteArray), .string (⟨#[]⟩ : ByteArray), .string (⟨#[]⟩ : ByteArray), .int .i64 0, .int .i64 0, .bool false, .slice none 0 0, .slice none 0 0]) (t := 58) ?hr ?_; (case hd => rfl); (case hg => rfl); (case hr => exact qgcnt_14); intro gb131 hg w24 hbox hb; have n0_ := Aside0.mk (blk_below (g := gb127) (o := .cells #[.slice (some ad128) l0_0.length c0_0, .slice A0_1 l0_1.length c0_1, .slice A0_2 l0_2.length c0_2, .slice A0_3 l0_3.length c0_3] 50 (0, 0)) qgcnt_2 hb); have n1_ := Aside0.mk (blk_below (g := gb129) (o := .cells #[.int .i64 ((rd_T53 l0_0 x21_1).f0), .int .i64 ((rd_T53 l0_0 x21_1).f1), .slice (some ad130) ((rd_T53 l0_0 x21_1).f2).length c128_2] 53 (0, 0)) qgcnt_7 hb); have n2_ := Aside0.mk (below_step qgcnt_4 hb); have n3_ := Aside0.mk (hbox); have n4_ := Aside0.mk ((by rw [hg]; exact (below_size qgcnt_4) : w.heap.size ≤ gb131)); have n5_ := Aside0.mk ((by rw [hg]; exact (below_size qgcnt_4) : w.heap.size ≤ gb131)); have n6_ := Aside0.mk ((by rw [hg]; exact Nat.ne_of_lt (blk_lt (g := gb127) (o := .cells #[.slice (some ad128) l0_0.length c0_0, .slice A0_1 l0_1.length c0_1, .slice A0_2 l0_2.length c0_2, .slice A0_3 l0_3.length c0_3] 50 (0, 0)) qgcnt_2) : gb127 ≠ gb131)); have n7_ := Aside0.mk ((by rw [hg]; exact Nat.ne_of_gt (blk_lt (g := gb127) (o := .cells #[.slice (some ad128) l0_0.length c0_0, .slice A0_1 l0_1.length c0_1, .slice A0_2 l0_2.length c0_2, .slice A0_3 l0_3.length c0_3] 50 (0, 0)) qgcnt_2) : gb131 ≠ gb127)); have n8_ := Aside0.mk ((by rw [hg]; exact Nat.ne_of_lt (blk_lt (g := gb129) (o := .cells #[.int .i64 ((rd_T53 l0_0 x21_1).f0), .int .i64 ((rd_T53 l0_0 x21_1).f1), .slice (some ad130) ((rd_T53 l0_0 x21_1).f2).length c128_2] 53 (0, 0)) qgcnt_7) : gb129 ≠ gb131)); have n9_ := Aside0.mk ((by rw [hg]; exact Nat.ne_of_gt (blk_lt (g := gb129) (o := .cells #[.int .i64 ((rd_T53 l0_0 x21_1).f0), .int .i64 ((rd_T53 l0_0 x21_1).f1), .slice (some ad130) ((rd_T53 l0_0 x21_1).f2).length c128_2] 53 (0, 0)) qgcnt_7) : gb131 ≠ gb129)); clear BK127; clear BK129; clear HB; have BK127 := n0_; have BK129 := n1_; have HB := n2_; have BK131 := n3_; have GW131 := n4_; have GE131 := n5_; have NB127_131 := n6_; have NB131_127 := n7_; have NB129_131 := n8_; have NB131_129 := n9_; clear n0_ n1_ n2_ n3_ n4_ n5_ n6_ n7_ n8_ n9_; clear hb hbox hg; have hnb25 := NB131_127.out; have hnc25 := NB127_131.out; have hnb26 := NB131_129.out; have hnc26 := NB129_131.out; have hcz27_0 : w24.cell? ⟨gb131, 0, none⟩ = some (.int .i64 0) := (blk_cell BK131.out 0).trans rfl; have hcz27_1 : w24.cell? ⟨gb131, 1, none⟩ = some (.int .i64 0) := (blk_cell BK131.out 1).trans rfl; have hcz27_2 : w24.cell? ⟨gb131, 2, none⟩ = some (.int .i64 0) := (blk_cell BK131.out 2).trans rfl; have hcz27_3 : w24.cell? ⟨gb131, 3, none⟩ = some (.int .i64 0) := (blk_cell BK131.out 3).trans rfl; have hcz27_4 : w24.cell? ⟨gb131, 4, none⟩ = some (.int .i64 0) := (blk_cell BK131.out 4).trans rfl; have hcz27_5 : w24.cell? ⟨gb131, 5, none⟩ = some (.int .i64 0) := (blk_cell BK131.out 5).trans rfl; have hcz27_6 : w24.cell? ⟨gb131, 6, none⟩ = some (.string (⟨#[]⟩ : ByteArray)) := (blk_cell BK131.out 6).trans rfl; have hcz27_7 : w24.cell? ⟨gb131, 7, none⟩ = some (.string (⟨#[]⟩ : ByteArray)) := (blk_cell BK131.out 7).trans rfl; have hcz27_8 : w24.cell? ⟨gb131, 8, none⟩ = some (.string (⟨#[]⟩ : ByteArray)) := (blk_cell BK131.out 8).trans rfl; have hcz27_9 : w24.cell? ⟨gb131, 9, none⟩ = some (.int .i64 0) := (blk_cell BK131.out 9).trans rfl; have hcz27_10 : w24.cell? ⟨gb131, 10, none⟩ = some (.int .i64 0) := (blk_cell BK131.out 10).trans rfl; have hcz27_11 : w24.cell? ⟨gb131, 11, none⟩ = some (.bool false) := (blk_cell BK131.out 11).trans rfl; have hcz27_12 : w24.cell? ⟨gb131, 12, none⟩ = some (.slice none 0 0) := (blk_cell BK131.out 12).trans rfl; have hcz27_13 : w24.cell? ⟨gb131, 13, none⟩ = some (.slice none 0 0) := (blk_cell BK131.out 13).trans rfl; have hfz27_0 := blk_frozen BK131.out 0; have hfz27_1 := blk_frozen BK131.out 1; have hfz27_2 := blk_frozen BK131.out 2; have hfz27_3 := blk_frozen BK131.out 3; have hfz27_4 := blk_frozen BK131.out 4; have hfz27_5 := blk_frozen BK131.out 5; have hfz27_6 := blk_frozen BK131.out 6; have hfz27_7 := blk_frozen BK131.out 7; have hfz27_8 := blk_frozen BK131.out 8; have hfz27_9 := blk_frozen BK131.out 9; have hfz27_10 := blk_frozen BK131.out 10; have hfz27_11 := blk_frozen BK131.out 11; have hfz27_12 := blk_frozen BK131.out 12; have hfz27_13 := blk_frozen BK131.out 13; have hnb28 := NB129_127.out; have hnc28 := NB127_129.out; have hcz29_0 : w24.cell? ⟨gb129, 0, none⟩ = some (.int .i64 ((rd_T53 l0_0 x21_1).f0)) := (blk_cell BK129.out 0).trans rfl; have hcz29_1 : w24.cell? ⟨gb129, 1, none⟩ = some (.int .i64 ((rd_T53 l0_0 x21_1).f1)) := (blk_cell BK129.out 1).trans rfl; have hcz29_2 : w24.cell? ⟨gb129, 2, none⟩ = some (.slice (some ad130) ((rd_T53 l0_0 x21_1).f2).length c128_2) := (blk_cell BK129.out 2).trans rfl; have hfz29_0 := blk_frozen BK129.out 0; have hfz29_1 := blk_frozen BK129.out 1; have hfz29_2 := blk_frozen BK129.out 2) | ((with_reducible refine gate_callee (f := 18) rfl ?_); refine goesL_ (some 34) rfl rfl Try.func18 (by kernel_rfl) rfl #[.int .i64 ((rd_T53 l0_0 x21_1).f0)] rfl qgcnt_10 ?_; (with_reducible refine (span_Partition.calls ((rd_T53 l0_0 x21_1).f0) t132 _ A15.out).mono ?_); rintro e w' ⟨rfl, ⟨nd, rfl⟩⟩; refine ⟨_, rfl, ?_⟩))
    go_roundg k2
    case measure => have := HK1.out; have := HK2.out; omega
    case rel => exact ⟨(x8_2), (wrap64 (x28_2 + 1)), qgcnt_6, qgcnt_6, H', ⟨qgcnt_15⟩, ⟨qgcnt_0⟩, ⟨qgcnt_1⟩, ⟨qgcnt_9⟩⟩
   rw [if_pos c17] at H
   have c17b0 : (((rd_T58 ((rd_T53 l0_0 x21_1).f2) x28_2).f6).toList == a2.toList) = true := beq_iff_eq.mpr c17
   have c17b1 : (((rd_T58 ((rd_T53 l0_0 x21_1).f2) x28_2).f6).toList != a2.toList) = false := bne_eq_false_iff_eq.mpr c17
   clear c17
   have H' := Aside0.mk H
   clear H
   have p130 : 0 ≤ (x28_2 : Int) := of_decide_eq_true qgcnt_8
   have q130 : x28_2 < (((rd_T53 l0_0 x21_1).f2).length : Int) := of_decide_eq_true qgcnt_8
   obtain ⟨ad130, A130_12, c130_12, A130_13, c130_13, e130, hx130_0, hx130_1, hx130_2, hx130_3, hx130_4, hx130_5, hx130_6, hx130_7, hx130_8, hx130_9, hx130_10, hx130_11, hx130_12, hx130_13, hl130_12, hi130_12, hl130_13, hi130_13⟩ := at_T58 HR128_2.out x28_2 p130 q130
   cases e130
   replace hx130_0 := (HB.out.cell (World.block_lt_of_cell? w _ hx130_0)).trans hx130_0
   replace hx130_1 := (HB.out.cell (World.block_lt_of_cell? w _ hx130_1)).trans hx130_1
   replace hx130_2 := (HB.out.cell (World.block_lt_of_cell? w _ hx130_2)).trans hx130_2
   replace hx130_3 := (HB.out.cell (World.block_lt_of_cell? w _ hx130_3)).trans hx130_3
   replace hx130_4 := (HB.out.cell (World.block_lt_of_cell? w _ hx130_4)).trans hx130_4
   replace hx130_5 := (HB.out.cell (World.block_lt_of_cell? w _ hx130_5)).trans hx130_5
   replace hx130_6 := (HB.out.cell (World.block_lt_of_cell? w _ hx130_6)).trans hx130_6
   replace hx130_7 := (HB.out.cell (World.block_lt_of_cell? w _ hx130_7)).trans hx130_7
   replace hx130_8 := (HB.out.cell (World.block_lt_of_cell? w _ hx130_8)).trans hx130_8
   replace hx130_9 := (HB.out.cell (World.block_lt_of_cell? w _ hx130_9)).trans hx130_9
   replace hx130_10 := (HB.out.cell (World.block_lt_of_cell? w _ hx130_10)).trans hx130_10
   replace hx130_11 := (HB.out.cell (World.block_lt_of_cell? w _ hx130_11)).trans hx130_11
   replace hx130_12 := (HB.out.cell (World.block_lt_of_cell? w _ hx130_12)).trans hx130_12
   replace hx130_13 := (HB.out.cell (World.block_lt_of_cell? w _ hx130_13)).trans hx130_13
   have HR130_12 := Aside0.mk hi130_12
   have HC130_12 := Aside0.mk hl130_12
   clear hi130_12 hl130_12
   have HR130_13 := Aside0.mk hi130_13
   have HC130_13 := Aside0.mk hl130_13
   clear hi130_13 hl130_13
   replace p130 := eq_true p130
   replace q130 := eq_true q130
   go_wp2_with (first | ((with_reducible refine gate_dst (N := 13) rfl ?_); refine box_event ?hg (N := 13) ?hd (cs := #[.int .i64 0, .int .i64 0, .int .i64 0, .int .i64 0, .int .i64 0, .int .i64 0, .string (⟨#[]⟩ : ByteArray), .string (⟨#[]⟩ : ByteArray), .string (⟨#[]⟩ : ByteArray), .int .i64 0, .int .i64 0, .bool false, .slice none 0 0, .slice none 0 0]) (t := 58) ?hr ?_; (case hd => rfl); (case hg => rfl); (case hr => exact qgcnt_14); intro gb131 hg w18 hbox hb; have n0_ := Aside0.mk (blk_below (g := gb127) (o := .cells #[.slice (some ad128) l0_0.length c0_0, .slice A0_1 l0_1.length c0_1, .slice A0_2 l0_2.length c0_2, .slice A0_3 l0_3.length c0_3] 50 (0, 0)) qgcnt_2 hb); have n1_ := Aside0.mk (blk_below (g := gb129) (o := .cells #[.int .i64 ((rd_T53 l0_0 x21_1).f0), .int .i64 ((rd_T53 l0_0 x21_1).f1), .slice (some ad130) ((rd_T53 l0_0 x21_1).f2).length c128_2] 53 (0, 0)) qgcnt_7 hb); have n2_ := Aside0.mk (below_step qgcnt_4 hb); have n3_ := Aside0.mk (hbox); have n4_ := Aside0.mk ((by rw [hg]; exact (below_size qgcnt_4) : w.heap.size ≤ gb131)); have n5_ := Aside0.mk ((by rw [hg]; exact (below_size qgcnt_4) : w.heap.size ≤ gb131)); have n6_ := Aside0.mk ((by rw [hg]; exact Nat.ne_of_lt (blk_lt (g := gb127) (o := .cells #[.slice (some ad128) l0_0.length c0_0, .slice A0_1 l0_1.length c0_1, .slice A0_2 l0_2.length c0_2, .slice A0_3 l0_3.length c0_3] 50 (0, 0)) qgcnt_2) : gb127 ≠ gb131)); have n7_ := Aside0.mk ((by rw [hg]; exact Nat.ne_of_gt (blk_lt (g := gb127) (o := .cells #[.slice (some ad128) l0_0.length c0_0, .slice A0_1 l0_1.length c0_1, .slice A0_2 l0_2.length c0_2, .slice A0_3 l0_3.length c0_3] 50 (0, 0)) qgcnt_2) : gb131 ≠ gb127)); have n8_ := Aside0.mk ((by rw [hg]; exact Nat.ne_of_lt (blk_lt (g := gb129) (o := .cells #[.int .i64 ((rd_T53 l0_0 x21_1).f0), .int .i64 ((rd_T53 l0_0 x21_1).f1), .slice (some ad130) ((rd_T53 l0_0 x21_1).f2).length c128_2] 53 (0, 0)) qgcnt_7) : gb129 ≠ gb131)); have n9_ := Aside0.mk ((by rw [hg]; exact Nat.ne_of_gt (blk_lt (g := gb129) (o := .cells #[.int .i64 ((rd_T53 l0_0 x21_1).f0), .int .i64 ((rd_T53 l0_0 x21_1).f1), .slice (some ad130) ((rd_T53 l0_0 x21_1).f2).length c128_2] 53 (0, 0)) qgcnt_7) : gb131 ≠ gb129)); clear BK127; clear BK129; clear HB; have BK127 := n0_; have BK129 := n1_; have HB := n2_; have BK131 := n3_; have GW131 := n4_; have GE131 := n5_; have NB127_131 := n6_; have NB131_127 := n7_; have NB129_131 := n8_; have NB131_129 := n9_; clear n0_ n1_ n2_ n3_ n4_ n5_ n6_ n7_ n8_ n9_; clear hb hbox hg; have hnb19 := NB131_127.out; have hnc19 := NB127_131.out; have hnb20 := NB131_129.out; have hnc20 := NB129_131.out; have hcz21_0 : w18.cell? ⟨gb131, 0, none⟩ = some (.int .i64 0) := (blk_cell BK131.out 0).trans rfl; have hcz21_1 : w18.cell? ⟨gb131, 1, none⟩ = some (.int .i64 0) := (blk_cell BK131.out 1).trans rfl; have hcz21_2 : w18.cell? ⟨gb131, 2, none⟩ = some (.int .i64 0) := (blk_cell BK131.out 2).trans rfl; have hcz21_3 : w18.cell? ⟨gb131, 3, none⟩ = some (.int .i64 0) := (blk_cell BK131.out 3).trans rfl; have hcz21_4 : w18.cell? ⟨gb131, 4, none⟩ = some (.int .i64 0) := (blk_cell BK131.out 4).trans rfl; have hcz21_5 : w18.cell? ⟨gb131, 5, none⟩ = some (.int .i64 0) := (blk_cell BK131.out 5).trans rfl; have hcz21_6 : w18.cell? ⟨gb131, 6, none⟩ = some (.string (⟨#[]⟩ : ByteArray)) := (blk_cell BK131.out 6).trans rfl; have hcz21_7 : w18.cell? ⟨gb131, 7, none⟩ = some (.string (⟨#[]⟩ : ByteArray)) := (blk_cell BK131.out 7).trans rfl; have hcz21_8 : w18.cell? ⟨gb131, 8, none⟩ = some (.string (⟨#[]⟩ : ByteArray)) := (blk_cell BK131.out 8).trans rfl; have hcz21_9 : w18.cell? ⟨gb131, 9, none⟩ = some (.int .i64 0) := (blk_cell BK131.out 9).trans rfl; have hcz21_10 : w18.cell? ⟨gb131, 10, none⟩ = some (.int .i64 0) := (blk_cell BK131.out 10).trans rfl; have hcz21_11 : w18.cell? ⟨gb131, 11, none⟩ = some (.bool false) := (blk_cell BK131.out 11).trans rfl; have hcz21_12 : w18.cell? ⟨gb131, 12, none⟩ = some (.slice none 0 0) := (blk_cell BK131.out 12).trans rfl; have hcz21_13 : w18.cell? ⟨gb131, 13, none⟩ = some (.slice none 0 0) := (blk_cell BK131.out 13).trans rfl; have hfz21_0 := blk_frozen BK131.out 0; have hfz21_1 := blk_frozen BK131.out 1; have hfz21_2 := blk_frozen BK131.out 2; have hfz21_3 := blk_frozen BK131.out 3; have hfz21_4 := blk_frozen BK131.out 4; have hfz21_5 := blk_frozen BK131.out 5; have hfz21_6 := blk_frozen BK131.out 6; have hfz21_7 := blk_frozen BK131.out 7; have hfz21_8 := blk_frozen BK131.out 8; have hfz21_9 := blk_frozen BK131.out 9; have hfz21_10 := blk_frozen BK131.out 10; have hfz21_11 := blk_frozen BK131.out 11; have hfz21_12 := blk_frozen BK131.out 12; have hfz21_13 := blk_frozen BK131.out 13; have hnb22 := NB129_127.out; have hnc22 := NB127_129.out; have hcz23_0 : w18.cell? ⟨gb129, 0, none⟩ = some (.int .i64 ((rd_T53 l0_0 x21_1).f0)) := (blk_cell BK129.out 0).trans rfl; have hcz23_1 : w18.cell? ⟨gb129, 1, none⟩ = some (.int .i64 ((rd_T53 l0_0 x21_1).f1)) := (blk_cell BK129.out 1).trans rfl; have hcz23_2 : w18.cell? ⟨gb129, 2, none⟩ = some (.slice (some ad130) ((rd_T53 l0_0 x21_1).f2).length c128_2) := (blk_cell BK129.out 2).trans rfl; have hfz23_0 := blk_frozen BK129.out 0; have hfz23_1 := blk_frozen BK129.out 1; have hfz23_2 := blk_frozen BK129.out 2) | ((with_reducible refine gate_callee (f := 18) rfl ?_); refine goesL_ (some 34) rfl rfl Try.func18 (by kernel_rfl) rfl #[.int .i64 ((rd_T53 l0_0 x21_1).f0)] rfl qgcnt_10 ?_; (with_reducible refine (span_Partition.calls ((rd_T53 l0_0 x21_1).f0) t132 _ A15.out).mono ?_); rintro e w' ⟨rfl, ⟨nd, rfl⟩⟩; refine ⟨_, rfl, ?_⟩))
   go_roundg k2
   case measure => have := HK1.out; have := HK2.out; omega
   case rel => exact ⟨(wrap64 (x8_2 + 1)), (wrap64 (x28_2 + 1)), qgcnt_6, qgcnt_6, H', ⟨qgcnt_15⟩, ⟨qgcnt_0⟩, ⟨qgcnt_1⟩, ⟨qgcnt_9⟩⟩

end Go.Proofs.Ythdifdnjodbdnaa.Q
