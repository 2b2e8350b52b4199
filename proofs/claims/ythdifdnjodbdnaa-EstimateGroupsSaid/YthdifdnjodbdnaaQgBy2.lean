-- Laid by myprint.py (a program of this session's, over the kit's printer and with functions proved by hand)
import Derived.Test.YthdifdnjodbdnaaTy
import Derived.Test.YthdifdnjodbdnaaGs
import Derived.Test.YthdifdnjodbdnaaQgGrp
import Derived.Test.YthdifdnjodbdnaaQgSam
import Derived.Test.YthdifdnjodbdnaaQgToH
namespace Go.Proofs.Ythdifdnjodbdnaa.Q
open Go.RowKit Go.Proofs.YthdifdnjodbdnaaW.PrintWords Go.Proofs.YthdifdnjodbdnaaW.PrintLast Go.Proofs.YthdifdnjodbdnaaW.PrintMore
attribute [local go_sem] max2_int min2_int max_two min_two max_three min_three max_four min_four   -- for this text's walks alone
set_option linter.unusedVariables false
set_option linter.unusedSimpArgs false

attribute [local go_sem high] eqA39
attribute [local go_sem high] Str.binOp_string_gtr' Str.binOp_string_leq'
abbrev T2952 : Bool := true
abbrev F2952 : Bool := false
theorem qgby2_0 {p : Prop} (h : p := by (with_reducible repeat (first | apply Kd.R_alloc | apply Kd.R_drewN | apply Kd.R_drew)); exact HO_5.out) : p := h
theorem qgby2_1 {p : Prop} (h : p := by repeat (first | (with_reducible first | exact HB.out | apply below_alloc | apply pw_below_drewN | apply below_drew1 | refine below_set ?_ GE328.out) | exact HB.out)) : p := h
theorem qgby2_2 {p : Prop} (h : p := by (with_reducible repeat (first | refine blk_drewN ?_ _ | refine blk_drew ?_ | refine blk_alloc ?_ _)); exact BK328.out) : p := h
theorem qgby2_3 {p : Prop} (h : p := by repeat (first | (with_reducible first | exact HB.out | apply below_alloc | apply pw_below_drewN | apply below_drew1) | exact HB.out)) : p := h
theorem qgby2_4 {p : Prop} (h : p := by first | (with_reducible assumption) | assumption) : p := h
theorem qgby2_5 {p : Prop} (h : p := by repeat (first | (with_reducible exact HR338.out) | (with_reducible refine Kd.C_alloc ?_ _) | (with_reducible refine Kd.C_drewN ?_ _) | (with_reducible refine Kd.C_drew ?_) | exact HR338.out)) : p := h
theorem qgby2_6 {p : Prop} (h : p := by repeat (first | (with_reducible exact HR352.out) | (with_reducible refine Kd.C_alloc ?_ _) | (with_reducible refine Kd.C_drewN ?_ _) | (with_reducible refine Kd.C_drew ?_) | exact HR352.out)) : p := h
theorem qgby2_7 {p : Prop} (h : p := by first | rfl | (simp; done) | (simp [*]; done)) : p := h
theorem qgby2_8 {p : Prop} (h : p := by (try simp only [List.map_toArray, List.map_cons, List.map_nil]); first | done | (simp only [hji15]; rfl) | rfl | (simp only [List.length_drop, List.length_take]; rfl)) : p := h
theorem qgby2_9 {p : Prop} (h : p := by (try simp only [List.map_toArray, List.map_cons, List.map_nil]); first | done | rfl | (simp only [List.length_drop, List.length_take]; rfl)) : p := h
/-! ### sleuthlaw25_by: function 23 -/
mutual
def sleuthlaw25_by.l0 : Nat → List (S53) → Int → List (S41) → Int → Option ((List (S41)))
 | 0, _, _, _, _ => none
 | k + 1, x0, x1, x5, x6 => if x6 < (x0.length : Int) then (sleuthlaw25_by.l1 k x0 x1 x5 x6 0) else (some x5)
def sleuthlaw25_by.l1 : Nat → List (S53) → Int → List (S41) → Int → Int → Option ((List (S41)))
 | 0, _, _, _, _, _ => none
 | k + 1, x0, x1, x5, x6, x7 => if 0 ≤ x6 then (if x6 < (x0.length : Int) then (if x7 < (((rd_T53 x0 x6).f2).length : Int) then (if 0 ≤ x7 then ((sleuthlaw25_group.f ((rd_T58 ((rd_T53 x0 x6).f2) x7).f0) ((rd_T58 ((rd_T53 x0 x6).f2) x7).f1) ((rd_T58 ((rd_T53 x0 x6).f2) x7).f2) ((rd_T58 ((rd_T53 x0 x6).f2) x7).f3) ((rd_T58 ((rd_T53 x0 x6).f2) x7).f4) ((rd_T58 ((rd_T53 x0 x6).f2) x7).f5) ((rd_T58 ((rd_T53 x0 x6).f2) x7).f6) ((rd_T58 ((rd_T53 x0 x6).f2) x7).f7) ((rd_T58 ((rd_T53 x0 x6).f2) x7).f8) ((rd_T58 ((rd_T53 x0 x6).f2) x7).f9) ((rd_T58 ((rd_T53 x0 x6).f2) x7).f10) ((rd_T58 ((rd_T53 x0 x6).f2) x7).f11) ((rd_T58 ((rd_T53 x0 x6).f2) x7).f12) ((rd_T58 ((rd_T53 x0 x6).f2) x7).f13) x1).bind fun bt325 => (sleuthlaw25_by.l2 k x0 x1 x5 x6 x7 (x5.length : Int) bt325.1 bt325.2.1 bt325.2.2)) else (none)) else (sleuthlaw25_by.l0 k x0 x1 x5 (wrap64 (x6 + 1)))) else (none)) else (none)
def sleuthlaw25_by.j3 : Nat → List (S53) → Int → List (S41) → Int → Int → Int → ByteArray → ByteArray → ByteArray → Option ((List (S41)))
 | 0, _, _, _, _, _, _, _, _, _ => none
 | k + 1, x0, x1, x5, x6, x7, x9, x329000, x329001, x329002 => if x9 > 0 then (if 0 ≤ (wrap64 (x9 - 1)) then (if (wrap64 (x9 - 1)) < (x5.length : Int) then (sleuthlaw25_by.j4 k x0 x1 x5 x6 x7 x9 ((((rd_T41 x5 (wrap64 (x9 - 1))).f0.f0).toList) == x329000.toList && ((((rd_T41 x5 (wrap64 (x9 - 1))).f0.f1).toList) == x329001.toList && ((((rd_T41 x5 (wrap64 (x9 - 1))).f0.f2).toList) == x329002.toList))) x329000 x329001 x329002) else (none)) else (none)) else (sleuthlaw25_by.j4 k x0 x1 x5 x6 x7 x9 false x329000 x329001 x329002)
def sleuthlaw25_by.j4 : Nat → List (S53) → Int → List (S41) → Int → Int → Int → Bool → ByteArray → ByteArray → ByteArray → Option ((List (S41)))
 | 0, _, _, _, _, _, _, _, _, _, _ => none
 | k + 1, x0, x1, x5, x6, x7, x9, x63, x329000, x329001, x329002 => if x63 = true then (sleuthlaw25_by.l1 k x0 x1 x5 x6 (wrap64 (x7 + 1))) else ((some (([] : List (S41)) : List (S41))).bind fun y332 => (if 0 ≤ x9 then (if x9 ≤ (x5.length : Int) then ((some (x5.take (x9 : Int).toNat : List (S41))).bind fun y335 => (if y332.length + y335.length < 1759218604441 then ((some (y332 ++ y335 : List (S41))).bind fun y339 => ((sleuthlaw25_total.f x0 x329000 x329001 x329002 x1).bind fun bt342 => (if y339.length < 1759218604441 then ((some (y339 ++ [(⟨(⟨x329000, x329001, x329002⟩ : S39), (⟨bt342.1, bt342.2.1, bt342.2.2.1, bt342.2.2.2⟩ : S37)⟩ : S41)] : List (S41))).bind fun y346 => ((some (x5.drop (x9 : Int).toNat : List (S41))).bind fun y349 => (if y346.length + y349.length < 1759218604441 then (sleuthlaw25_by.l1 k x0 x1 (y346 ++ y349) x6 (wrap64 (x7 + 1))) else (none)))) else (none)))) else (none))) else (none)) else (none)))
def sleuthlaw25_by.l2 : Nat → List (S53) → Int → List (S41) → Int → Int → Int → ByteArray → ByteArray → ByteArray → Option ((List (S41)))
 | 0, _, _, _, _, _, _, _, _, _ => none
 | k + 1, x0, x1, x5, x6, x7, x9, x329000, x329001, x329002 => if x9 > 0 then (if 0 ≤ (wrap64 (x9 - 1)) then (if (wrap64 (x9 - 1)) < (x5.length : Int) then ((sleuthlaw25_less.f x329000 x329001 x329002 ((rd_T41 x5 (wrap64 (x9 - 1))).f0.f0) ((rd_T41 x5 (wrap64 (x9 - 1))).f0.f1) ((rd_T41 x5 (wrap64 (x9 - 1))).f0.f2)).bind fun t330 => (if t330 = true then (sleuthlaw25_by.l2 k x0 x1 x5 x6 x7 (wrap64 (x9 - 1)) x329000 x329001 x329002) else (sleuthlaw25_by.j3 k x0 x1 x5 x6 x7 x9 x329000 x329001 x329002))) else (none)) else (none)) else (sleuthlaw25_by.j3 k x0 x1 x5 x6 x7 x9 x329000 x329001 x329002)
end
def sleuthlaw25_by.f (k : Nat) (l0 : List (S53)) (a1 : Int) : Option ((List (S41))) := sleuthlaw25_by.l0 k l0 a1 ([] : List (S41)) 0
theorem sleuthlaw25_by.mono_l : ∀ k, (∀ y0 y1 y2 y3, LeO (sleuthlaw25_by.l0 k y0 y1 y2 y3) (sleuthlaw25_by.l0 (k + 1) y0 y1 y2 y3)) ∧ (∀ y0 y1 y2 y3 y4, LeO (sleuthlaw25_by.l1 k y0 y1 y2 y3 y4) (sleuthlaw25_by.l1 (k + 1) y0 y1 y2 y3 y4)) ∧ (∀ y0 y1 y2 y3 y4 y5 y6 y7 y8, LeO (sleuthlaw25_by.j3 k y0 y1 y2 y3 y4 y5 y6 y7 y8) (sleuthlaw25_by.j3 (k + 1) y0 y1 y2 y3 y4 y5 y6 y7 y8)) ∧ (∀ y0 y1 y2 y3 y4 y5 y6 y7 y8 y9, LeO (sleuthlaw25_by.j4 k y0 y1 y2 y3 y4 y5 y6 y7 y8 y9) (sleuthlaw25_by.j4 (k + 1) y0 y1 y2 y3 y4 y5 y6 y7 y8 y9)) ∧ (∀ y0 y1 y2 y3 y4 y5 y6 y7 y8, LeO (sleuthlaw25_by.l2 k y0 y1 y2 y3 y4 y5 y6 y7 y8) (sleuthlaw25_by.l2 (k + 1) y0 y1 y2 y3 y4 y5 y6 y7 y8))
 | 0 => ⟨fun _ _ _ _ r h => by simp [sleuthlaw25_by.l0] at h, fun _ _ _ _ _ r h => by simp [sleuthlaw25_by.l1] at h, fun _ _ _ _ _ _ _ _ _ r h => by simp [sleuthlaw25_by.j3] at h, fun _ _ _ _ _ _ _ _ _ _ r h => by simp [sleuthlaw25_by.j4] at h, fun _ _ _ _ _ _ _ _ _ r h => by simp [sleuthlaw25_by.l2] at h⟩
 | k + 1 => by
  obtain ⟨ih0, ih1, ih2, ih3, ih4⟩ := sleuthlaw25_by.mono_l k
  refine ⟨?_, ?_, ?_, ?_, ?_⟩
  ·intro y0 y1 y2 y3
   unfold sleuthlaw25_by.l0
   repeat' first
   | (with_reducible exact ih0 _ _ _ _)
   | (with_reducible exact ih1 _ _ _ _ _)
   | (with_reducible exact ih2 _ _ _ _ _ _ _ _ _)
   | (with_reducible exact ih3 _ _ _ _ _ _ _ _ _ _)
   | (with_reducible exact ih4 _ _ _ _ _ _ _ _ _)
   | (with_reducible exact LeO.refl _)
   | (with_reducible exact LeO.none _)
   | (with_reducible refine LeO.ite ?_ ?_)
   | (with_reducible refine LeO.bind ?_ (fun _ => ?_))
   | exact ih0 _ _ _ _
   | exact ih1 _ _ _ _ _
   | exact ih2 _ _ _ _ _ _ _ _ _
   | exact ih3 _ _ _ _ _ _ _ _ _ _
   | exact ih4 _ _ _ _ _ _ _ _ _
   | exact LeO.none _
   | refine LeO.ite ?_ ?_
   | refine LeO.bind ?_ (fun _ => ?_)
  ·intro y0 y1 y2 y3 y4
   unfold sleuthlaw25_by.l1
   repeat' first
   | (with_reducible exact ih0 _ _ _ _)
   | (with_reducible exact ih1 _ _ _ _ _)
   | (with_reducible exact ih2 _ _ _ _ _ _ _ _ _)
   | (with_reducible exact ih3 _ _ _ _ _ _ _ _ _ _)
   | (with_reducible exact ih4 _ _ _ _ _ _ _ _ _)
   | (with_reducible exact LeO.refl _)
   | (with_reducible exact LeO.none _)
   | (with_reducible refine LeO.ite ?_ ?_)
   | (with_reducible refine LeO.bind ?_ (fun _ => ?_))
   | exact ih0 _ _ _ _
   | exact ih1 _ _ _ _ _
   | exact ih2 _ _ _ _ _ _ _ _ _
   | exact ih3 _ _ _ _ _ _ _ _ _ _
   | exact ih4 _ _ _ _ _ _ _ _ _
   | exact LeO.none _
   | refine LeO.ite ?_ ?_
   | refine LeO.bind ?_ (fun _ => ?_)
  ·intro y0 y1 y2 y3 y4 y5 y6 y7 y8
   unfold sleuthlaw25_by.j3
   repeat' first
   | (with_reducible exact ih0 _ _ _ _)
   | (with_reducible exact ih1 _ _ _ _ _)
   | (with_reducible exact ih2 _ _ _ _ _ _ _ _ _)
   | (with_reducible exact ih3 _ _ _ _ _ _ _ _ _ _)
   | (with_reducible exact ih4 _ _ _ _ _ _ _ _ _)
   | (with_reducible exact LeO.refl _)
   | (with_reducible exact LeO.none _)
   | (with_reducible refine LeO.ite ?_ ?_)
   | (with_reducible refine LeO.bind ?_ (fun _ => ?_))
   | exact ih0 _ _ _ _
   | exact ih1 _ _ _ _ _
   | exact ih2 _ _ _ _ _ _ _ _ _
   | exact ih3 _ _ _ _ _ _ _ _ _ _
   | exact ih4 _ _ _ _ _ _ _ _ _
   | exact LeO.none _
   | refine LeO.ite ?_ ?_
   | refine LeO.bind ?_ (fun _ => ?_)
  ·intro y0 y1 y2 y3 y4 y5 y6 y7 y8 y9
   unfold sleuthlaw25_by.j4
   repeat' first
   | (with_reducible exact ih0 _ _ _ _)
   | (with_reducible exact ih1 _ _ _ _ _)
   | (with_reducible exact ih2 _ _ _ _ _ _ _ _ _)
   | (with_reducible exact ih3 _ _ _ _ _ _ _ _ _ _)
   | (with_reducible exact ih4 _ _ _ _ _ _ _ _ _)
   | (with_reducible exact LeO.refl _)
   | (with_reducible exact LeO.none _)
   | (with_reducible refine LeO.ite ?_ ?_)
   | (with_reducible refine LeO.bind ?_ (fun _ => ?_))
   | exact ih0 _ _ _ _
   | exact ih1 _ _ _ _ _
   | exact ih2 _ _ _ _ _ _ _ _ _
   | exact ih3 _ _ _ _ _ _ _ _ _ _
   | exact ih4 _ _ _ _ _ _ _ _ _
   | exact LeO.none _
   | refine LeO.ite ?_ ?_
   | refine LeO.bind ?_ (fun _ => ?_)
  ·intro y0 y1 y2 y3 y4 y5 y6 y7 y8
   unfold sleuthlaw25_by.l2
   repeat' first
   | (with_reducible exact ih0 _ _ _ _)
   | (with_reducible exact ih1 _ _ _ _ _)
   | (with_reducible exact ih2 _ _ _ _ _ _ _ _ _)
   | (with_reducible exact ih3 _ _ _ _ _ _ _ _ _ _)
   | (with_reducible exact ih4 _ _ _ _ _ _ _ _ _)
   | (with_reducible exact LeO.refl _)
   | (with_reducible exact LeO.none _)
   | (with_reducible refine LeO.ite ?_ ?_)
   | (with_reducible refine LeO.bind ?_ (fun _ => ?_))
   | exact ih0 _ _ _ _
   | exact ih1 _ _ _ _ _
   | exact ih2 _ _ _ _ _ _ _ _ _
   | exact ih3 _ _ _ _ _ _ _ _ _ _
   | exact ih4 _ _ _ _ _ _ _ _ _
   | exact LeO.none _
   | refine LeO.ite ?_ ?_
   | refine LeO.bind ?_ (fun _ => ?_)
theorem sleuthlaw25_by.mono : ∀ a0 a1 k, LeO (sleuthlaw25_by.f k a0 a1) (sleuthlaw25_by.f (k + 1) a0 a1) := by
 intro a0 a1 k
 obtain ⟨ih0, ih1, ih2, ih3, ih4⟩ := sleuthlaw25_by.mono_l k
 unfold sleuthlaw25_by.f
 repeat' first
   | (with_reducible exact ih0 _ _ _ _)
   | (with_reducible exact ih1 _ _ _ _ _)
   | (with_reducible exact ih2 _ _ _ _ _ _ _ _ _)
   | (with_reducible exact ih3 _ _ _ _ _ _ _ _ _ _)
   | (with_reducible exact ih4 _ _ _ _ _ _ _ _ _)
   | (with_reducible exact LeO.refl _)
   | (with_reducible exact LeO.none _)
   | (with_reducible refine LeO.ite ?_ ?_)
   | (with_reducible refine LeO.bind ?_ (fun _ => ?_))
   | exact ih0 _ _ _ _
   | exact ih1 _ _ _ _ _
   | exact ih2 _ _ _ _ _ _ _ _ _
   | exact ih3 _ _ _ _ _ _ _ _ _ _
   | exact ih4 _ _ _ _ _ _ _ _ _
   | exact LeO.none _
   | refine LeO.ite ?_ ?_
   | refine LeO.bind ?_ (fun _ => ?_)
def sleuthlaw25_by.T10 : Bool × List (List Nat × List Nat) := (true, [([], []), ([0], [0]), ([1], [1]), ([2], [2]), ([2], [2]), ([2], [2]), ([5, 2], [2, 5]), ([4, 6, 2], [2, 4, 6]), ([7, 2], [2, 7]), ([8, 2], [2, 8]), ([3, 9, 2, 2], [2, 3, 9]), ([2, 10], [2, 10])])
def sleuthlaw25_by.B10 : List Nat := [0, 1, 3, 7, 7, 7, 39, 119, 247, 503, 1023, 2047]
theorem sleuthlaw25_by.tab10 : rtab .any (opsOf Try.f23 10) = sleuthlaw25_by.T10 := by kernel_rfl
theorem sleuthlaw25_by.bits10 : waitsOk sleuthlaw25_by.T10.2 sleuthlaw25_by.B10 = true := by kernel_rfl
def sleuthlaw25_by.T12 : Bool × List (List Nat × List Nat) := (true, [([], []), ([0], [0]), ([1], [1]), ([2], [2]), ([2], [2]), ([4, 2], [2, 4]), ([3, 5, 2], [2, 3, 5]), ([6, 2], [2, 6]), ([7, 2], [2, 7]), ([2], [2]), ([8, 9, 2], [2, 8, 9]), ([2, 10], [2, 10])])
def sleuthlaw25_by.B12 : List Nat := [0, 1, 3, 7, 7, 23, 63, 127, 255, 7, 1023, 2047]
theorem sleuthlaw25_by.tab12 : rtab .any (opsOf Try.f23 12) = sleuthlaw25_by.T12 := by kernel_rfl
theorem sleuthlaw25_by.bits12 : waitsOk sleuthlaw25_by.T12.2 sleuthlaw25_by.B12 = true := by kernel_rfl
def sleuthlaw25_by.T13 : Bool × List (List Nat × List Nat) := (true, [([], []), ([], []), ([], []), ([1, 2], [1, 2]), ([0, 3], [0, 3]), ([], []), ([], []), ([], []), ([], []), ([6, 7, 8, 4], [6, 7, 8]), ([5, 9], [5, 9]), ([10], [10]), ([4, 11, 9], [4, 11]), ([], []), ([], []), ([13, 14], [13, 14]), ([12, 15, 12], [12, 15]), ([16, 16, 0, 1, 2, 3, 4, 5, 6, 7, 8, 9, 10, 11, 12, 13, 14, 15, 16], [1, 13, 16])])
def sleuthlaw25_by.B13 : List Nat := [0, 0, 0, 6, 15, 0, 0, 0, 0, 479, 1023, 2047, 4095, 0, 0, 24576, 65535, 131071]
theorem sleuthlaw25_by.tab13 : rtab .any (opsOf Try.f23 13) = sleuthlaw25_by.T13 := by kernel_rfl
theorem sleuthlaw25_by.bits13 : waitsOk sleuthlaw25_by.T13.2 sleuthlaw25_by.B13 = true := by kernel_rfl
set_option maxHeartbeats 8000000 in
set_option maxRecDepth 100000 in
theorem sleuthlaw25_by.calls (k : Nat) (A0 : Option Addr) (c0 : Nat) (l0 : List (S53)) (a1 : Int) (r : List (S41)) (w : World) (hr0 : Kd.C k53 w A0 l0.length l0) (hc0 : l0.length ≤ c0) (h : sleuthlaw25_by.f k l0 a1 = some r) :
  Calls Try.prog 23 #[.slice A0 l0.length c0, .int .i64 a1] w fun e w' => ∃ v0_ : Value, e = .returned (v0_) ∧ Kd.R k41 41 w' w.heap.size (fun _ => True) v0_ r ∧ Below w.heap.size w w' := by
 have hu58 := Try.underlying58
 have hu39 := Try.underlying39
 have hu41 := Try.underlying41
 have HR0 := Aside0.mk hr0
 have HC0 := Aside0.mk hc0
 clear hr0 hc0
 have HB := Aside0.mk (Below.refl w.heap.size w)
 have H : (sleuthlaw25_by.l0 k l0 a1 ([] : List (S41)) 0) = some r := h
 clear h
 have H' := Aside0.mk H
 clear H
 go_enter Try.func23, Try.ntmps23
 go_wp2
 go_loopg [5, 6] k (fun kq v5 v6 w' => ∃ (x5_1 : List (S41)) (x6_1 : Int), v6 = .int .i64 x6_1 ∧ Aside0 (sleuthlaw25_by.l0 kq l0 a1 x5_1 x6_1 = some r) ∧ Aside0 (kq ≤ k) ∧ Aside0 (Kd.R k41 41 w' w.heap.size (fun _ => True) v5 x5_1) ∧ Aside0 (Below w.heap.size w w'))
 case atStart => exact ⟨(([] : List (S41))), (0), qgby2_7, H', ⟨Nat.le_refl _⟩, ⟨by first | exact Kd.R_nil _ _ _ _ _ | exact Kd.N_nil _ _ _ _ _ | exact Kd.V_nil _ _ _ _ _ | exact Kd.Q_nil _ _ _ _ _ | exact Kd.S_nil _ _ _ _ _⟩, ⟨qgby2_3⟩⟩
 clear H'
 try clear c2
 try clear p2
 obtain ⟨x5_1, x6_1, rfl, HA, HK1, HO_5, HB⟩ := hrel
 cases gk with
 | zero => exact absurd HA.out (by simp [sleuthlaw25_by.l0])
 | succ k1 =>
  have H := HA.out
  clear HA
  simp only [sleuthlaw25_by.l0] at H
  by_cases c3 : x6_1 < (l0.length : Int)
  rotate_left
  ·rw [if_neg c3] at H
   have c3b0 : decide (x6_1 < (l0.length : Int)) = false := decide_eq_false c3
   clear c3
   obtain rfl := Option.some.inj H
   go_wp2
   go_ret
   exact ⟨_, by first | rfl | (simp [errW_none, errW_some] <;> rfl) | (simp [*, errW_none, errW_some] <;> rfl), qgby2_0, qgby2_3⟩
  rw [if_pos c3] at H
  have c3b0 : decide (x6_1 < (l0.length : Int)) = true := decide_eq_true c3
  clear c3
  have H' := Aside0.mk H
  clear H
  go_wp2
  go_loopg [5, 7] k1 (fun kq v5 v7 w' => ∃ (x5_2 : List (S41)) (x7_2 : Int), v7 = .int .i64 x7_2 ∧ Aside0 (sleuthlaw25_by.l1 kq l0 a1 x5_2 x6_1 x7_2 = some r) ∧ Aside0 (kq ≤ k1) ∧ Aside0 (Kd.R k41 41 w' w.heap.size (fun _ => True) v5 x5_2) ∧ Aside0 (Below w.heap.size w w'))
  case atStart => exact ⟨(x5_1), (0), qgby2_7, H', ⟨Nat.le_refl _⟩, ⟨qgby2_0⟩, ⟨qgby2_3⟩⟩
  clear H'
  try clear c2
  try clear p2
  try clear c3
  try clear c3b0
  try clear p2
  obtain ⟨x5_2, x7_2, rfl, HA, HK2, HO_5, HB⟩ := hrel
  cases gk with
  | zero => exact absurd HA.out (by simp [sleuthlaw25_by.l1])
  | succ k2 =>
   have H := HA.out
   clear HA
   simp only [sleuthlaw25_by.l1] at H
   by_cases c4 : 0 ≤ x6_1
   rotate_left
   ·rw [if_neg c4] at H
    exact absurd H (by simp)
   rw [if_pos c4] at H
   have c4b0 : decide (0 ≤ x6_1) = true := decide_eq_true c4
   clear c4
   by_cases c5 : x6_1 < (l0.length : Int)
   rotate_left
   ·rw [if_neg c5] at H
    exact absurd H (by simp)
   rw [if_pos c5] at H
   have c5b0 : decide (x6_1 < (l0.length : Int)) = true := decide_eq_true c5
   clear c5
   by_cases c6 : x7_2 < (((rd_T53 l0 x6_1).f2).length : Int)
   rotate_left
   ·rw [if_neg c6] at H
    have c6b0 : decide (x7_2 < (((rd_T53 l0 x6_1).f2).length : Int)) = false := decide_eq_false c6
    clear c6
    have H' := Aside0.mk H
    clear H
    have p322 : 0 ≤ (x6_1 : Int) := of_decide_eq_true qgby2_4
    have q322 : x6_1 < (l0.length : Int) := of_decide_eq_true qgby2_4
    obtain ⟨ad322, A322_2, c322_2, e322, hx322_0, hx322_1, hx322_2, hl322_2, hi322_2⟩ := at_T53 HR0.out x6_1 p322 q322
    cases e322
    replace hx322_0 := (HB.out.cell (World.block_lt_of_cell? w _ hx322_0)).trans hx322_0
    replace hx322_1 := (HB.out.cell (World.block_lt_of_cell? w _ hx322_1)).trans hx322_1
    replace hx322_2 := (HB.out.cell (World.block_lt_of_cell? w _ hx322_2)).trans hx322_2
    have HR322_2 := Aside0.mk hi322_2
    have HC322_2 := Aside0.mk hl322_2
    clear hi322_2 hl322_2
    replace p322 := eq_true p322
    replace q322 := eq_true q322
    go_wp2
    go_roundg k2
    case measure => have := HK1.out; have := HK2.out; omega
    case rel => exact ⟨(x5_2), (wrap64 (x6_1 + 1)), qgby2_7, H', ⟨by have := HK1.out; have := HK2.out; omega⟩, ⟨qgby2_0⟩, ⟨qgby2_3⟩⟩
   rw [if_pos c6] at H
   have c6b0 : decide (x7_2 < (((rd_T53 l0 x6_1).f2).length : Int)) = true := decide_eq_true c6
   clear c6
   by_cases c7 : 0 ≤ x7_2
   rotate_left
   ·rw [if_neg c7] at H
    exact absurd H (by simp)
   rw [if_pos c7] at H
   have c7b0 : decide (0 ≤ x7_2) = true := decide_eq_true c7
   clear c7
   replace H := Option.bind_eq_some_iff.mp H
   obtain ⟨⟨t325, t326, t327⟩, A80, H⟩ := H
   replace H : (sleuthlaw25_by.l2 k2 l0 a1 x5_2 x6_1 x7_2 (x5_2.length : Int) t325 t326 t327) = some r := H
   have A8 := Aside0.mk A80
   clear A80
   have HC9 := Aside0.mk H
   clear H
   have p322 : 0 ≤ (x6_1 : Int) := of_decide_eq_true qgby2_4
   have q322 : x6_1 < (l0.length : Int) := of_decide_eq_true qgby2_4
   obtain ⟨ad322, A322_2, c322_2, e322, hx322_0, hx322_1, hx322_2, hl322_2, hi322_2⟩ := at_T53 HR0.out x6_1 p322 q322
   cases e322
   replace hx322_0 := (HB.out.cell (World.block_lt_of_cell? w _ hx322_0)).trans hx322_0
   replace hx322_1 := (HB.out.cell (World.block_lt_of_cell? w _ hx322_1)).trans hx322_1
   replace hx322_2 := (HB.out.cell (World.block_lt_of_cell? w _ hx322_2)).trans hx322_2
   have HR322_2 := Aside0.mk hi322_2
   have HC322_2 := Aside0.mk hl322_2
   clear hi322_2 hl322_2
   replace p322 := eq_true p322
   replace q322 := eq_true q322
   have p323 : 0 ≤ (x6_1 : Int) := of_decide_eq_true qgby2_4
   have q323 : x6_1 < (l0.length : Int) := of_decide_eq_true qgby2_4
   obtain ⟨ad323, A323_2, c323_2, e323, hx323_0, hx323_1, hx323_2, hl323_2, hi323_2⟩ := at_T53 HR0.out x6_1 p323 q323
   obtain rfl : ad322 = ad323 := (by injection e323)
   replace hx323_0 := (HB.out.cell (World.block_lt_of_cell? w _ hx323_0)).trans hx323_0
   replace hx323_1 := (HB.out.cell (World.block_lt_of_cell? w _ hx323_1)).trans hx323_1
   replace hx323_2 := (HB.out.cell (World.block_lt_of_cell? w _ hx323_2)).trans hx323_2
   have HR323_2 := Aside0.mk hi323_2
   have HC323_2 := Aside0.mk hl323_2
   clear hi323_2 hl323_2
   replace p323 := eq_true p323
   replace q323 := eq_true q323
   have ea_ := Option.some.inj (hx322_2.symm.trans hx323_2)
   injection ea_ with ea_ en_ ec_
   subst ea_
   subst ec_
   clear en_
   have p324 : 0 ≤ (x7_2 : Int) := of_decide_eq_true qgby2_4
   have q324 : x7_2 < (((rd_T53 l0 x6_1).f2).length : Int) := of_decide_eq_true qgby2_4
   obtain ⟨ad324, A324_12, c324_12, A324_13, c324_13, e324, hx324_0, hx324_1, hx324_2, hx324_3, hx324_4, hx324_5, hx324_6, hx324_7, hx324_8, hx324_9, hx324_10, hx324_11, hx324_12, hx324_13, hl324_12, hi324_12, hl324_13, hi324_13⟩ := at_T58 HR323_2.out x7_2 p324 q324
   cases e324
   replace hx324_0 := (HB.out.cell (World.block_lt_of_cell? w _ hx324_0)).trans hx324_0
   replace hx324_1 := (HB.out.cell (World.block_lt_of_cell? w _ hx324_1)).trans hx324_1
   replace hx324_2 := (HB.out.cell (World.block_lt_of_cell? w _ hx324_2)).trans hx324_2
   replace hx324_3 := (HB.out.cell (World.block_lt_of_cell? w _ hx324_3)).trans hx324_3
   replace hx324_4 := (HB.out.cell (World.block_lt_of_cell? w _ hx324_4)).trans hx324_4
   replace hx324_5 := (HB.out.cell (World.block_lt_of_cell? w _ hx324_5)).trans hx324_5
   replace hx324_6 := (HB.out.cell (World.block_lt_of_cell? w _ hx324_6)).trans hx324_6
   replace hx324_7 := (HB.out.cell (World.block_lt_of_cell? w _ hx324_7)).trans hx324_7
   replace hx324_8 := (HB.out.cell (World.block_lt_of_cell? w _ hx324_8)).trans hx324_8
   replace hx324_9 := (HB.out.cell (World.block_lt_of_cell? w _ hx324_9)).trans hx324_9
   replace hx324_10 := (HB.out.cell (World.block_lt_of_cell? w _ hx324_10)).trans hx324_10
   replace hx324_11 := (HB.out.cell (World.block_lt_of_cell? w _ hx324_11)).trans hx324_11
   replace hx324_12 := (HB.out.cell (World.block_lt_of_cell? w _ hx324_12)).trans hx324_12
   replace hx324_13 := (HB.out.cell (World.block_lt_of_cell? w _ hx324_13)).trans hx324_13
   have HR324_12 := Aside0.mk hi324_12
   have HC324_12 := Aside0.mk hl324_12
   clear hi324_12 hl324_12
   have HR324_13 := Aside0.mk hi324_13
   have HC324_13 := Aside0.mk hl324_13
   clear hi324_13 hl324_13
   replace p324 := eq_true p324
   replace q324 := eq_true q324
   go_upto_block 4 with (first | ((with_reducible refine gate_callee (f := 21) rfl ?_); refine goesL_ (some 35) rfl rfl Try.func21 (by kernel_rfl) rfl #[.agg #[.int .i64 ((rd_T58 ((rd_T53 l0 x6_1).f2) x7_2).f0), .int .i64 ((rd_T58 ((rd_T53 l0 x6_1).f2) x7_2).f1), .int .i64 ((rd_T58 ((rd_T53 l0 x6_1).f2) x7_2).f2), .int .i64 ((rd_T58 ((rd_T53 l0 x6_1).f2) x7_2).f3), .int .i64 ((rd_T58 ((rd_T53 l0 x6_1).f2) x7_2).f4), .int .i64 ((rd_T58 ((rd_T53 l0 x6_1).f2) x7_2).f5), .string ((rd_T58 ((rd_T53 l0 x6_1).f2) x7_2).f6), .string ((rd_T58 ((rd_T53 l0 x6_1).f2) x7_2).f7), .string ((rd_T58 ((rd_T53 l0 x6_1).f2) x7_2).f8), .int .i64 ((rd_T58 ((rd_T53 l0 x6_1).f2) x7_2).f9), .int .i64 ((rd_T58 ((rd_T53 l0 x6_1).f2) x7_2).f10), .bool ((rd_T58 ((rd_T53 l0 x6_1).f2) x7_2).f11), .slice A324_12 ((rd_T58 ((rd_T53 l0 x6_1).f2) x7_2).f12).length c324_12, .slice A324_13 ((rd_T58 ((rd_T53 l0 x6_1).f2) x7_2).f13).length c324_13], .int .i64 a1] rfl qgby2_9 ?_; (with_reducible refine (sleuthlaw25_group.calls ((rd_T58 ((rd_T53 l0 x6_1).f2) x7_2).f0) ((rd_T58 ((rd_T53 l0 x6_1).f2) x7_2).f1) ((rd_T58 ((rd_T53 l0 x6_1).f2) x7_2).f2) ((rd_T58 ((rd_T53 l0 x6_1).f2) x7_2).f3) ((rd_T58 ((rd_T53 l0 x6_1).f2) x7_2).f4) ((rd_T58 ((rd_T53 l0 x6_1).f2) x7_2).f5) ((rd_T58 ((rd_T53 l0 x6_1).f2) x7_2).f6) ((rd_T58 ((rd_T53 l0 x6_1).f2) x7_2).f7) ((rd_T58 ((rd_T53 l0 x6_1).f2) x7_2).f8) ((rd_T58 ((rd_T53 l0 x6_1).f2) x7_2).f9) ((rd_T58 ((rd_T53 l0 x6_1).f2) x7_2).f10) ((rd_T58 ((rd_T53 l0 x6_1).f2) x7_2).f11) _ _ ((rd_T58 ((rd_T53 l0 x6_1).f2) x7_2).f12) _ _ ((rd_T58 ((rd_T53 l0 x6_1).f2) x7_2).f13) a1 t325 t326 t327 _ ?side1 ?side2 ?side3 ?side4 A8.out).mono ?_); (case side1 => repeat (first | exact (Kd.C_below HR324_12.out HB.out) | (with_reducible refine Kd.C_alloc ?_ _) | (with_reducible refine Kd.C_drewN ?_ _) | (with_reducible refine Kd.C_drew ?_))); (case side2 => exact HC324_12.out); (case side3 => repeat (first | exact (Kd.C_below HR324_13.out HB.out) | (with_reducible refine Kd.C_alloc ?_ _) | (with_reducible refine Kd.C_drewN ?_ _) | (with_reducible refine Kd.C_drew ?_))); (case side4 => exact HC324_13.out); rintro e w10 ⟨rfl, hb⟩; refine ⟨_, rfl, ?_⟩; have n0_ := Aside0.mk (Kd.R_below qgby2_0 hb); have n1_ := Aside0.mk (below_step qgby2_3 hb); clear HO_5; clear HB; have HO_5 := n0_; have HB := n1_; clear n0_ n1_; (try clear hb); (try clear hb2); (try clear hk); (try clear hi)) | ((with_reducible refine gate_dst (N := 8) rfl ?_); refine box_event ?hg (N := 8) ?hd (cs := #[.string (⟨#[]⟩ : ByteArray), .string (⟨#[]⟩ : ByteArray), .string (⟨#[]⟩ : ByteArray)]) (t := 39) ?hr ?_; (case hd => rfl); (case hg => rfl); (case hr => first | (go_simp; done) | (go_simp; rfl)); intro gb328 hg w11 hbox hb; have n0_ := Aside0.mk (Kd.R_below qgby2_0 hb); have n1_ := Aside0.mk (below_step qgby2_3 hb); have n2_ := Aside0.mk (hbox); have n3_ := Aside0.mk ((by rw [hg]; exact (below_size qgby2_3) : w.heap.size ≤ gb328)); have n4_ := Aside0.mk ((by rw [hg]; exact (below_size qgby2_3) : w.heap.size ≤ gb328)); clear HO_5; clear HB; have HO_5 := n0_; have HB := n1_; have BK328 := n2_; have GW328 := n3_; have GE328 := n4_; clear n0_ n1_ n2_ n3_ n4_; clear hb hbox hg; have hcz12_0 : w11.cell? ⟨gb328, 0, none⟩ = some (.string (⟨#[]⟩ : ByteArray)) := (blk_cell BK328.out 0).trans rfl; have hcz12_1 : w11.cell? ⟨gb328, 1, none⟩ = some (.string (⟨#[]⟩ : ByteArray)) := (blk_cell BK328.out 1).trans rfl; have hcz12_2 : w11.cell? ⟨gb328, 2, none⟩ = some (.string (⟨#[]⟩ : ByteArray)) := (blk_cell BK328.out 2).trans rfl; have hfz12_0 := blk_frozen BK328.out 0; have hfz12_1 := blk_frozen BK328.out 1; have hfz12_2 := blk_frozen BK328.out 2; obtain ⟨Ao13, co13, eo13⟩ := Kd.R_slice HO_5.out; subst eo13))
   (try simp only [Act.put, List.setIfInBounds_toArray, List.set_cons_zero, List.set_cons_succ])
   go_cut [9] (fun v9 wc => ∃ (kq : Nat) (x9_8 : Int), v9 = .int .i64 x9_8 ∧ Aside0 (sleuthlaw25_by.j3 kq l0 a1 x5_2 x6_1 x7_2 x9_8 t325 t326 t327 = some r) ∧ Aside0 (kq ≤ k2) ∧ Aside0 (Kd.R k41 41 wc w.heap.size (fun _ => True) (.slice Ao13 x5_2.length co13) x5_2) ∧ Aside0 (wc.heap[gb328]? = some (.cells #[.string t325, .string t326, .string t327] 39 (0, 0))) ∧ Aside0 (Below w.heap.size w wc))
   case first =>
    have H := HC9.out
    clear HC9
    have H' := Aside0.mk H
    clear H
    go_wp2
    go_loopg [9] k2 (fun kq v9 w' => ∃ (x9_3 : Int), v9 = .int .i64 x9_3 ∧ Aside0 (sleuthlaw25_by.l2 kq l0 a1 x5_2 x6_1 x7_2 x9_3 t325 t326 t327 = some r) ∧ Aside0 (kq ≤ k2) ∧ Aside0 (Kd.R k41 41 w' w.heap.size (fun _ => True) (.slice Ao13 x5_2.length co13) x5_2) ∧ Aside0 (w'.heap[gb328]? = some (.cells #[.string t325, .string t326, .string t327] 39 (0, 0))) ∧ Aside0 (Below w.heap.size w w'))
    case atStart => exact ⟨((x5_2.length : Int)), qgby2_7, H', ⟨Nat.le_refl _⟩, ⟨by (with_reducible repeat (first | apply Kd.R_alloc | apply Kd.R_drewN | apply Kd.R_drew)); exact Kd.R_mono (Kd.R_far (p := ⟨gb328, 2, none⟩) (Kd.R_far (p := ⟨gb328, 1, none⟩) (Kd.R_far (p := ⟨gb328, 0, none⟩) (Kd.R_types HO_5.out BK328.out (by decide)) (fun _ hk => hk.2) (.string t325)) (fun _ hk => hk.2) (.string t326)) (fun _ hk => hk.2) (.string t327)) (fun _ hk => trivial)⟩, ⟨by (with_reducible repeat (first | refine blk_drewN ?_ _ | refine blk_drew ?_ | refine blk_alloc ?_ _)); refine blk_put (cs := #[.string t325, .string t326, .string (⟨#[]⟩ : ByteArray)]) ?_ 2 _ rfl; (with_reducible repeat (first | refine blk_drewN ?_ _ | refine blk_drew ?_ | refine blk_alloc ?_ _)); refine blk_put (cs := #[.string t325, .string (⟨#[]⟩ : ByteArray), .string (⟨#[]⟩ : ByteArray)]) ?_ 1 _ rfl; (with_reducible repeat (first | refine blk_drewN ?_ _ | refine blk_drew ?_ | refine blk_alloc ?_ _)); refine blk_put (cs := #[.string (⟨#[]⟩ : ByteArray), .string (⟨#[]⟩ : ByteArray), .string (⟨#[]⟩ : ByteArray)]) ?_ 0 _ rfl; (with_reducible repeat (first | refine blk_drewN ?_ _ | refine blk_drew ?_ | refine blk_alloc ?_ _)); exact BK328.out⟩, ⟨qgby2_1⟩⟩
    clear H'
    try clear c2
    try clear p2
    try clear c3
    try clear c3b0
    try clear p3
    try clear q3
    try clear hx3
    try clear c4
    try clear c4b0
    try clear c5
    try clear c5b0
    try clear c6
    try clear c6b0
    try clear c7
    try clear c7b0
    try clear hcz12_0
    try clear hcz12_1
    try clear hcz12_2
    try clear hfz12_0
    try clear hfz12_1
    try clear hfz12_2
    try clear hx322_0
    try clear hx322_1
    try clear hx322_2
    try clear hx323_0
    try clear hx323_1
    try clear hx323_2
    try clear hx324_0
    try clear hx324_1
    try clear hx324_10
    try clear hx324_11
    try clear hx324_12
    try clear hx324_13
    try clear hx324_2
    try clear hx324_3
    try clear hx324_4
    try clear hx324_5
    try clear hx324_6
    try clear hx324_7
    try clear hx324_8
    try clear hx324_9
    try clear p2
    try clear p322
    try clear p323
    try clear p324
    try clear q322
    try clear q323
    try clear q324
    obtain ⟨x9_3, rfl, HA, HK3, HO_5, BK328, HB⟩ := hrel
    cases gk with
    | zero => exact absurd HA.out (by simp [sleuthlaw25_by.l2])
    | succ k3 =>
     have H := HA.out
     clear HA
     simp only [sleuthlaw25_by.l2] at H
     by_cases c14 : x9_3 > 0
     rotate_left
     ·rw [if_neg c14] at H
      have c14b0 : decide (0 < x9_3) = false := decide_eq_false c14
      clear c14
      (first | rw [c14b0] | (simp only [i64_w, i32_w]; rw [c14b0]) | skip)
      have H' := Aside0.mk H
      clear H
      try go_wp2
      have n0_ := Aside0.mk (Kd.R_drew HO_5.out)
      have n1_ := Aside0.mk (blk_drew BK328.out)
      have n2_ := Aside0.mk (below_drew1 HB.out)
      clear HO_5
      clear BK328
      clear HB
      have HO_5 := n0_
      have BK328 := n1_
      have HB := n2_
      clear n0_ n1_ n2_
      refine start_ (n := 12) (S := fun w' => True) (ds := []) #[F2952, F2952, F2952, F2952, F2952, F2952, F2952, F2952, F2952, F2952, F2952, F2952] (by kernel_rfl) rfl rfl trivial (fun hHeld => ?_); refine with_tabW sleuthlaw25_by.tab10 sleuthlaw25_by.bits10 (fun HT_ HW_ => ?_)
      generalize wr.drew = w24 at HO_5 BK328 HB hHeld ⊢
      refine pure_ (i := 0) (N := some 38) (v := ?_) (a' := ?_) #[T2952, F2952, F2952, F2952, F2952, F2952, F2952, F2952, F2952, F2952, F2952, F2952] rfl rfl (any_of HT_.out (by kernel_rfl)) (fun _ _ _ h => h) (Or.inl ⟨by rfl, ?_⟩) ?_ ?_
      rotate_left
      ·intro w'
       go_simp
       with_reducible rfl
      rotate_left
      ·simp only [Act.put, List.setIfInBounds_toArray, List.set_cons_zero, List.set_cons_succ, i64_w, i32_w]
       rfl
      refine pure_ (i := 1) (N := some 39) (v := ?_) (a' := ?_) #[T2952, T2952, F2952, F2952, F2952, F2952, F2952, F2952, F2952, F2952, F2952, F2952] rfl rfl (any_of HT_.out (by kernel_rfl)) (fun _ _ _ h => h) (Or.inl ⟨by rfl, ?_⟩) ?_ ?_
      rotate_left
      ·intro w'
       go_simp
       with_reducible rfl
      rotate_left
      ·simp only [Act.put, List.setIfInBounds_toArray, List.set_cons_zero, List.set_cons_succ, i64_w, i32_w]
       rfl
      refine pure_ (i := 2) (N := some 40) (v := ?_) (a' := ?_) #[T2952, T2952, T2952, F2952, F2952, F2952, F2952, F2952, F2952, F2952, F2952, F2952] rfl rfl (any_of HT_.out (by kernel_rfl)) (fun _ _ _ h => h) (Or.inl ⟨by rfl, ?_⟩) ?_ ?_
      rotate_left
      ·intro w'
       go_simp
       with_reducible rfl
      rotate_left
      ·simp only [Act.put, List.setIfInBounds_toArray, List.set_cons_zero, List.set_cons_succ, i64_w, i32_w]
       rfl
      refine pure_ (i := 3) (N := some 41) (v := undef) (a' := ?_) #[T2952, T2952, T2952, T2952, F2952, F2952, F2952, F2952, F2952, F2952, F2952, F2952] rfl rfl (any_of HT_.out (by kernel_rfl)) (fun _ _ _ h => h) (Or.inr ⟨by rfl, rfl⟩) ?_ ?_
      rotate_left
      ·simp only [Act.put, List.setIfInBounds_toArray, List.set_cons_zero, List.set_cons_succ, i64_w, i32_w]
       rfl
      refine pure_ (i := 4) (N := some 42) (v := undef) (a' := ?_) #[T2952, T2952, T2952, T2952, T2952, F2952, F2952, F2952, F2952, F2952, F2952, F2952] rfl rfl (any_of HT_.out (by kernel_rfl)) (fun _ _ _ h => h) (Or.inr ⟨by rfl, rfl⟩) ?_ ?_
      rotate_left
      ·simp only [Act.put, List.setIfInBounds_toArray, List.set_cons_zero, List.set_cons_succ, i64_w, i32_w]
       rfl
      refine pure_ (i := 5) (N := some 43) (v := undef) (a' := ?_) #[T2952, T2952, T2952, T2952, T2952, T2952, F2952, F2952, F2952, F2952, F2952, F2952] rfl rfl (any_of HT_.out (by kernel_rfl)) (fun _ _ _ h => h) (Or.inr ⟨by rfl, rfl⟩) ?_ ?_
      rotate_left
      ·simp only [Act.put, List.setIfInBounds_toArray, List.set_cons_zero, List.set_cons_succ, i64_w, i32_w]
       rfl
      refine pure_ (i := 6) (N := some 44) (v := undef) (a' := ?_) #[T2952, T2952, T2952, T2952, T2952, T2952, T2952, F2952, F2952, F2952, F2952, F2952] rfl rfl (any_of HT_.out (by kernel_rfl)) (fun _ _ _ h => h) (Or.inr ⟨by rfl, rfl⟩) ?_ ?_
      rotate_left
      ·simp only [Act.put, List.setIfInBounds_toArray, List.set_cons_zero, List.set_cons_succ, i64_w, i32_w]
       rfl
      refine pure_ (i := 7) (N := some 45) (v := undef) (a' := ?_) #[T2952, T2952, T2952, T2952, T2952, T2952, T2952, T2952, F2952, F2952, F2952, F2952] rfl rfl (any_of HT_.out (by kernel_rfl)) (fun _ _ _ h => h) (Or.inr ⟨by rfl, rfl⟩) ?_ ?_
      rotate_left
      ·simp only [Act.put, List.setIfInBounds_toArray, List.set_cons_zero, List.set_cons_succ, i64_w, i32_w]
       rfl
      refine pure_ (i := 8) (N := some 46) (v := undef) (a' := ?_) #[T2952, T2952, T2952, T2952, T2952, T2952, T2952, T2952, T2952, F2952, F2952, F2952] rfl rfl (any_of HT_.out (by kernel_rfl)) (fun _ _ _ h => h) (Or.inr ⟨by rfl, rfl⟩) ?_ ?_
      rotate_left
      ·simp only [Act.put, List.setIfInBounds_toArray, List.set_cons_zero, List.set_cons_succ, i64_w, i32_w]
       rfl
      refine pure_ (i := 9) (N := some 47) (v := undef) (a' := ?_) #[T2952, T2952, T2952, T2952, T2952, T2952, T2952, T2952, T2952, T2952, F2952, F2952] rfl rfl (any_of HT_.out (by kernel_rfl)) (fun _ _ _ h => h) (Or.inr ⟨by rfl, rfl⟩) ?_ ?_
      rotate_left
      ·simp only [Act.put, List.setIfInBounds_toArray, List.set_cons_zero, List.set_cons_succ, i64_w, i32_w]
       rfl
      refine pure_ (i := 10) (N := some 48) (v := undef) (a' := ?_) #[T2952, T2952, T2952, T2952, T2952, T2952, T2952, T2952, T2952, T2952, T2952, F2952] rfl rfl (any_of HT_.out (by kernel_rfl)) (fun _ _ _ h => h) (Or.inr ⟨by rfl, rfl⟩) ?_ ?_
      rotate_left
      ·simp only [Act.put, List.setIfInBounds_toArray, List.set_cons_zero, List.set_cons_succ, i64_w, i32_w]
       rfl
      refine pure_ (i := 11) (N := some 49) (v := ?_) (a' := ?_) #[T2952, T2952, T2952, T2952, T2952, T2952, T2952, T2952, T2952, T2952, T2952, T2952] rfl rfl (any_of HT_.out (by kernel_rfl)) (fun _ _ _ h => h) (Or.inl ⟨by rfl, ?_⟩) ?_ ?_
      rotate_left
      ·intro w'
       go_simp
       with_reducible rfl
      rotate_left
      ·simp only [Act.put, List.setIfInBounds_toArray, List.set_cons_zero, List.set_cons_succ, i64_w, i32_w]
       rfl
      refine done_ (done_of HT_.out (by kernel_rfl)) ?_
      try go_wp2
      go_meet
      case rel => exact ⟨_, (x9_3), qgby2_7, H', ⟨by have := HK1.out; have := HK2.out; have := HK3.out; first | omega | exact Nat.le_refl _⟩, ⟨qgby2_0⟩, ⟨qgby2_2⟩, ⟨qgby2_1⟩⟩
     rw [if_pos c14] at H
     have c14b0 : decide (0 < x9_3) = true := decide_eq_true c14
     clear c14
     (first | rw [c14b0] | (simp only [i64_w, i32_w]; rw [c14b0]) | skip)
     obtain ⟨ji15, hji15⟩ : ∃ j_ : Int, (wrap64 (x9_3 - 1)) = j_ := ⟨_, rfl⟩
     replace H : (if 0 ≤ (ji15) then (if (ji15) < (x5_2.length : Int) then ((sleuthlaw25_less.f t325 t326 t327 ((rd_T41 x5_2 (ji15)).f0.f0) ((rd_T41 x5_2 (ji15)).f0.f1) ((rd_T41 x5_2 (ji15)).f0.f2)).bind fun t330 => (if t330 = true then (sleuthlaw25_by.l2 k3 l0 a1 x5_2 x6_1 x7_2 ji15 t325 t326 t327) else (sleuthlaw25_by.j3 k3 l0 a1 x5_2 x6_1 x7_2 x9_3 t325 t326 t327))) else (none)) else (none)) = some r := by first | (rw [hji15] at H; exact H) | (simp only [hji15] at H ⊢; exact H)
     have hji15w : (IntKind.i64.wrap (x9_3 - 1)) = ji15 := (i64_w _).trans hji15
     by_cases c16 : 0 ≤ (ji15)
     rotate_left
     ·rw [if_neg c16] at H
      exact absurd H (by simp)
     rw [if_pos c16] at H
     have c16b0 : decide (0 ≤ (ji15)) = true := decide_eq_true c16
     clear c16
     by_cases c17 : (ji15) < (x5_2.length : Int)
     rotate_left
     ·rw [if_neg c17] at H
      exact absurd H (by simp)
     rw [if_pos c17] at H
     have c17b0 : decide ((ji15) < (x5_2.length : Int)) = true := decide_eq_true c17
     clear c17
     replace H := Option.bind_eq_some_iff.mp H
     obtain ⟨t330, A180, H⟩ := H
     replace H : (if t330 = true then (sleuthlaw25_by.l2 k3 l0 a1 x5_2 x6_1 x7_2 ji15 t325 t326 t327) else (sleuthlaw25_by.j3 k3 l0 a1 x5_2 x6_1 x7_2 x9_3 t325 t326 t327)) = some r := H
     have A18 := Aside0.mk A180
     clear A180
     by_cases c19 : t330 = true
     rotate_left
     ·replace c19 := Bool.eq_false_iff.mpr c19
      subst c19
      have H1 : (sleuthlaw25_by.j3 k3 l0 a1 x5_2 x6_1 x7_2 x9_3 t325 t326 t327) = some r := by rw [if_neg (show ¬ (false = true) by decide)] at H; exact H
      clear H
      have H := H1
      clear H1
      have H' := Aside0.mk H
      clear H
      try go_wp2
      have n0_ := Aside0.mk (Kd.R_drew HO_5.out)
      have n1_ := Aside0.mk (blk_drew BK328.out)
      have n2_ := Aside0.mk (below_drew1 HB.out)
      clear HO_5
      clear BK328
      clear HB
      have HO_5 := n0_
      have BK328 := n1_
      have HB := n2_
      clear n0_ n1_ n2_
      have p329 : 0 ≤ ((ji15) : Int) := of_decide_eq_true qgby2_4
      have q329 : (ji15) < (x5_2.length : Int) := of_decide_eq_true qgby2_4
      obtain ⟨ad329, e329, hx329_0, hx329_1, hx329_2, hx329_3, hx329_4, hx329_5, hx329_6⟩ := at_T41 (Kd.R_reads' HO_5.out).2.2 (ji15) p329 q329
      cases e329
      replace p329 := eq_true p329
      replace q329 := eq_true q329
      refine start_ (n := 12) (S := fun w' => w'.cell? ⟨gb328, 0, none⟩ = some (.string t325) ∧ w'.cell? ⟨gb328, 1, none⟩ = some (.string t326) ∧ w'.cell? ⟨gb328, 2, none⟩ = some (.string t327) ∧ w'.cell? (ad329.add (((ji15)).toNat * 7)) = some (.string ((rd_T41 x5_2 (ji15)).f0.f0)) ∧ w'.cell? ⟨(ad329.add (((ji15)).toNat * 7)).block, (ad329.add (((ji15)).toNat * 7)).off + 1, none⟩ = some (.string ((rd_T41 x5_2 (ji15)).f0.f1)) ∧ w'.cell? ⟨(ad329.add (((ji15)).toNat * 7)).block, (ad329.add (((ji15)).toNat * 7)).off + 2, none⟩ = some (.string ((rd_T41 x5_2 (ji15)).f0.f2)) ∧ w'.cell? ⟨(ad329.add (((ji15)).toNat * 7)).block, (ad329.add (((ji15)).toNat * 7)).off + 3, none⟩ = some (.int .i64 ((rd_T41 x5_2 (ji15)).f1.f0)) ∧ w'.cell? ⟨(ad329.add (((ji15)).toNat * 7)).block, (ad329.add (((ji15)).toNat * 7)).off + 4, none⟩ = some (.int .i64 ((rd_T41 x5_2 (ji15)).f1.f1)) ∧ w'.cell? ⟨(ad329.add (((ji15)).toNat * 7)).block, (ad329.add (((ji15)).toNat * 7)).off + 5, none⟩ = some (.int .i64 ((rd_T41 x5_2 (ji15)).f1.f2)) ∧ w'.cell? ⟨(ad329.add (((ji15)).toNat * 7)).block, (ad329.add (((ji15)).toNat * 7)).off + 6, none⟩ = some (.int .i64 ((rd_T41 x5_2 (ji15)).f1.f3))) (ds := []) #[F2952, F2952, F2952, F2952, F2952, F2952, F2952, F2952, F2952, F2952, F2952, F2952] (by kernel_rfl) rfl rfl ⟨(blk_cell BK328.out 0).trans rfl, (blk_cell BK328.out 1).trans rfl, (blk_cell BK328.out 2).trans rfl, hx329_0, hx329_1, hx329_2, hx329_3, hx329_4, hx329_5, hx329_6⟩ (fun hHeld => ?_); refine with_tabW sleuthlaw25_by.tab10 sleuthlaw25_by.bits10 (fun HT_ HW_ => ?_)
      generalize wr.drew = w22 at HO_5 BK328 HB hx329_0 hx329_1 hx329_2 hx329_3 hx329_4 hx329_5 hx329_6 hHeld ⊢
      refine pure_ (i := 0) (N := some 38) (v := ?_) (a' := ?_) #[T2952, F2952, F2952, F2952, F2952, F2952, F2952, F2952, F2952, F2952, F2952, F2952] rfl rfl (any_of HT_.out (by kernel_rfl)) (fun _ _ _ h => h) (Or.inl ⟨by rfl, ?_⟩) ?_ ?_
      rotate_left
      ·intro w'
       go_simp
       with_reducible rfl
      rotate_left
      ·simp only [Act.put, List.setIfInBounds_toArray, List.set_cons_zero, List.set_cons_succ, i64_w, i32_w]
       rfl
      refine pure_ (i := 1) (N := some 39) (v := ?_) (a' := ?_) #[T2952, T2952, F2952, F2952, F2952, F2952, F2952, F2952, F2952, F2952, F2952, F2952] rfl rfl (any_of HT_.out (by kernel_rfl)) (fun _ _ _ h => h) (Or.inl ⟨by rfl, ?_⟩) ?_ ?_
      rotate_left
      ·intro w'
       go_simp
       with_reducible rfl
      rotate_left
      ·simp only [Act.put, List.setIfInBounds_toArray, List.set_cons_zero, List.set_cons_succ, i64_w, i32_w]
       rfl
      refine pure_ (i := 2) (N := some 40) (v := ?_) (a' := ?_) #[T2952, T2952, T2952, F2952, F2952, F2952, F2952, F2952, F2952, F2952, F2952, F2952] rfl rfl (any_of HT_.out (by kernel_rfl)) (fun _ _ _ h => h) (Or.inl ⟨by rfl, ?_⟩) ?_ ?_
      rotate_left
      ·intro w'
       go_simp
       with_reducible rfl
      rotate_left
      ·simp only [Act.put, List.setIfInBounds_toArray, List.set_cons_zero, List.set_cons_succ, i64_w, i32_w]
       rfl
      refine pure_ (i := 4) (N := some 42) (v := ?_) (a' := ?_) #[T2952, T2952, T2952, F2952, T2952, F2952, F2952, F2952, F2952, F2952, F2952, F2952] rfl rfl (any_of HT_.out (by kernel_rfl)) (fun _ _ _ h => h) (Or.inl ⟨by rfl, ?_⟩) ?_ ?_
      rotate_left
      ·intro w'
       go_simp
       with_reducible rfl
      rotate_left
      ·simp only [Act.put, List.setIfInBounds_toArray, List.set_cons_zero, List.set_cons_succ, i64_w, i32_w]
       rfl
      refine pure_ (i := 5) (N := some 43) (v := ?_) (a' := ?_) #[T2952, T2952, T2952, F2952, T2952, T2952, F2952, F2952, F2952, F2952, F2952, F2952] rfl rfl (any_of HT_.out (by kernel_rfl)) (fun _ _ _ h => h) (Or.inl ⟨by rfl, ?_⟩) ?_ ?_
      rotate_left
      ·intro w'
       go_simp
       with_reducible rfl
      rotate_left
      ·simp only [Act.put, List.setIfInBounds_toArray, List.set_cons_zero, List.set_cons_succ, i64_w, i32_w]
       rfl
      refine pure_ (i := 6) (N := some 44) (v := ?_) (a' := ?_) #[T2952, T2952, T2952, F2952, T2952, T2952, T2952, F2952, F2952, F2952, F2952, F2952] rfl rfl (any_of HT_.out (by kernel_rfl)) (fun _ _ _ h => h) (Or.inl ⟨by rfl, ?_⟩) ?_ ?_
      rotate_left
      ·intro w'
       go_simp
       with_reducible rfl
      rotate_left
      ·simp only [Act.put, List.setIfInBounds_toArray, List.set_cons_zero, List.set_cons_succ, i64_w, i32_w]
       rfl
      refine pure_ (i := 7) (N := some 45) (v := ?_) (a' := ?_) #[T2952, T2952, T2952, F2952, T2952, T2952, T2952, T2952, F2952, F2952, F2952, F2952] rfl rfl (any_of HT_.out (by kernel_rfl)) (fun _ _ _ h => h) (Or.inl ⟨by rfl, ?_⟩) ?_ ?_
      rotate_left
      ·intro w'
       go_simp
       with_reducible rfl
      rotate_left
      ·simp only [Act.put, List.setIfInBounds_toArray, List.set_cons_zero, List.set_cons_succ, i64_w, i32_w]
       rfl
      refine pure_ (i := 8) (N := some 46) (v := ?_) (a' := ?_) #[T2952, T2952, T2952, F2952, T2952, T2952, T2952, T2952, T2952, F2952, F2952, F2952] rfl rfl (any_of HT_.out (by kernel_rfl)) (fun _ _ _ h => h) (Or.inl ⟨by rfl, ?_⟩) ?_ ?_
      rotate_left
      ·intro w'
       go_simp
       with_reducible rfl
      rotate_left
      ·simp only [Act.put, List.setIfInBounds_toArray, List.set_cons_zero, List.set_cons_succ, i64_w, i32_w]
       rfl
      refine take_ (i := 3) (N := some 41) (v := ?_) (a' := ?_) #[T2952, T2952, T2952, T2952, T2952, T2952, T2952, T2952, T2952, F2952, F2952, F2952] rfl rfl (take_ofW HT_.out HW_.out (by kernel_rfl)) (fun _ _ _ h => h) (Or.inl ⟨by rfl, ?_⟩) hHeld ?_ ?_
      rotate_left
      ·rintro w' ⟨s0, s1, s2, s3, s4, s5, s6, s7, s8, s9⟩
       go_simp
       with_reducible rfl
      rotate_left
      ·simp only [Act.put, List.setIfInBounds_toArray, List.set_cons_zero, List.set_cons_succ, i64_w, i32_w]
       rfl
      refine take_ (i := 9) (N := some 47) (v := ?_) (a' := ?_) #[T2952, T2952, T2952, T2952, T2952, T2952, T2952, T2952, T2952, T2952, F2952, F2952] rfl rfl (take_ofW HT_.out HW_.out (by kernel_rfl)) (fun _ _ _ h => h) (Or.inl ⟨by rfl, ?_⟩) hHeld ?_ ?_
      rotate_left
      ·rintro w' ⟨s0, s1, s2, s3, s4, s5, s6, s7, s8, s9⟩
       go_simp
       with_reducible rfl
      rotate_left
      ·simp only [Act.put, List.setIfInBounds_toArray, List.set_cons_zero, List.set_cons_succ, i64_w, i32_w]
       rfl
      refine one_ (i := 10) (N := some 48) #[T2952, T2952, T2952, T2952, T2952, T2952, T2952, T2952, T2952, T2952, T2952, F2952] rfl rfl (one_of HT_.out (by kernel_rfl)) (by decide) (fun K hK => ?_)
      refine goes_ Try.func44 (by kernel_rfl) rfl #[.agg #[.string t325, .string t326, .string t327], .agg #[.string ((rd_T41 x5_2 (ji15)).f0.f0), .string ((rd_T41 x5_2 (ji15)).f0.f1), .string ((rd_T41 x5_2 (ji15)).f0.f2)]] (by rfl) rfl rfl qgby2_8 ?_
      with_reducible refine (sleuthlaw25_less.calls t325 t326 t327 ((rd_T41 x5_2 (ji15)).f0.f0) ((rd_T41 x5_2 (ji15)).f0.f1) ((rd_T41 x5_2 (ji15)).f0.f2) false _ A18.out).mono ?_
      rintro e w23 ⟨rfl, hb⟩
      have HS3_ := (hb.cell (World.block_lt_of_cell? _ _ (hHeld.2.2.2.1))).trans (hHeld.2.2.2.1)
      have HS4_ := (hb.cell (World.block_lt_of_cell? _ _ (hHeld.2.2.2.2.1))).trans (hHeld.2.2.2.2.1)
      have HS5_ := (hb.cell (World.block_lt_of_cell? _ _ (hHeld.2.2.2.2.2.1))).trans (hHeld.2.2.2.2.2.1)
      have HS6_ := (hb.cell (World.block_lt_of_cell? _ _ (hHeld.2.2.2.2.2.2.1))).trans (hHeld.2.2.2.2.2.2.1)
      have HS7_ := (hb.cell (World.block_lt_of_cell? _ _ (hHeld.2.2.2.2.2.2.2.1))).trans (hHeld.2.2.2.2.2.2.2.1)
      have HS8_ := (hb.cell (World.block_lt_of_cell? _ _ (hHeld.2.2.2.2.2.2.2.2.1))).trans (hHeld.2.2.2.2.2.2.2.2.1)
      have HS9_ := (hb.cell (World.block_lt_of_cell? _ _ (hHeld.2.2.2.2.2.2.2.2.2))).trans (hHeld.2.2.2.2.2.2.2.2.2)
      refine ⟨_, rfl, ?_⟩
      have n0_ := Aside0.mk (Kd.R_below qgby2_0 hb)
      have n1_ := Aside0.mk (blk_below (g := gb328) (o := .cells #[.string t325, .string t326, .string t327] 39 (0, 0)) qgby2_2 hb)
      have n2_ := Aside0.mk (below_step qgby2_1 hb)
      clear HO_5
      clear BK328
      clear HB
      have HO_5 := n0_
      have BK328 := n1_
      have HB := n2_
      clear n0_ n1_ n2_
      (try clear hb)
      (try clear hb2)
      (try clear hk)
      (try clear hi)
      refine hK.out _ _ ⟨(blk_cell BK328.out 0).trans rfl, (blk_cell BK328.out 1).trans rfl, (blk_cell BK328.out 2).trans rfl, HS3_, HS4_, HS5_, HS6_, HS7_, HS8_, HS9_⟩ (fun hHeld => ?_)
      clear hK K
      refine norm_ (a' := ?_) ?_ ?_
      rotate_left
      ·show Act.put _ (some 48) _ = _
       simp only [Act.put, List.setIfInBounds_toArray, List.set_cons_zero, List.set_cons_succ, i64_w, i32_w]
       rfl
      refine pure_ (i := 11) (N := some 49) (v := ?_) (a' := ?_) #[T2952, T2952, T2952, T2952, T2952, T2952, T2952, T2952, T2952, T2952, T2952, T2952] rfl rfl (any_of HT_.out (by kernel_rfl)) (fun _ _ _ h => h) (Or.inl ⟨by rfl, ?_⟩) ?_ ?_
      rotate_left
      ·intro w'
       go_simp
       with_reducible rfl
      rotate_left
      ·simp only [Act.put, List.setIfInBounds_toArray, List.set_cons_zero, List.set_cons_succ, i64_w, i32_w]
       rfl
      refine done_ (done_of HT_.out (by kernel_rfl)) ?_
      try go_wp2
      go_meet
      case rel => exact ⟨_, (x9_3), qgby2_7, H', ⟨by have := HK1.out; have := HK2.out; have := HK3.out; first | omega | exact Nat.le_refl _⟩, ⟨qgby2_0⟩, ⟨qgby2_2⟩, ⟨qgby2_1⟩⟩
     subst c19
     have H1 : (sleuthlaw25_by.l2 k3 l0 a1 x5_2 x6_1 x7_2 ji15 t325 t326 t327) = some r := by rw [if_pos rfl] at H; exact H
     clear H
     have H := H1
     clear H1
     have H' := Aside0.mk H
     clear H
     try go_wp2
     have n0_ := Aside0.mk (Kd.R_drew HO_5.out)
     have n1_ := Aside0.mk (blk_drew BK328.out)
     have n2_ := Aside0.mk (below_drew1 HB.out)
     clear HO_5
     clear BK328
     clear HB
     have HO_5 := n0_
     have BK328 := n1_
     have HB := n2_
     clear n0_ n1_ n2_
     have p329 : 0 ≤ ((ji15) : Int) := of_decide_eq_true qgby2_4
     have q329 : (ji15) < (x5_2.length : Int) := of_decide_eq_true qgby2_4
     obtain ⟨ad329, e329, hx329_0, hx329_1, hx329_2, hx329_3, hx329_4, hx329_5, hx329_6⟩ := at_T41 (Kd.R_reads' HO_5.out).2.2 (ji15) p329 q329
     cases e329
     replace p329 := eq_true p329
     replace q329 := eq_true q329
     refine start_ (n := 12) (S := fun w' => w'.cell? ⟨gb328, 0, none⟩ = some (.string t325) ∧ w'.cell? ⟨gb328, 1, none⟩ = some (.string t326) ∧ w'.cell? ⟨gb328, 2, none⟩ = some (.string t327) ∧ w'.cell? (ad329.add (((ji15)).toNat * 7)) = some (.string ((rd_T41 x5_2 (ji15)).f0.f0)) ∧ w'.cell? ⟨(ad329.add (((ji15)).toNat * 7)).block, (ad329.add (((ji15)).toNat * 7)).off + 1, none⟩ = some (.string ((rd_T41 x5_2 (ji15)).f0.f1)) ∧ w'.cell? ⟨(ad329.add (((ji15)).toNat * 7)).block, (ad329.add (((ji15)).toNat * 7)).off + 2, none⟩ = some (.string ((rd_T41 x5_2 (ji15)).f0.f2)) ∧ w'.cell? ⟨(ad329.add (((ji15)).toNat * 7)).block, (ad329.add (((ji15)).toNat * 7)).off + 3, none⟩ = some (.int .i64 ((rd_T41 x5_2 (ji15)).f1.f0)) ∧ w'.cell? ⟨(ad329.add (((ji15)).toNat * 7)).block, (ad329.add (((ji15)).toNat * 7)).off + 4, none⟩ = some (.int .i64 ((rd_T41 x5_2 (ji15)).f1.f1)) ∧ w'.cell? ⟨(ad329.add (((ji15)).toNat * 7)).block, (ad329.add (((ji15)).toNat * 7)).off + 5, none⟩ = some (.int .i64 ((rd_T41 x5_2 (ji15)).f1.f2)) ∧ w'.cell? ⟨(ad329.add (((ji15)).toNat * 7)).block, (ad329.add (((ji15)).toNat * 7)).off + 6, none⟩ = some (.int .i64 ((rd_T41 x5_2 (ji15)).f1.f3))) (ds := []) #[F2952, F2952, F2952, F2952, F2952, F2952, F2952, F2952, F2952, F2952, F2952, F2952] (by kernel_rfl) rfl rfl ⟨(blk_cell BK328.out 0).trans rfl, (blk_cell BK328.out 1).trans rfl, (blk_cell BK328.out 2).trans rfl, hx329_0, hx329_1, hx329_2, hx329_3, hx329_4, hx329_5, hx329_6⟩ (fun hHeld => ?_); refine with_tabW sleuthlaw25_by.tab10 sleuthlaw25_by.bits10 (fun HT_ HW_ => ?_)
     generalize wr.drew = w20 at HO_5 BK328 HB hx329_0 hx329_1 hx329_2 hx329_3 hx329_4 hx329_5 hx329_6 hHeld ⊢
     refine pure_ (i := 0) (N := some 38) (v := ?_) (a' := ?_) #[T2952, F2952, F2952, F2952, F2952, F2952, F2952, F2952, F2952, F2952, F2952, F2952] rfl rfl (any_of HT_.out (by kernel_rfl)) (fun _ _ _ h => h) (Or.inl ⟨by rfl, ?_⟩) ?_ ?_
     rotate_left
     ·intro w'
      go_simp
      with_reducible rfl
     rotate_left
     ·simp only [Act.put, List.setIfInBounds_toArray, List.set_cons_zero, List.set_cons_succ, i64_w, i32_w]
      rfl
     refine pure_ (i := 1) (N := some 39) (v := ?_) (a' := ?_) #[T2952, T2952, F2952, F2952, F2952, F2952, F2952, F2952, F2952, F2952, F2952, F2952] rfl rfl (any_of HT_.out (by kernel_rfl)) (fun _ _ _ h => h) (Or.inl ⟨by rfl, ?_⟩) ?_ ?_
     rotate_left
     ·intro w'
      go_simp
      with_reducible rfl
     rotate_left
     ·simp only [Act.put, List.setIfInBounds_toArray, List.set_cons_zero, List.set_cons_succ, i64_w, i32_w]
      rfl
     refine pure_ (i := 2) (N := some 40) (v := ?_) (a' := ?_) #[T2952, T2952, T2952, F2952, F2952, F2952, F2952, F2952, F2952, F2952, F2952, F2952] rfl rfl (any_of HT_.out (by kernel_rfl)) (fun _ _ _ h => h) (Or.inl ⟨by rfl, ?_⟩) ?_ ?_
     rotate_left
     ·intro w'
      go_simp
      with_reducible rfl
     rotate_left
     ·simp only [Act.put, List.setIfInBounds_toArray, List.set_cons_zero, List.set_cons_succ, i64_w, i32_w]
      rfl
     refine pure_ (i := 4) (N := some 42) (v := ?_) (a' := ?_) #[T2952, T2952, T2952, F2952, T2952, F2952, F2952, F2952, F2952, F2952, F2952, F2952] rfl rfl (any_of HT_.out (by kernel_rfl)) (fun _ _ _ h => h) (Or.inl ⟨by rfl, ?_⟩) ?_ ?_
     rotate_left
     ·intro w'
      go_simp
      with_reducible rfl
     rotate_left
     ·simp only [Act.put, List.setIfInBounds_toArray, List.set_cons_zero, List.set_cons_succ, i64_w, i32_w]
      rfl
     refine pure_ (i := 5) (N := some 43) (v := ?_) (a' := ?_) #[T2952, T2952, T2952, F2952, T2952, T2952, F2952, F2952, F2952, F2952, F2952, F2952] rfl rfl (any_of HT_.out (by kernel_rfl)) (fun _ _ _ h => h) (Or.inl ⟨by rfl, ?_⟩) ?_ ?_
     rotate_left
     ·intro w'
      go_simp
      with_reducible rfl
     rotate_left
     ·simp only [Act.put, List.setIfInBounds_toArray, List.set_cons_zero, List.set_cons_succ, i64_w, i32_w]
      rfl
     refine pure_ (i := 6) (N := some 44) (v := ?_) (a' := ?_) #[T2952, T2952, T2952, F2952, T2952, T2952, T2952, F2952, F2952, F2952, F2952, F2952] rfl rfl (any_of HT_.out (by kernel_rfl)) (fun _ _ _ h => h) (Or.inl ⟨by rfl, ?_⟩) ?_ ?_
     rotate_left
     ·intro w'
      go_simp
      with_reducible rfl
     rotate_left
     ·simp only [Act.put, List.setIfInBounds_toArray, List.set_cons_zero, List.set_cons_succ, i64_w, i32_w]
      rfl
     refine pure_ (i := 7) (N := some 45) (v := ?_) (a' := ?_) #[T2952, T2952, T2952, F2952, T2952, T2952, T2952, T2952, F2952, F2952, F2952, F2952] rfl rfl (any_of HT_.out (by kernel_rfl)) (fun _ _ _ h => h) (Or.inl ⟨by rfl, ?_⟩) ?_ ?_
     rotate_left
     ·intro w'
      go_simp
      with_reducible rfl
     rotate_left
     ·simp only [Act.put, List.setIfInBounds_toArray, List.set_cons_zero, List.set_cons_succ, i64_w, i32_w]
      rfl
     refine pure_ (i := 8) (N := some 46) (v := ?_) (a' := ?_) #[T2952, T2952, T2952, F2952, T2952, T2952, T2952, T2952, T2952, F2952, F2952, F2952] rfl rfl (any_of HT_.out (by kernel_rfl)) (fun _ _ _ h => h) (Or.inl ⟨by rfl, ?_⟩) ?_ ?_
     rotate_left
     ·intro w'
      go_simp
      with_reducible rfl
     rotate_left
     ·simp only [Act.put, List.setIfInBounds_toArray, List.set_cons_zero, List.set_cons_succ, i64_w, i32_w]
      rfl
     refine take_ (i := 3) (N := some 41) (v := ?_) (a' := ?_) #[T2952, T2952, T2952, T2952, T2952, T2952, T2952, T2952, T2952, F2952, F2952, F2952] rfl rfl (take_ofW HT_.out HW_.out (by kernel_rfl)) (fun _ _ _ h => h) (Or.inl ⟨by rfl, ?_⟩) hHeld ?_ ?_
     rotate_left
     ·rintro w' ⟨s0, s1, s2, s3, s4, s5, s6, s7, s8, s9⟩
      go_simp
      with_reducible rfl
     rotate_left
     ·simp only [Act.put, List.setIfInBounds_toArray, List.set_cons_zero, List.set_cons_succ, i64_w, i32_w]
      rfl
     refine take_ (i := 9) (N := some 47) (v := ?_) (a' := ?_) #[T2952, T2952, T2952, T2952, T2952, T2952, T2952, T2952, T2952, T2952, F2952, F2952] rfl rfl (take_ofW HT_.out HW_.out (by kernel_rfl)) (fun _ _ _ h => h) (Or.inl ⟨by rfl, ?_⟩) hHeld ?_ ?_
     rotate_left
     ·rintro w' ⟨s0, s1, s2, s3, s4, s5, s6, s7, s8, s9⟩
      go_simp
      with_reducible rfl
     rotate_left
     ·simp only [Act.put, List.setIfInBounds_toArray, List.set_cons_zero, List.set_cons_succ, i64_w, i32_w]
      rfl
     refine one_ (i := 10) (N := some 48) #[T2952, T2952, T2952, T2952, T2952, T2952, T2952, T2952, T2952, T2952, T2952, F2952] rfl rfl (one_of HT_.out (by kernel_rfl)) (by decide) (fun K hK => ?_)
     refine goes_ Try.func44 (by kernel_rfl) rfl #[.agg #[.string t325, .string t326, .string t327], .agg #[.string ((rd_T41 x5_2 (ji15)).f0.f0), .string ((rd_T41 x5_2 (ji15)).f0.f1), .string ((rd_T41 x5_2 (ji15)).f0.f2)]] (by rfl) rfl rfl qgby2_8 ?_
     with_reducible refine (sleuthlaw25_less.calls t325 t326 t327 ((rd_T41 x5_2 (ji15)).f0.f0) ((rd_T41 x5_2 (ji15)).f0.f1) ((rd_T41 x5_2 (ji15)).f0.f2) true _ A18.out).mono ?_
     rintro e w21 ⟨rfl, hb⟩
     have HS3_ := (hb.cell (World.block_lt_of_cell? _ _ (hHeld.2.2.2.1))).trans (hHeld.2.2.2.1)
     have HS4_ := (hb.cell (World.block_lt_of_cell? _ _ (hHeld.2.2.2.2.1))).trans (hHeld.2.2.2.2.1)
     have HS5_ := (hb.cell (World.block_lt_of_cell? _ _ (hHeld.2.2.2.2.2.1))).trans (hHeld.2.2.2.2.2.1)
     have HS6_ := (hb.cell (World.block_lt_of_cell? _ _ (hHeld.2.2.2.2.2.2.1))).trans (hHeld.2.2.2.2.2.2.1)
     have HS7_ := (hb.cell (World.block_lt_of_cell? _ _ (hHeld.2.2.2.2.2.2.2.1))).trans (hHeld.2.2.2.2.2.2.2.1)
     have HS8_ := (hb.cell (World.block_lt_of_cell? _ _ (hHeld.2.2.2.2.2.2.2.2.1))).trans (hHeld.2.2.2.2.2.2.2.2.1)
     have HS9_ := (hb.cell (World.block_lt_of_cell? _ _ (hHeld.2.2.2.2.2.2.2.2.2))).trans (hHeld.2.2.2.2.2.2.2.2.2)
     refine ⟨_, rfl, ?_⟩
     have n0_ := Aside0.mk (Kd.R_below qgby2_0 hb)
     have n1_ := Aside0.mk (blk_below (g := gb328) (o := .cells #[.string t325, .string t326, .string t327] 39 (0, 0)) qgby2_2 hb)
     have n2_ := Aside0.mk (below_step qgby2_1 hb)
     clear HO_5
     clear BK328
     clear HB
     have HO_5 := n0_
     have BK328 := n1_
     have HB := n2_
     clear n0_ n1_ n2_
     (try clear hb)
     (try clear hb2)
     (try clear hk)
     (try clear hi)
     refine hK.out _ _ ⟨(blk_cell BK328.out 0).trans rfl, (blk_cell BK328.out 1).trans rfl, (blk_cell BK328.out 2).trans rfl, HS3_, HS4_, HS5_, HS6_, HS7_, HS8_, HS9_⟩ (fun hHeld => ?_)
     clear hK K
     refine norm_ (a' := ?_) ?_ ?_
     rotate_left
     ·show Act.put _ (some 48) _ = _
      simp only [Act.put, List.setIfInBounds_toArray, List.set_cons_zero, List.set_cons_succ, i64_w, i32_w]
      rfl
     refine pure_ (i := 11) (N := some 49) (v := ?_) (a' := ?_) #[T2952, T2952, T2952, T2952, T2952, T2952, T2952, T2952, T2952, T2952, T2952, T2952] rfl rfl (any_of HT_.out (by kernel_rfl)) (fun _ _ _ h => h) (Or.inl ⟨by rfl, ?_⟩) ?_ ?_
     rotate_left
     ·intro w'
      go_simp
      with_reducible rfl
     rotate_left
     ·simp only [Act.put, List.setIfInBounds_toArray, List.set_cons_zero, List.set_cons_succ, i64_w, i32_w]
      rfl
     refine done_ (done_of HT_.out (by kernel_rfl)) ?_
     try go_wp2
     go_roundg k3
     case measure => have := HK1.out; have := HK2.out; have := HK3.out; omega
     case rel => exact ⟨(ji15), (by first | rfl | (simp; done) | (simp only [← hji15] <;> (first | rfl | simp)) | (simp [*]; done)), H', ⟨by have := HK1.out; have := HK2.out; have := HK3.out; omega⟩, ⟨qgby2_0⟩, ⟨qgby2_2⟩, ⟨qgby2_1⟩⟩
   clear HC9
   try clear c1
   try clear c2
   try clear p2
   try clear c3
   try clear c3b0
   try clear p3
   try clear q3
   try clear hx3
   try clear c4
   try clear c4b0
   try clear c5
   try clear c5b0
   try clear c6
   try clear c6b0
   try clear p6
   try clear c7
   try clear c7b0
   try clear c14
   try clear c14b0
   try clear c16
   try clear c16b0
   try clear c17
   try clear c17b0
   try clear c19
   try clear c21
   try clear hcz12_0
   try clear hcz12_1
   try clear hcz12_2
   try clear hfz12_0
   try clear hfz12_1
   try clear hfz12_2
   try clear hx322_0
   try clear hx322_1
   try clear hx322_2
   try clear hx323_0
   try clear hx323_1
   try clear hx323_2
   try clear hx324_0
   try clear hx324_1
   try clear hx324_10
   try clear hx324_11
   try clear hx324_12
   try clear hx324_13
   try clear hx324_2
   try clear hx324_3
   try clear hx324_4
   try clear hx324_5
   try clear hx324_6
   try clear hx324_7
   try clear hx324_8
   try clear hx324_9
   try clear hx329_0
   try clear hx329_1
   try clear hx329_2
   try clear hx329_3
   try clear hx329_4
   try clear hx329_5
   try clear hx329_6
   try clear p2
   try clear p3
   try clear p322
   try clear p323
   try clear p324
   try clear p329
   try clear q3
   try clear q322
   try clear q323
   try clear q324
   try clear q329
   obtain ⟨kq, x9_8, rfl, HA, HJ8, HO_5, BK328, HB⟩ := hcut
   cases kq with
   | zero => exact absurd HA.out (by simp [sleuthlaw25_by.j3])
   | succ kj8 =>
    have H := HA.out
    clear HA
    simp only [sleuthlaw25_by.j3] at H
    have HC25 := Aside0.mk H
    clear H
    go_upto_region 12 with (fail)
    go_cut [63] (fun v63 wc => ∃ (kq : Nat) (x63_24 : Bool), v63 = .bool x63_24 ∧ Aside0 (sleuthlaw25_by.j4 kq l0 a1 x5_2 x6_1 x7_2 x9_8 x63_24 t325 t326 t327 = some r) ∧ Aside0 (kq ≤ kj8) ∧ Aside0 (Kd.R k41 41 wc w.heap.size (fun _ => True) (.slice Ao13 x5_2.length co13) x5_2) ∧ Aside0 (wc.heap[gb328]? = some (.cells #[.string t325, .string t326, .string t327] 39 (0, 0))) ∧ Aside0 (Below w.heap.size w wc))
    case first =>
     have H := HC25.out
     clear HC25
     by_cases c26 : x9_8 > 0
     rotate_left
     ·rw [if_neg c26] at H
      have c26b0 : decide (0 < x9_8) = false := decide_eq_false c26
      clear c26
      (first | rw [c26b0] | (simp only [i64_w, i32_w]; rw [c26b0]) | skip)
      have H' := Aside0.mk H
      clear H
      try go_wp2
      have n0_ := Aside0.mk (Kd.R_drew HO_5.out)
      have n1_ := Aside0.mk (blk_drew BK328.out)
      have n2_ := Aside0.mk (below_drew1 HB.out)
      clear HO_5
      clear BK328
      clear HB
      have HO_5 := n0_
      have BK328 := n1_
      have HB := n2_
      clear n0_ n1_ n2_
      refine start_ (n := 12) (S := fun w' => True) (ds := []) #[F2952, F2952, F2952, F2952, F2952, F2952, F2952, F2952, F2952, F2952, F2952, F2952] (by kernel_rfl) rfl rfl trivial (fun hHeld => ?_); refine with_tabW sleuthlaw25_by.tab12 sleuthlaw25_by.bits12 (fun HT_ HW_ => ?_)
      generalize wc.drew = w31 at HO_5 BK328 HB hHeld ⊢
      refine pure_ (i := 0) (N := some 52) (v := ?_) (a' := ?_) #[T2952, F2952, F2952, F2952, F2952, F2952, F2952, F2952, F2952, F2952, F2952, F2952] rfl rfl (any_of HT_.out (by kernel_rfl)) (fun _ _ _ h => h) (Or.inl ⟨by rfl, ?_⟩) ?_ ?_
      rotate_left
      ·intro w'
       go_simp
       with_reducible rfl
      rotate_left
      ·simp only [Act.put, List.setIfInBounds_toArray, List.set_cons_zero, List.set_cons_succ, i64_w, i32_w]
       rfl
      refine pure_ (i := 1) (N := some 53) (v := ?_) (a' := ?_) #[T2952, T2952, F2952, F2952, F2952, F2952, F2952, F2952, F2952, F2952, F2952, F2952] rfl rfl (any_of HT_.out (by kernel_rfl)) (fun _ _ _ h => h) (Or.inl ⟨by rfl, ?_⟩) ?_ ?_
      rotate_left
      ·intro w'
       go_simp
       with_reducible rfl
      rotate_left
      ·simp only [Act.put, List.setIfInBounds_toArray, List.set_cons_zero, List.set_cons_succ, i64_w, i32_w]
       rfl
      refine pure_ (i := 2) (N := some 54) (v := ?_) (a' := ?_) #[T2952, T2952, T2952, F2952, F2952, F2952, F2952, F2952, F2952, F2952, F2952, F2952] rfl rfl (any_of HT_.out (by kernel_rfl)) (fun _ _ _ h => h) (Or.inl ⟨by rfl, ?_⟩) ?_ ?_
      rotate_left
      ·intro w'
       go_simp
       with_reducible rfl
      rotate_left
      ·simp only [Act.put, List.setIfInBounds_toArray, List.set_cons_zero, List.set_cons_succ, i64_w, i32_w]
       rfl
      refine pure_ (i := 3) (N := some 55) (v := undef) (a' := ?_) #[T2952, T2952, T2952, T2952, F2952, F2952, F2952, F2952, F2952, F2952, F2952, F2952] rfl rfl (any_of HT_.out (by kernel_rfl)) (fun _ _ _ h => h) (Or.inr ⟨by rfl, rfl⟩) ?_ ?_
      rotate_left
      ·simp only [Act.put, List.setIfInBounds_toArray, List.set_cons_zero, List.set_cons_succ, i64_w, i32_w]
       rfl
      refine pure_ (i := 4) (N := some 56) (v := undef) (a' := ?_) #[T2952, T2952, T2952, T2952, T2952, F2952, F2952, F2952, F2952, F2952, F2952, F2952] rfl rfl (any_of HT_.out (by kernel_rfl)) (fun _ _ _ h => h) (Or.inr ⟨by rfl, rfl⟩) ?_ ?_
      rotate_left
      ·simp only [Act.put, List.setIfInBounds_toArray, List.set_cons_zero, List.set_cons_succ, i64_w, i32_w]
       rfl
      refine pure_ (i := 5) (N := some 57) (v := undef) (a' := ?_) #[T2952, T2952, T2952, T2952, T2952, T2952, F2952, F2952, F2952, F2952, F2952, F2952] rfl rfl (any_of HT_.out (by kernel_rfl)) (fun _ _ _ h => h) (Or.inr ⟨by rfl, rfl⟩) ?_ ?_
      rotate_left
      ·simp only [Act.put, List.setIfInBounds_toArray, List.set_cons_zero, List.set_cons_succ, i64_w, i32_w]
       rfl
      refine pure_ (i := 6) (N := some 58) (v := undef) (a' := ?_) #[T2952, T2952, T2952, T2952, T2952, T2952, T2952, F2952, F2952, F2952, F2952, F2952] rfl rfl (any_of HT_.out (by kernel_rfl)) (fun _ _ _ h => h) (Or.inr ⟨by rfl, rfl⟩) ?_ ?_
      rotate_left
      ·simp only [Act.put, List.setIfInBounds_toArray, List.set_cons_zero, List.set_cons_succ, i64_w, i32_w]
       rfl
      refine pure_ (i := 7) (N := some 59) (v := undef) (a' := ?_) #[T2952, T2952, T2952, T2952, T2952, T2952, T2952, T2952, F2952, F2952, F2952, F2952] rfl rfl (any_of HT_.out (by kernel_rfl)) (fun _ _ _ h => h) (Or.inr ⟨by rfl, rfl⟩) ?_ ?_
      rotate_left
      ·simp only [Act.put, List.setIfInBounds_toArray, List.set_cons_zero, List.set_cons_succ, i64_w, i32_w]
       rfl
      refine pure_ (i := 8) (N := some 60) (v := undef) (a' := ?_) #[T2952, T2952, T2952, T2952, T2952, T2952, T2952, T2952, T2952, F2952, F2952, F2952] rfl rfl (any_of HT_.out (by kernel_rfl)) (fun _ _ _ h => h) (Or.inr ⟨by rfl, rfl⟩) ?_ ?_
      rotate_left
      ·simp only [Act.put, List.setIfInBounds_toArray, List.set_cons_zero, List.set_cons_succ, i64_w, i32_w]
       rfl
      refine pure_ (i := 9) (N := some 61) (v := undef) (a' := ?_) #[T2952, T2952, T2952, T2952, T2952, T2952, T2952, T2952, T2952, T2952, F2952, F2952] rfl rfl (any_of HT_.out (by kernel_rfl)) (fun _ _ _ h => h) (Or.inr ⟨by rfl, rfl⟩) ?_ ?_
      rotate_left
      ·simp only [Act.put, List.setIfInBounds_toArray, List.set_cons_zero, List.set_cons_succ, i64_w, i32_w]
       rfl
      refine pure_ (i := 10) (N := some 62) (v := undef) (a' := ?_) #[T2952, T2952, T2952, T2952, T2952, T2952, T2952, T2952, T2952, T2952, T2952, F2952] rfl rfl (any_of HT_.out (by kernel_rfl)) (fun _ _ _ h => h) (Or.inr ⟨by rfl, rfl⟩) ?_ ?_
      rotate_left
      ·simp only [Act.put, List.setIfInBounds_toArray, List.set_cons_zero, List.set_cons_succ, i64_w, i32_w]
       rfl
      refine pure_ (i := 11) (N := some 63) (v := ?_) (a' := ?_) #[T2952, T2952, T2952, T2952, T2952, T2952, T2952, T2952, T2952, T2952, T2952, T2952] rfl rfl (any_of HT_.out (by kernel_rfl)) (fun _ _ _ h => h) (Or.inl ⟨by rfl, ?_⟩) ?_ ?_
      rotate_left
      ·intro w'
       go_simp
       with_reducible rfl
      rotate_left
      ·simp only [Act.put, List.setIfInBounds_toArray, List.set_cons_zero, List.set_cons_succ, i64_w, i32_w]
       rfl
      refine done_ (done_of HT_.out (by kernel_rfl)) ?_
      try go_wp2
      go_meet
      case rel => exact ⟨_, (false), qgby2_7, H', ⟨by have := HK1.out; have := HK2.out; have := HJ8.out; first | omega | exact Nat.le_refl _⟩, ⟨qgby2_0⟩, ⟨qgby2_2⟩, ⟨qgby2_1⟩⟩
     rw [if_pos c26] at H
     have c26b0 : decide (0 < x9_8) = true := decide_eq_true c26
     clear c26
     (first | rw [c26b0] | (simp only [i64_w, i32_w]; rw [c26b0]) | skip)
     obtain ⟨ji27, hji27⟩ : ∃ j_ : Int, (wrap64 (x9_8 - 1)) = j_ := ⟨_, rfl⟩
     replace H : (if 0 ≤ (ji27) then (if (ji27) < (x5_2.length : Int) then (sleuthlaw25_by.j4 kj8 l0 a1 x5_2 x6_1 x7_2 x9_8 ((((rd_T41 x5_2 (ji27)).f0.f0).toList) == t325.toList && ((((rd_T41 x5_2 (ji27)).f0.f1).toList) == t326.toList && ((((rd_T41 x5_2 (ji27)).f0.f2).toList) == t327.toList))) t325 t326 t327) else (none)) else (none)) = some r := by first | (rw [hji27] at H; exact H) | (simp only [hji27] at H ⊢; exact H)
     have hji27w : (IntKind.i64.wrap (x9_8 - 1)) = ji27 := (i64_w _).trans hji27
     by_cases c28 : 0 ≤ (ji27)
     rotate_left
     ·rw [if_neg c28] at H
      exact absurd H (by simp)
     rw [if_pos c28] at H
     have c28b0 : decide (0 ≤ (ji27)) = true := decide_eq_true c28
     clear c28
     by_cases c29 : (ji27) < (x5_2.length : Int)
     rotate_left
     ·rw [if_neg c29] at H
      exact absurd H (by simp)
     rw [if_pos c29] at H
     have c29b0 : decide ((ji27) < (x5_2.length : Int)) = true := decide_eq_true c29
     clear c29
     have H' := Aside0.mk H
     clear H
     try go_wp2
     have n0_ := Aside0.mk (Kd.R_drew HO_5.out)
     have n1_ := Aside0.mk (blk_drew BK328.out)
     have n2_ := Aside0.mk (below_drew1 HB.out)
     clear HO_5
     clear BK328
     clear HB
     have HO_5 := n0_
     have BK328 := n1_
     have HB := n2_
     clear n0_ n1_ n2_
     have p331 : 0 ≤ ((ji27) : Int) := of_decide_eq_true qgby2_4
     have q331 : (ji27) < (x5_2.length : Int) := of_decide_eq_true qgby2_4
     obtain ⟨ad331, e331, hx331_0, hx331_1, hx331_2, hx331_3, hx331_4, hx331_5, hx331_6⟩ := at_T41 (Kd.R_reads' HO_5.out).2.2 (ji27) p331 q331
     cases e331
     replace p331 := eq_true p331
     replace q331 := eq_true q331
     refine start_ (n := 12) (S := fun w' => w'.cell? ⟨gb328, 0, none⟩ = some (.string t325) ∧ w'.cell? ⟨gb328, 1, none⟩ = some (.string t326) ∧ w'.cell? ⟨gb328, 2, none⟩ = some (.string t327) ∧ w'.cell? (ad331.add (((ji27)).toNat * 7)) = some (.string ((rd_T41 x5_2 (ji27)).f0.f0)) ∧ w'.cell? ⟨(ad331.add (((ji27)).toNat * 7)).block, (ad331.add (((ji27)).toNat * 7)).off + 1, none⟩ = some (.string ((rd_T41 x5_2 (ji27)).f0.f1)) ∧ w'.cell? ⟨(ad331.add (((ji27)).toNat * 7)).block, (ad331.add (((ji27)).toNat * 7)).off + 2, none⟩ = some (.string ((rd_T41 x5_2 (ji27)).f0.f2)) ∧ w'.cell? ⟨(ad331.add (((ji27)).toNat * 7)).block, (ad331.add (((ji27)).toNat * 7)).off + 3, none⟩ = some (.int .i64 ((rd_T41 x5_2 (ji27)).f1.f0)) ∧ w'.cell? ⟨(ad331.add (((ji27)).toNat * 7)).block, (ad331.add (((ji27)).toNat * 7)).off + 4, none⟩ = some (.int .i64 ((rd_T41 x5_2 (ji27)).f1.f1)) ∧ w'.cell? ⟨(ad331.add (((ji27)).toNat * 7)).block, (ad331.add (((ji27)).toNat * 7)).off + 5, none⟩ = some (.int .i64 ((rd_T41 x5_2 (ji27)).f1.f2)) ∧ w'.cell? ⟨(ad331.add (((ji27)).toNat * 7)).block, (ad331.add (((ji27)).toNat * 7)).off + 6, none⟩ = some (.int .i64 ((rd_T41 x5_2 (ji27)).f1.f3))) (ds := []) #[F2952, F2952, F2952, F2952, F2952, F2952, F2952, F2952, F2952, F2952, F2952, F2952] (by kernel_rfl) rfl rfl ⟨(blk_cell BK328.out 0).trans rfl, (blk_cell BK328.out 1).trans rfl, (blk_cell BK328.out 2).trans rfl, hx331_0, hx331_1, hx331_2, hx331_3, hx331_4, hx331_5, hx331_6⟩ (fun hHeld => ?_); refine with_tabW sleuthlaw25_by.tab12 sleuthlaw25_by.bits12 (fun HT_ HW_ => ?_)
     generalize wc.drew = w30 at HO_5 BK328 HB hx331_0 hx331_1 hx331_2 hx331_3 hx331_4 hx331_5 hx331_6 hHeld ⊢
     refine pure_ (i := 0) (N := some 52) (v := ?_) (a' := ?_) #[T2952, F2952, F2952, F2952, F2952, F2952, F2952, F2952, F2952, F2952, F2952, F2952] rfl rfl (any_of HT_.out (by kernel_rfl)) (fun _ _ _ h => h) (Or.inl ⟨by rfl, ?_⟩) ?_ ?_
     rotate_left
     ·intro w'
      go_simp
      with_reducible rfl
     rotate_left
     ·simp only [Act.put, List.setIfInBounds_toArray, List.set_cons_zero, List.set_cons_succ, i64_w, i32_w]
      rfl
     refine pure_ (i := 1) (N := some 53) (v := ?_) (a' := ?_) #[T2952, T2952, F2952, F2952, F2952, F2952, F2952, F2952, F2952, F2952, F2952, F2952] rfl rfl (any_of HT_.out (by kernel_rfl)) (fun _ _ _ h => h) (Or.inl ⟨by rfl, ?_⟩) ?_ ?_
     rotate_left
     ·intro w'
      go_simp
      with_reducible rfl
     rotate_left
     ·simp only [Act.put, List.setIfInBounds_toArray, List.set_cons_zero, List.set_cons_succ, i64_w, i32_w]
      rfl
     refine pure_ (i := 2) (N := some 54) (v := ?_) (a' := ?_) #[T2952, T2952, T2952, F2952, F2952, F2952, F2952, F2952, F2952, F2952, F2952, F2952] rfl rfl (any_of HT_.out (by kernel_rfl)) (fun _ _ _ h => h) (Or.inl ⟨by rfl, ?_⟩) ?_ ?_
     rotate_left
     ·intro w'
      go_simp
      with_reducible rfl
     rotate_left
     ·simp only [Act.put, List.setIfInBounds_toArray, List.set_cons_zero, List.set_cons_succ, i64_w, i32_w]
      rfl
     refine pure_ (i := 3) (N := some 55) (v := ?_) (a' := ?_) #[T2952, T2952, T2952, T2952, F2952, F2952, F2952, F2952, F2952, F2952, F2952, F2952] rfl rfl (any_of HT_.out (by kernel_rfl)) (fun _ _ _ h => h) (Or.inl ⟨by rfl, ?_⟩) ?_ ?_
     rotate_left
     ·intro w'
      go_simp
      with_reducible rfl
     rotate_left
     ·simp only [Act.put, List.setIfInBounds_toArray, List.set_cons_zero, List.set_cons_succ, i64_w, i32_w]
      rfl
     refine pure_ (i := 4) (N := some 56) (v := ?_) (a' := ?_) #[T2952, T2952, T2952, T2952, T2952, F2952, F2952, F2952, F2952, F2952, F2952, F2952] rfl rfl (any_of HT_.out (by kernel_rfl)) (fun _ _ _ h => h) (Or.inl ⟨by rfl, ?_⟩) ?_ ?_
     rotate_left
     ·intro w'
      go_simp
      with_reducible rfl
     rotate_left
     ·simp only [Act.put, List.setIfInBounds_toArray, List.set_cons_zero, List.set_cons_succ, i64_w, i32_w]
      rfl
     refine pure_ (i := 5) (N := some 57) (v := ?_) (a' := ?_) #[T2952, T2952, T2952, T2952, T2952, T2952, F2952, F2952, F2952, F2952, F2952, F2952] rfl rfl (any_of HT_.out (by kernel_rfl)) (fun _ _ _ h => h) (Or.inl ⟨by rfl, ?_⟩) ?_ ?_
     rotate_left
     ·intro w'
      go_simp
      with_reducible rfl
     rotate_left
     ·simp only [Act.put, List.setIfInBounds_toArray, List.set_cons_zero, List.set_cons_succ, i64_w, i32_w]
      rfl
     refine pure_ (i := 6) (N := some 58) (v := ?_) (a' := ?_) #[T2952, T2952, T2952, T2952, T2952, T2952, T2952, F2952, F2952, F2952, F2952, F2952] rfl rfl (any_of HT_.out (by kernel_rfl)) (fun _ _ _ h => h) (Or.inl ⟨by rfl, ?_⟩) ?_ ?_
     rotate_left
     ·intro w'
      go_simp
      with_reducible rfl
     rotate_left
     ·simp only [Act.put, List.setIfInBounds_toArray, List.set_cons_zero, List.set_cons_succ, i64_w, i32_w]
      rfl
     refine pure_ (i := 7) (N := some 59) (v := ?_) (a' := ?_) #[T2952, T2952, T2952, T2952, T2952, T2952, T2952, T2952, F2952, F2952, F2952, F2952] rfl rfl (any_of HT_.out (by kernel_rfl)) (fun _ _ _ h => h) (Or.inl ⟨by rfl, ?_⟩) ?_ ?_
     rotate_left
     ·intro w'
      go_simp
      with_reducible rfl
     rotate_left
     ·simp only [Act.put, List.setIfInBounds_toArray, List.set_cons_zero, List.set_cons_succ, i64_w, i32_w]
      rfl
     refine take_ (i := 8) (N := some 60) (v := ?_) (a' := ?_) #[T2952, T2952, T2952, T2952, T2952, T2952, T2952, T2952, T2952, F2952, F2952, F2952] rfl rfl (take_ofW HT_.out HW_.out (by kernel_rfl)) (fun _ _ _ h => h) (Or.inl ⟨by rfl, ?_⟩) hHeld ?_ ?_
     rotate_left
     ·rintro w' ⟨s0, s1, s2, s3, s4, s5, s6, s7, s8, s9⟩
      go_simp
      with_reducible rfl
     rotate_left
     ·simp only [Act.put, List.setIfInBounds_toArray, List.set_cons_zero, List.set_cons_succ, i64_w, i32_w]
      rfl
     refine take_ (i := 9) (N := some 61) (v := ?_) (a' := ?_) #[T2952, T2952, T2952, T2952, T2952, T2952, T2952, T2952, T2952, T2952, F2952, F2952] rfl rfl (take_ofW HT_.out HW_.out (by kernel_rfl)) (fun _ _ _ h => h) (Or.inl ⟨by rfl, ?_⟩) hHeld ?_ ?_
     rotate_left
     ·rintro w' ⟨s0, s1, s2, s3, s4, s5, s6, s7, s8, s9⟩
      go_simp
      with_reducible rfl
     rotate_left
     ·simp only [Act.put, List.setIfInBounds_toArray, List.set_cons_zero, List.set_cons_succ, i64_w, i32_w]
      rfl
     refine pure_ (i := 10) (N := some 62) (v := ?_) (a' := ?_) #[T2952, T2952, T2952, T2952, T2952, T2952, T2952, T2952, T2952, T2952, T2952, F2952] rfl rfl (any_of HT_.out (by kernel_rfl)) (fun _ _ _ h => h) (Or.inl ⟨by rfl, ?_⟩) ?_ ?_
     rotate_left
     ·intro w'
      go_simp
      with_reducible rfl
     rotate_left
     ·simp only [Act.put, List.setIfInBounds_toArray, List.set_cons_zero, List.set_cons_succ, i64_w, i32_w]
      rfl
     refine pure_ (i := 11) (N := some 63) (v := ?_) (a' := ?_) #[T2952, T2952, T2952, T2952, T2952, T2952, T2952, T2952, T2952, T2952, T2952, T2952] rfl rfl (any_of HT_.out (by kernel_rfl)) (fun _ _ _ h => h) (Or.inl ⟨by rfl, ?_⟩) ?_ ?_
     rotate_left
     ·intro w'
      go_simp
      with_reducible rfl
     rotate_left
     ·simp only [Act.put, List.setIfInBounds_toArray, List.set_cons_zero, List.set_cons_succ, i64_w, i32_w]
      rfl
     refine done_ (done_of HT_.out (by kernel_rfl)) ?_
     try go_wp2
     go_meet
     case rel => exact ⟨_, (((((rd_T41 x5_2 (ji27)).f0.f0).toList) == t325.toList && ((((rd_T41 x5_2 (ji27)).f0.f1).toList) == t326.toList && ((((rd_T41 x5_2 (ji27)).f0.f2).toList) == t327.toList)))), (by first | rfl | (simp; done) | (simp only [← hji27] <;> (first | rfl | simp)) | (simp [*]; done)), H', ⟨by have := HK1.out; have := HK2.out; have := HJ8.out; first | omega | exact Nat.le_refl _⟩, ⟨qgby2_0⟩, ⟨qgby2_2⟩, ⟨qgby2_1⟩⟩
    clear HC25
    try clear c1
    try clear c2
    try clear p2
    try clear c3
    try clear c3b0
    try clear p3
    try clear q3
    try clear hx3
    try clear c4
    try clear c4b0
    try clear c5
    try clear c5b0
    try clear c6
    try clear c6b0
    try clear p6
    try clear c7
    try clear c7b0
    try clear c14
    try clear c14b0
    try clear c16
    try clear c16b0
    try clear c17
    try clear c17b0
    try clear c19
    try clear c21
    try clear c26
    try clear c26b0
    try clear c28
    try clear c28b0
    try clear c29
    try clear c29b0
    try clear hcz12_0
    try clear hcz12_1
    try clear hcz12_2
    try clear hfz12_0
    try clear hfz12_1
    try clear hfz12_2
    try clear hx322_0
    try clear hx322_1
    try clear hx322_2
    try clear hx323_0
    try clear hx323_1
    try clear hx323_2
    try clear hx324_0
    try clear hx324_1
    try clear hx324_10
    try clear hx324_11
    try clear hx324_12
    try clear hx324_13
    try clear hx324_2
    try clear hx324_3
    try clear hx324_4
    try clear hx324_5
    try clear hx324_6
    try clear hx324_7
    try clear hx324_8
    try clear hx324_9
    try clear hx329_0
    try clear hx329_1
    try clear hx329_2
    try clear hx329_3
    try clear hx329_4
    try clear hx329_5
    try clear hx329_6
    try clear hx331_0
    try clear hx331_1
    try clear hx331_2
    try clear hx331_3
    try clear hx331_4
    try clear hx331_5
    try clear hx331_6
    try clear p2
    try clear p3
    try clear p322
    try clear p323
    try clear p324
    try clear p329
    try clear p331
    try clear p6
    try clear q3
    try clear q322
    try clear q323
    try clear q324
    try clear q329
    try clear q331
    obtain ⟨kq, x63_24, rfl, HA, HJ24, HO_5, BK328, HB⟩ := hcut
    cases kq with
    | zero => exact absurd HA.out (by simp [sleuthlaw25_by.j4])
    | succ kj24 =>
     have H := HA.out
     clear HA
     simp only [sleuthlaw25_by.j4] at H
     by_cases c32 : x63_24 = true
     ·subst c32
      have H1 : (sleuthlaw25_by.l1 kj24 l0 a1 x5_2 x6_1 (wrap64 (x7_2 + 1))) = some r := by rw [if_pos rfl] at H; exact H
      clear H
      have H := H1
      clear H1
      have H' := Aside0.mk H
      clear H
      go_wp2
      go_roundg kj24
      case measure => have := HK1.out; have := HK2.out; have := HJ8.out; have := HJ24.out; omega
      case rel => exact ⟨(x5_2), (wrap64 (x7_2 + 1)), qgby2_7, H', ⟨by have := HK1.out; have := HK2.out; have := HJ8.out; have := HJ24.out; omega⟩, ⟨qgby2_0⟩, ⟨qgby2_1⟩⟩
     replace c32 := Bool.eq_false_iff.mpr c32
     subst c32
     have H1 : ((some (([] : List (S41)) : List (S41))).bind fun y332 => (if 0 ≤ x9_8 then (if x9_8 ≤ (x5_2.length : Int) then ((some (x5_2.take (x9_8 : Int).toNat : List (S41))).bind fun y335 => (if y332.length + y335.length < 1759218604441 then ((some (y332 ++ y335 : List (S41))).bind fun y339 => ((sleuthlaw25_total.f l0 t325 t326 t327 a1).bind fun bt342 => (if y339.length < 1759218604441 then ((some (y339 ++ [(⟨(⟨t325, t326, t327⟩ : S39), (⟨bt342.1, bt342.2.1, bt342.2.2.1, bt342.2.2.2⟩ : S37)⟩ : S41)] : List (S41))).bind fun y346 => ((some (x5_2.drop (x9_8 : Int).toNat : List (S41))).bind fun y349 => (if y346.length + y349.length < 1759218604441 then (sleuthlaw25_by.l1 kj24 l0 a1 (y346 ++ y349) x6_1 (wrap64 (x7_2 + 1))) else (none)))) else (none)))) else (none))) else (none)) else (none))) = some r := by rw [if_neg (show ¬ (false = true) by decide)] at H; exact H
     clear H
     have H := H1
     clear H1
     obtain ⟨y332, hy332⟩ : ∃ y_ : List (S41), y_ = (([] : List (S41))) := ⟨_, rfl⟩
     replace H : (if 0 ≤ x9_8 then (if x9_8 ≤ (x5_2.length : Int) then ((some (x5_2.take (x9_8 : Int).toNat : List (S41))).bind fun y335 => (if y332.length + y335.length < 1759218604441 then ((some (y332 ++ y335 : List (S41))).bind fun y339 => ((sleuthlaw25_total.f l0 t325 t326 t327 a1).bind fun bt342 => (if y339.length < 1759218604441 then ((some (y339 ++ [(⟨(⟨t325, t326, t327⟩ : S39), (⟨bt342.1, bt342.2.1, bt342.2.2.1, bt342.2.2.2⟩ : S37)⟩ : S41)] : List (S41))).bind fun y346 => ((some (x5_2.drop (x9_8 : Int).toNat : List (S41))).bind fun y349 => (if y346.length + y349.length < 1759218604441 then (sleuthlaw25_by.l1 kj24 l0 a1 (y346 ++ y349) x6_1 (wrap64 (x7_2 + 1))) else (none)))) else (none)))) else (none))) else (none)) else (none)) = some r := by first | (rw [hy332]; with_reducible exact H) | (have H2_ := (Option.bind_some _ _).symm.trans H; rw [hy332]; with_reducible exact H2_) | (have H2_ := (Option.bind_some _ _).symm.trans H; with_reducible exact H2_) | with_reducible exact H | (rw [hy332]; exact H) | exact H
     have Ny332 := Aside0.mk hy332
     clear hy332
     by_cases c33 : 0 ≤ x9_8
     rotate_left
     ·rw [if_neg c33] at H
      exact absurd H (by simp)
     rw [if_pos c33] at H
     have c33b0 := eq_true c33
     have c33b1 : decide (0 ≤ x9_8) = true := decide_eq_true c33
     clear c33
     by_cases c34 : x9_8 ≤ (x5_2.length : Int)
     rotate_left
     ·rw [if_neg c34] at H
      exact absurd H (by simp)
     rw [if_pos c34] at H
     have c34b0 := eq_true c34
     have c34b1 : decide (x9_8 ≤ (x5_2.length : Int)) = true := decide_eq_true c34
     clear c34
     obtain ⟨y335, hy335⟩ : ∃ y_ : List (S41), y_ = (x5_2.take (x9_8 : Int).toNat) := ⟨_, rfl⟩
     replace H : (if y332.length + y335.length < 1759218604441 then ((some (y332 ++ y335 : List (S41))).bind fun y339 => ((sleuthlaw25_total.f l0 t325 t326 t327 a1).bind fun bt342 => (if y339.length < 1759218604441 then ((some (y339 ++ [(⟨(⟨t325, t326, t327⟩ : S39), (⟨bt342.1, bt342.2.1, bt342.2.2.1, bt342.2.2.2⟩ : S37)⟩ : S41)] : List (S41))).bind fun y346 => ((some (x5_2.drop (x9_8 : Int).toNat : List (S41))).bind fun y349 => (if y346.length + y349.length < 1759218604441 then (sleuthlaw25_by.l1 kj24 l0 a1 (y346 ++ y349) x6_1 (wrap64 (x7_2 + 1))) else (none)))) else (none)))) else (none)) = some r := by first | (rw [hy335]; with_reducible exact H) | (have H2_ := (Option.bind_some _ _).symm.trans H; rw [hy335]; with_reducible exact H2_) | (have H2_ := (Option.bind_some _ _).symm.trans H; with_reducible exact H2_) | with_reducible exact H | (rw [hy335]; exact H) | exact H
     have Ny335 := Aside0.mk hy335
     clear hy335
     by_cases c35 : y332.length + y335.length < 1759218604441
     rotate_left
     ·rw [if_neg c35] at H
      exact absurd H (by simp)
     rw [if_pos c35] at H
     have LMc35 := Aside0.mk c35
     clear c35
     obtain ⟨y339, hy339⟩ : ∃ y_ : List (S41), y_ = (y332 ++ y335) := ⟨_, rfl⟩
     replace H : ((sleuthlaw25_total.f l0 t325 t326 t327 a1).bind fun bt342 => (if y339.length < 1759218604441 then ((some (y339 ++ [(⟨(⟨t325, t326, t327⟩ : S39), (⟨bt342.1, bt342.2.1, bt342.2.2.1, bt342.2.2.2⟩ : S37)⟩ : S41)] : List (S41))).bind fun y346 => ((some (x5_2.drop (x9_8 : Int).toNat : List (S41))).bind fun y349 => (if y346.length + y349.length < 1759218604441 then (sleuthlaw25_by.l1 kj24 l0 a1 (y346 ++ y349) x6_1 (wrap64 (x7_2 + 1))) else (none)))) else (none))) = some r := by first | (rw [hy339]; with_reducible exact H) | (have H2_ := (Option.bind_some _ _).symm.trans H; rw [hy339]; with_reducible exact H2_) | (have H2_ := (Option.bind_some _ _).symm.trans H; with_reducible exact H2_) | with_reducible exact H | (rw [hy339]; exact H) | exact H
     have Ny339 := Aside0.mk hy339
     clear hy339
     replace H := Option.bind_eq_some_iff.mp H
     obtain ⟨⟨t342, t343, t344, t345⟩, A360, H⟩ := H
     replace H : (if y339.length < 1759218604441 then ((some (y339 ++ [(⟨(⟨t325, t326, t327⟩ : S39), (⟨t342, t343, t344, t345⟩ : S37)⟩ : S41)] : List (S41))).bind fun y346 => ((some (x5_2.drop (x9_8 : Int).toNat : List (S41))).bind fun y349 => (if y346.length + y349.length < 1759218604441 then (sleuthlaw25_by.l1 kj24 l0 a1 (y346 ++ y349) x6_1 (wrap64 (x7_2 + 1))) else (none)))) else (none)) = some r := H
     have A36 := Aside0.mk A360
     clear A360
     by_cases c37 : y339.length < 1759218604441
     rotate_left
     ·rw [if_neg c37] at H
      exact absurd H (by simp)
     rw [if_pos c37] at H
     have LMc37 := Aside0.mk c37
     clear c37
     obtain ⟨y346, hy346⟩ : ∃ y_ : List (S41), y_ = (y339 ++ [(⟨(⟨t325, t326, t327⟩ : S39), (⟨t342, t343, t344, t345⟩ : S37)⟩ : S41)]) := ⟨_, rfl⟩
     replace H : ((some (x5_2.drop (x9_8 : Int).toNat : List (S41))).bind fun y349 => (if y346.length + y349.length < 1759218604441 then (sleuthlaw25_by.l1 kj24 l0 a1 (y346 ++ y349) x6_1 (wrap64 (x7_2 + 1))) else (none))) = some r := by first | (rw [hy346]; with_reducible exact H) | (have H2_ := (Option.bind_some _ _).symm.trans H; rw [hy346]; with_reducible exact H2_) | (have H2_ := (Option.bind_some _ _).symm.trans H; with_reducible exact H2_) | with_reducible exact H | (rw [hy346]; exact H) | exact H
     have Ny346 := Aside0.mk hy346
     clear hy346
     have c38b0 := eq_true (of_decide_eq_true qgby2_4 : 0 ≤ x9_8)
     have c39b0 := eq_true (of_decide_eq_true qgby2_4 : x9_8 ≤ (x5_2.length : Int))
     obtain ⟨y349, hy349⟩ : ∃ y_ : List (S41), y_ = (x5_2.drop (x9_8 : Int).toNat) := ⟨_, rfl⟩
     replace H : (if y346.length + y349.length < 1759218604441 then (sleuthlaw25_by.l1 kj24 l0 a1 (y346 ++ y349) x6_1 (wrap64 (x7_2 + 1))) else (none)) = some r := by first | (rw [hy349]; with_reducible exact H) | (have H2_ := (Option.bind_some _ _).symm.trans H; rw [hy349]; with_reducible exact H2_) | (have H2_ := (Option.bind_some _ _).symm.trans H; with_reducible exact H2_) | with_reducible exact H | (rw [hy349]; exact H) | exact H
     have Ny349 := Aside0.mk hy349
     clear hy349
     by_cases c40 : y346.length + y349.length < 1759218604441
     rotate_left
     ·rw [if_neg c40] at H
      exact absurd H (by simp)
     rw [if_pos c40] at H
     have LMc40 := Aside0.mk c40
     clear c40
     obtain ⟨y353, hy353⟩ : ∃ y_ : List (S41), y_ = (y346 ++ y349) := ⟨_, rfl⟩
     replace H : (sleuthlaw25_by.l1 kj24 l0 a1 y353 x6_1 (wrap64 (x7_2 + 1))) = some r := by first | (rw [hy353]; with_reducible exact H) | (have H2_ := (Option.bind_some _ _).symm.trans H; rw [hy353]; with_reducible exact H2_) | (have H2_ := (Option.bind_some _ _).symm.trans H; with_reducible exact H2_) | with_reducible exact H | (rw [hy353]; exact H) | exact H
     have Ny353 := Aside0.mk hy353
     clear hy353
     have H' := Aside0.mk H
     clear H
     try go_wp2
     have n0_ := Aside0.mk (Kd.R_drew HO_5.out)
     have n1_ := Aside0.mk (blk_drew BK328.out)
     have n2_ := Aside0.mk (below_drew1 HB.out)
     clear HO_5
     clear BK328
     clear HB
     have HO_5 := n0_
     have BK328 := n1_
     have HB := n2_
     clear n0_ n1_ n2_
     have q42 : (x9_8 : Int) ≤ ((x5_2.length : Int) : Int) := of_decide_eq_true qgby2_4
     obtain ⟨i042, hi042, _, hsz42, _⟩ := info_parts info41
     have hroom42 : x5_2.length ≤ co13 := (Kd.R_reads' HO_5.out).2.1
     have hC42 : Kd.C k41 _ Ao13 x5_2.length x5_2 := (Kd.R_reads' HO_5.out).2.2
     have hcut42 := cut_to (P := Try.prog) 32 41 .i64 Try.underlying32 hi042 Ao13 x5_2.length co13 x9_8 (of_decide_eq_true qgby2_4) q42 hroom42
     have hr42 := Kd.C_take (m := (x9_8 : Int).toNat) hC42 (by omega)
     have hy42 : y335.length = (x9_8 : Int).toNat := (by rw [Ny335.out, List.length_take]; omega)
     rw [← Ny335.out] at hr42
     rw [← hy42] at hcut42
     have HR338 := Aside0.mk hr42
     have HC338 := Aside0.mk (show y335.length ≤ co13 from by omega)
     clear hr42 hC42 hroom42 hi042 hsz42
     have KY42 := Aside0.mk hy42
     clear hy42
     have KL42 := Aside0.mk (show (x9_8 : Int).toNat ≤ x5_2.length from by omega)
     replace q42 := eq_true q42
     have q43 : (x9_8 : Int) ≤ ((x5_2.length : Int) : Int) := of_decide_eq_true qgby2_4
     obtain ⟨i043, hi043, _, hsz43, _⟩ := info_parts info41
     have hroom43 : x5_2.length ≤ co13 := (Kd.R_reads' HO_5.out).2.1
     have hC43 : Kd.C k41 _ Ao13 x5_2.length x5_2 := (Kd.R_reads' HO_5.out).2.2
     have q043 : (0 : Int) ≤ (x9_8 : Int) := of_decide_eq_true qgby2_4
     have hcut43 := cut_from (P := Try.prog) 32 41 .i64 Try.underlying32 hi043 7 hsz43 Ao13 x5_2.length co13 x9_8 q043 q43
     have hr43 := Kd.C_drop (m := (x9_8 : Int).toNat) (c := co13) hC43 (by omega) hroom43
     obtain ⟨A43, hA43⟩ : ∃ A1, A1 = (if co13 = (x9_8 : Int).toNat then Ao13 else (Ao13 : Option Addr).map (·.add ((x9_8 : Int).toNat * 7))) := ⟨_, rfl⟩
     obtain ⟨c43, hc43⟩ : ∃ c1, c1 = co13 - (x9_8 : Int).toNat := ⟨_, rfl⟩
     have hy43 : y349.length = x5_2.length - (x9_8 : Int).toNat := (by rw [Ny349.out, List.length_drop] <;> omega)
     rw [show (x5_2).drop (x9_8 : Int).toNat = y349 from Ny349.out.symm] at hr43
     replace hr43 : Kd.C k41 _ A43 y349.length y349 := (by rw [hA43]; exact hr43)
     rw [← hy43, ← hA43, ← hc43] at hcut43
     have HR352 := Aside0.mk hr43
     have HC352 := Aside0.mk (show y349.length ≤ c43 from by rw [hy43, hc43]; exact Nat.sub_le_sub_right hroom43 _)
     clear hr43 hC43 hroom43 hi043 hsz43 hc43
     have KY43 := Aside0.mk hy43
     have KA43 := Aside0.mk hA43
     clear hy43 hA43
     have KL43 := Aside0.mk (show (x9_8 : Int).toNat ≤ x5_2.length from by omega)
     replace q43 := eq_true q43
     refine start_ (n := 18) (S := fun w' => w'.cell? ⟨gb328, 0, none⟩ = some (.string t325) ∧ w'.cell? ⟨gb328, 1, none⟩ = some (.string t326) ∧ w'.cell? ⟨gb328, 2, none⟩ = some (.string t327)) (ds := []) #[F2952, F2952, F2952, F2952, F2952, F2952, F2952, F2952, F2952, F2952, F2952, F2952, F2952, F2952, F2952, F2952, F2952, F2952] (by kernel_rfl) rfl rfl ⟨(blk_cell BK328.out 0).trans rfl, (blk_cell BK328.out 1).trans rfl, (blk_cell BK328.out 2).trans rfl⟩ (fun hHeld => ?_); refine with_tabW sleuthlaw25_by.tab13 sleuthlaw25_by.bits13 (fun HT_ HW_ => ?_)
     generalize wc.drew = w41 at HO_5 BK328 HB HR338 HR352 hHeld ⊢
     refine pure_ (i := 1) (N := some 65) (v := ?_) (a' := ?_) #[F2952, T2952, F2952, F2952, F2952, F2952, F2952, F2952, F2952, F2952, F2952, F2952, F2952, F2952, F2952, F2952, F2952, F2952] rfl rfl (any_of HT_.out (by kernel_rfl)) (fun _ _ _ h => h) (Or.inl ⟨by rfl, ?_⟩) ?_ ?_
     rotate_left
     ·intro w'
      go_simp
      with_reducible rfl
     rotate_left
     ·simp only [Act.put, List.setIfInBounds_toArray, List.set_cons_zero, List.set_cons_succ, i64_w, i32_w]
      rfl
     refine pure_ (i := 2) (N := some 66) (v := ?_) (a' := ?_) #[F2952, T2952, T2952, F2952, F2952, F2952, F2952, F2952, F2952, F2952, F2952, F2952, F2952, F2952, F2952, F2952, F2952, F2952] rfl rfl (any_of HT_.out (by kernel_rfl)) (fun _ _ _ h => h) (Or.inl ⟨by rfl, ?_⟩) ?_ ?_
     rotate_left
     ·intro w'
      go_simp
      with_reducible rfl
     rotate_left
     ·simp only [Act.put, List.setIfInBounds_toArray, List.set_cons_zero, List.set_cons_succ, i64_w, i32_w]
      rfl
     refine pure_ (i := 3) (N := some 67) (v := ?_) (a' := ?_) #[F2952, T2952, T2952, T2952, F2952, F2952, F2952, F2952, F2952, F2952, F2952, F2952, F2952, F2952, F2952, F2952, F2952, F2952] rfl rfl (any_of HT_.out (by kernel_rfl)) (fun _ _ _ h => h) (Or.inl ⟨by rfl, ?_⟩) ?_ ?_
     rotate_left
     ·intro w'
      go_simp
      with_reducible rfl
     rotate_left
     ·simp only [Act.put, List.setIfInBounds_toArray, List.set_cons_zero, List.set_cons_succ, i64_w, i32_w]
      rfl
     refine pure_ (i := 6) (N := some 70) (v := ?_) (a' := ?_) #[F2952, T2952, T2952, T2952, F2952, F2952, T2952, F2952, F2952, F2952, F2952, F2952, F2952, F2952, F2952, F2952, F2952, F2952] rfl rfl (any_of HT_.out (by kernel_rfl)) (fun _ _ _ h => h) (Or.inl ⟨by rfl, ?_⟩) ?_ ?_
     rotate_left
     ·intro w'
      go_simp
      with_reducible rfl
     rotate_left
     ·simp only [Act.put, List.setIfInBounds_toArray, List.set_cons_zero, List.set_cons_succ, i64_w, i32_w]
      rfl
     refine pure_ (i := 8) (N := some 72) (v := ?_) (a' := ?_) #[F2952, T2952, T2952, T2952, F2952, F2952, T2952, F2952, T2952, F2952, F2952, F2952, F2952, F2952, F2952, F2952, F2952, F2952] rfl rfl (any_of HT_.out (by kernel_rfl)) (fun _ _ _ h => h) (Or.inl ⟨by rfl, ?_⟩) ?_ ?_
     rotate_left
     ·intro w'
      go_simp
      with_reducible rfl
     rotate_left
     ·simp only [Act.put, List.setIfInBounds_toArray, List.set_cons_zero, List.set_cons_succ, i64_w, i32_w]
      rfl
     refine pure_ (i := 13) (N := some 77) (v := ?_) (a' := ?_) #[F2952, T2952, T2952, T2952, F2952, F2952, T2952, F2952, T2952, F2952, F2952, F2952, F2952, T2952, F2952, F2952, F2952, F2952] rfl rfl (any_of HT_.out (by kernel_rfl)) (fun _ _ _ h => h) (Or.inl ⟨by rfl, ?_⟩) ?_ ?_
     rotate_left
     ·intro w'
      go_simp
      with_reducible rfl
     rotate_left
     ·simp only [Act.put, List.setIfInBounds_toArray, List.set_cons_zero, List.set_cons_succ, i64_w, i32_w]
      rfl
     refine pure_ (i := 14) (N := some 78) (v := ?_) (a' := ?_) #[F2952, T2952, T2952, T2952, F2952, F2952, T2952, F2952, T2952, F2952, F2952, F2952, F2952, T2952, T2952, F2952, F2952, F2952] rfl rfl (any_of HT_.out (by kernel_rfl)) (fun _ _ _ h => h) (Or.inl ⟨by rfl, ?_⟩) ?_ ?_
     rotate_left
     ·intro w'
      go_simp
      with_reducible rfl
     rotate_left
     ·simp only [Act.put, List.setIfInBounds_toArray, List.set_cons_zero, List.set_cons_succ, i64_w, i32_w]
      rfl
     refine pure_ (i := 15) (N := some 79) (v := ?_) (a' := ?_) #[F2952, T2952, T2952, T2952, F2952, F2952, T2952, F2952, T2952, F2952, F2952, F2952, F2952, T2952, T2952, T2952, F2952, F2952] rfl rfl (any_of HT_.out (by kernel_rfl)) (fun _ _ _ h => h) (Or.inl ⟨by rfl, ?_⟩) ?_ ?_
     rotate_left
     ·intro w'
      go_simp
      with_reducible rfl
     rotate_left
     ·simp only [Act.put, List.setIfInBounds_toArray, List.set_cons_zero, List.set_cons_succ, i64_w, i32_w]
      rfl
     refine take_ (i := 5) (N := some 69) (v := ?_) (a' := ?_) #[F2952, T2952, T2952, T2952, F2952, T2952, T2952, F2952, T2952, F2952, F2952, F2952, F2952, T2952, T2952, T2952, F2952, F2952] rfl rfl (take_ofW HT_.out HW_.out (by kernel_rfl)) (fun _ _ _ h => h) (Or.inl ⟨by rfl, ?_⟩) hHeld ?_ ?_
     rotate_left
     ·rintro w' ⟨s0, s1, s2⟩
      go_simp
      with_reducible rfl
     rotate_left
     ·simp only [Act.put, List.setIfInBounds_toArray, List.set_cons_zero, List.set_cons_succ, i64_w, i32_w]
      rfl
     refine take_ (i := 7) (N := some 71) (v := ?_) (a' := ?_) #[F2952, T2952, T2952, T2952, F2952, T2952, T2952, T2952, T2952, F2952, F2952, F2952, F2952, T2952, T2952, T2952, F2952, F2952] rfl rfl (take_ofW HT_.out HW_.out (by kernel_rfl)) (fun _ _ _ h => h) (Or.inl ⟨by rfl, ?_⟩) hHeld ?_ ?_
     rotate_left
     ·rintro w' ⟨s0, s1, s2⟩
      go_simp
      with_reducible rfl
     rotate_left
     ·simp only [Act.put, List.setIfInBounds_toArray, List.set_cons_zero, List.set_cons_succ, i64_w, i32_w]
      rfl
     refine one_ (i := 0) (N := some 64) #[T2952, T2952, T2952, T2952, F2952, T2952, T2952, T2952, T2952, F2952, F2952, F2952, F2952, T2952, T2952, T2952, F2952, F2952] rfl rfl (one_of HT_.out (by kernel_rfl)) (by decide) (fun K hK => ?_)
     refine Kd.R_lit_step k41 _ 41 ?hg (N := 64) ?hd (xs := ([] : List (S41))) (inner := []) (ok := fun _ => True) (okp := fun _ => True) ?hr ?hp (fun _ hk => hk) trivial (Below.refl _ _) (Nat.le_refl _) (by simp) ?_; (case hd => rfl); (case hg => rfl); (case hr => first | (go_simp; done) | (go_simp; rfl)); (case hp => exact (Reps.none _ _))
     intro v333 w44 ho45 hb hg_ hnew_
     clear hg_ hnew_
     (first | rw [← Ny332.out] at ho45 | (simp only [Int.reduceToNat] at ho45; rw [← Ny332.out] at ho45))
     have n0_ := Aside0.mk (Kd.R_elder' qgby2_0 (Kd.R_base ho45) hb)
     have n1_ := Aside0.mk (Kd.R_lower (Kd.R_new' ho45 (Kd.R_lt qgby2_0)) (below_size qgby2_1))
     have n2_ := Aside0.mk (blk_below (g := gb328) (o := .cells #[.string t325, .string t326, .string t327] 39 (0, 0)) qgby2_2 hb)
     have n3_ := Aside0.mk (Kd.C_below qgby2_5 hb)
     have n4_ := Aside0.mk (Kd.C_below qgby2_6 hb)
     have n5_ := Aside0.mk (below_step qgby2_1 hb)
     clear HO_5
     clear BK328
     clear HR338
     clear HR352
     clear HB
     have HO_5 := n0_
     have HO334 := n1_
     have BK328 := n2_
     have HR338 := n3_
     have HR352 := n4_
     have HB := n5_
     clear n0_ n1_ n2_ n3_ n4_ n5_
     clear hb ho45
     refine hK.out _ _ ⟨(blk_cell BK328.out 0).trans rfl, (blk_cell BK328.out 1).trans rfl, (blk_cell BK328.out 2).trans rfl⟩ (fun hHeld => ?_)
     clear hK K
     refine norm_ (a' := ?_) ?_ ?_
     rotate_left
     ·show Act.put _ (some 64) _ = _
      simp only [Act.put, List.setIfInBounds_toArray, List.set_cons_zero, List.set_cons_succ, i64_w, i32_w]
      rfl
     refine one_ (i := 4) (N := some 68) #[T2952, T2952, T2952, T2952, T2952, T2952, T2952, T2952, T2952, F2952, F2952, F2952, F2952, T2952, T2952, T2952, F2952, F2952] rfl rfl (one_of HT_.out (by kernel_rfl)) (by decide) (fun K hK => ?_)
     refine Kd.R_append_rows_step k41 (w0 := w) w.heap.size (by rfl) (.tmp 64) (.tmp 67) 32 41 (.agg #[(.string ⟨#[]⟩), (.string ⟨#[]⟩), (.string ⟨#[]⟩), (.int .i64 0), (.int .i64 0), (.int .i64 0), (.int .i64 0)]) 80 rfl Try.underlying32 info41 rfl (by decide) (by omega) v333 y332 y335 _ _ _ (fun k_ => some k_ ≠ (.slice Ao13 x5_2.length co13 : Value).ownBlock) (fun _ => False) rfl rfl ?aO ?aR (fun _ _ h => h) (fun _ h => h.elim) ?aF ?aB ?aS ?aL ?_
     (case aR => repeat (first | exact qgby2_5 | (with_reducible refine Kd.C_alloc ?_ _) | (with_reducible refine Kd.C_drewN ?_ _) | (with_reducible refine Kd.C_drew ?_)))
     (case aB => exact qgby2_1)
     (case aF => exact (fun k_ hk => Kd.fresh' (Kd.R_lt qgby2_0) k_ hk))
     (case aO => exact (by (with_reducible repeat (first | apply Kd.R_alloc | apply Kd.R_drewN | apply Kd.R_drew)); exact Kd.R_mono HO334.out (fun _ hk => hk.2)))
     (case aS => exact (below_size qgby2_1))
     (case aL => have := LMc35.out; omega)
     intro v340 w46 ho hb hg hat
     rw [← Ny339.out] at ho
     have n0_ := Aside0.mk (Kd.R_after (ok := (fun _ => True)) qgby2_0 hg hat)
     have n1_ := Aside0.mk (blk_grown (g := gb328) (o := .cells #[.string t325, .string t326, .string t327] 39 (0, 0)) qgby2_2 hg (Kd.R_ne HO334.out BK328.out (by decide)))
     have n2_ := Aside0.mk (hb)
     have n3_ := Aside0.mk ((show Kd.C k41 w46 Ao13 y335.length y335 from by rw [Ny335.out]; exact Kd.C_take (m := (x9_8 : Int).toNat) ((Kd.R_reads' (Kd.R_after (ok := (fun _ => True)) qgby2_0 hg hat)).2.2) KL42.out))
     have n4_ := Aside0.mk ((show Kd.C k41 w46 A43 y349.length y349 from by rw [Ny349.out, KA43.out]; exact Kd.C_drop (m := (x9_8 : Int).toNat) (c := co13) ((Kd.R_reads' (Kd.R_after (ok := (fun _ => True)) qgby2_0 hg hat)).2.2) KL43.out ((Kd.R_reads' (Kd.R_after (ok := (fun _ => True)) qgby2_0 hg hat)).2.1)))
     have n5_ := Aside0.mk (ho)
     clear HO_5
     clear BK328
     clear HB
     clear HR338
     clear HR352
     clear HO334
     have HO_5 := n0_
     have BK328 := n1_
     have HB := n2_
     have HR338 := n3_
     have HR352 := n4_
     have HO341 := n5_
     clear n0_ n1_ n2_ n3_ n4_ n5_
     clear ho hb hg hat
     refine hK.out _ _ ⟨(blk_cell BK328.out 0).trans rfl, (blk_cell BK328.out 1).trans rfl, (blk_cell BK328.out 2).trans rfl⟩ (fun hHeld => ?_)
     clear hK K
     refine norm_ (a' := ?_) ?_ ?_
     rotate_left
     ·show Act.put _ (some 68) _ = _
      simp only [Act.put, List.setIfInBounds_toArray, List.set_cons_zero, List.set_cons_succ, i64_w, i32_w]
      rfl
     refine one_ (i := 9) (N := some 73) #[T2952, T2952, T2952, T2952, T2952, T2952, T2952, T2952, T2952, T2952, F2952, F2952, F2952, T2952, T2952, T2952, F2952, F2952] rfl rfl (one_of HT_.out (by kernel_rfl)) (by decide) (fun K hK => ?_)
     refine goes_ Try.func45 (by kernel_rfl) rfl #[.slice (some ad322) l0.length c0, .agg #[.string t325, .string t326, .string t327], .int .i64 a1] (by rfl) rfl rfl qgby2_9 ?_
     with_reducible refine (sleuthlaw25_total.calls _ _ l0 t325 t326 t327 a1 t342 t343 t344 t345 _ ?side1 ?side2 A36.out).mono ?_
     (case side1 => repeat (first | exact (Kd.C_below HR0.out HB.out) | (with_reducible refine Kd.C_alloc ?_ _) | (with_reducible refine Kd.C_drewN ?_ _) | (with_reducible refine Kd.C_drew ?_)))
     (case side2 => exact HC0.out)
     rintro e w47 ⟨rfl, hb⟩
     refine ⟨_, rfl, ?_⟩
     have n0_ := Aside0.mk (Kd.R_below qgby2_0 hb)
     have n1_ := Aside0.mk (Kd.R_below (by (with_reducible repeat (first | apply Kd.R_alloc | apply Kd.R_drewN | apply Kd.R_drew)); exact HO341.out) hb)
     have n2_ := Aside0.mk (blk_below (g := gb328) (o := .cells #[.string t325, .string t326, .string t327] 39 (0, 0)) qgby2_2 hb)
     have n3_ := Aside0.mk (Kd.C_below qgby2_5 hb)
     have n4_ := Aside0.mk (Kd.C_below qgby2_6 hb)
     have n5_ := Aside0.mk (below_step qgby2_1 hb)
     clear HO_5
     clear HO341
     clear BK328
     clear HR338
     clear HR352
     clear HB
     have HO_5 := n0_
     have HO341 := n1_
     have BK328 := n2_
     have HR338 := n3_
     have HR352 := n4_
     have HB := n5_
     clear n0_ n1_ n2_ n3_ n4_ n5_
     (try clear hb)
     (try clear hb2)
     (try clear hk)
     (try clear hi)
     refine hK.out _ _ ⟨(blk_cell BK328.out 0).trans rfl, (blk_cell BK328.out 1).trans rfl, (blk_cell BK328.out 2).trans rfl⟩ (fun hHeld => ?_)
     clear hK K
     refine norm_ (a' := ?_) ?_ ?_
     rotate_left
     ·show Act.put _ (some 73) _ = _
      simp only [Act.put, List.setIfInBounds_toArray, List.set_cons_zero, List.set_cons_succ, i64_w, i32_w]
      rfl
     refine pure_ (i := 10) (N := some 74) (v := ?_) (a' := ?_) #[T2952, T2952, T2952, T2952, T2952, T2952, T2952, T2952, T2952, T2952, T2952, F2952, F2952, T2952, T2952, T2952, F2952, F2952] rfl rfl (any_of HT_.out (by kernel_rfl)) (fun _ _ _ h => h) (Or.inl ⟨by rfl, ?_⟩) ?_ ?_
     rotate_left
     ·intro w'
      go_simp
      with_reducible rfl
     rotate_left
     ·simp only [Act.put, List.setIfInBounds_toArray, List.set_cons_zero, List.set_cons_succ, i64_w, i32_w]
      rfl
     refine one_ (i := 11) (N := some 75) #[T2952, T2952, T2952, T2952, T2952, T2952, T2952, T2952, T2952, T2952, T2952, T2952, F2952, T2952, T2952, T2952, F2952, F2952] rfl rfl (one_of HT_.out (by kernel_rfl)) (by decide) (fun K hK => ?_)
     refine value_ (w1 := ?_) (v := ?_) (by rfl) rfl ?_ ?_
     rotate_left 2
     ·go_simp
      constructor
      ·rfl
      ·rfl
     refine hK.out _ _ ⟨(blk_cell (blk_alloc BK328.out _) 0).trans rfl, (blk_cell (blk_alloc BK328.out _) 1).trans rfl, (blk_cell (blk_alloc BK328.out _) 2).trans rfl⟩ (fun hHeld => ?_)
     clear hK K
     refine norm_ (a' := ?_) ?_ ?_
     rotate_left
     ·show Act.put _ (some 75) _ = _
      simp only [Act.put, List.setIfInBounds_toArray, List.set_cons_zero, List.set_cons_succ, i64_w, i32_w]
      rfl
     refine one_ (i := 12) (N := some 76) #[T2952, T2952, T2952, T2952, T2952, T2952, T2952, T2952, T2952, T2952, T2952, T2952, T2952, T2952, T2952, T2952, F2952, F2952] rfl rfl (one_of HT_.out (by kernel_rfl)) (by decide) (fun K hK => ?_)
     refine Kd.R_append_step k41 (w0 := w) w.heap.size (by rfl) (.tmp 68) (.tmp 75) 32 41 (.agg #[(.string ⟨#[]⟩), (.string ⟨#[]⟩), (.string ⟨#[]⟩), (.int .i64 0), (.int .i64 0), (.int .i64 0), (.int .i64 0)]) 80 rfl Try.underlying32 info41 rfl (by decide) (by omega) v340 y339 (⟨(⟨t325, t326, t327⟩ : S39), (⟨t342, t343, t344, t345⟩ : S37)⟩ : S41) [.string t325, .string t326, .string t327, .int .i64 t342, .int .i64 t343, .int .i64 t344, .int .i64 t345] (fun k_ => some k_ ≠ (.slice Ao13 x5_2.length co13 : Value).ownBlock) (fun _ => False) rfl rfl ?aP (fun _ hk => hk.elim) ?aF ?aO ?aB ?aS ?aL ?_
     (case aP => exact k41_mkM _ _ _ (⟨(⟨t325, t326, t327⟩ : S39), (⟨t342, t343, t344, t345⟩ : S37)⟩ : S41))
     (case aB => exact qgby2_1)
     (case aF => exact (fun k_ hk => Kd.fresh' (Kd.R_lt qgby2_0) k_ hk))
     (case aO => exact (by (with_reducible repeat (first | apply Kd.R_alloc | apply Kd.R_drewN | apply Kd.R_drew)); exact HO341.out))
     (case aS => exact (below_size qgby2_1))
     (case aL => have := LMc37.out; omega)
     intro v347 w48 ho hb hg hat
     rw [← Ny346.out] at ho
     have n0_ := Aside0.mk (Kd.R_after (ok := (fun _ => True)) qgby2_0 hg hat)
     have n1_ := Aside0.mk (blk_grown (g := gb328) (o := .cells #[.string t325, .string t326, .string t327] 39 (0, 0)) qgby2_2 hg (Kd.R_ne HO341.out BK328.out (by decide)))
     have n2_ := Aside0.mk (hb)
     have n3_ := Aside0.mk ((show Kd.C k41 w48 Ao13 y335.length y335 from by rw [Ny335.out]; exact Kd.C_take (m := (x9_8 : Int).toNat) ((Kd.R_reads' (Kd.R_after (ok := (fun _ => True)) qgby2_0 hg hat)).2.2) KL42.out))
     have n4_ := Aside0.mk ((show Kd.C k41 w48 A43 y349.length y349 from by rw [Ny349.out, KA43.out]; exact Kd.C_drop (m := (x9_8 : Int).toNat) (c := co13) ((Kd.R_reads' (Kd.R_after (ok := (fun _ => True)) qgby2_0 hg hat)).2.2) KL43.out ((Kd.R_reads' (Kd.R_after (ok := (fun _ => True)) qgby2_0 hg hat)).2.1)))
     have n5_ := Aside0.mk (ho)
     clear HO_5
     clear BK328
     clear HB
     clear HR338
     clear HR352
     clear HO341
     have HO_5 := n0_
     have BK328 := n1_
     have HB := n2_
     have HR338 := n3_
     have HR352 := n4_
     have HO348 := n5_
     clear n0_ n1_ n2_ n3_ n4_ n5_
     clear ho hb hg hat
     refine hK.out _ _ ⟨(blk_cell BK328.out 0).trans rfl, (blk_cell BK328.out 1).trans rfl, (blk_cell BK328.out 2).trans rfl⟩ (fun hHeld => ?_)
     clear hK K
     refine norm_ (a' := ?_) ?_ ?_
     rotate_left
     ·show Act.put _ (some 76) _ = _
      simp only [Act.put, List.setIfInBounds_toArray, List.set_cons_zero, List.set_cons_succ, i64_w, i32_w]
      rfl
     refine one_ (i := 16) (N := some 80) #[T2952, T2952, T2952, T2952, T2952, T2952, T2952, T2952, T2952, T2952, T2952, T2952, T2952, T2952, T2952, T2952, T2952, F2952] rfl rfl (one_of HT_.out (by kernel_rfl)) (by decide) (fun K hK => ?_)
     refine Kd.R_append_rows_step k41 (w0 := w) w.heap.size (by rfl) (.tmp 76) (.tmp 79) 32 41 (.agg #[(.string ⟨#[]⟩), (.string ⟨#[]⟩), (.string ⟨#[]⟩), (.int .i64 0), (.int .i64 0), (.int .i64 0), (.int .i64 0)]) 80 rfl Try.underlying32 info41 rfl (by decide) (by omega) v347 y346 y349 _ _ _ (fun k_ => some k_ ≠ (.slice Ao13 x5_2.length co13 : Value).ownBlock) (fun _ => False) rfl rfl ?aO ?aR (fun _ _ h => h) (fun _ h => h.elim) ?aF ?aB ?aS ?aL ?_
     (case aR => repeat (first | exact qgby2_6 | (with_reducible refine Kd.C_alloc ?_ _) | (with_reducible refine Kd.C_drewN ?_ _) | (with_reducible refine Kd.C_drew ?_)))
     (case aB => exact qgby2_1)
     (case aF => exact (fun k_ hk => Kd.fresh' (Kd.R_lt qgby2_0) k_ hk))
     (case aO => exact (by (with_reducible repeat (first | apply Kd.R_alloc | apply Kd.R_drewN | apply Kd.R_drew)); exact HO348.out))
     (case aS => exact (below_size qgby2_1))
     (case aL => have := LMc40.out; omega)
     intro v354 w49 ho hb hg hat
     rw [← Ny353.out] at ho
     have n0_ := Aside0.mk (Kd.R_after (ok := (fun _ => True)) qgby2_0 hg hat)
     have n1_ := Aside0.mk (blk_grown (g := gb328) (o := .cells #[.string t325, .string t326, .string t327] 39 (0, 0)) qgby2_2 hg (Kd.R_ne HO348.out BK328.out (by decide)))
     have n2_ := Aside0.mk (hb)
     have n3_ := Aside0.mk ((show Kd.C k41 w49 Ao13 y335.length y335 from by rw [Ny335.out]; exact Kd.C_take (m := (x9_8 : Int).toNat) ((Kd.R_reads' (Kd.R_after (ok := (fun _ => True)) qgby2_0 hg hat)).2.2) KL42.out))
     have n4_ := Aside0.mk ((show Kd.C k41 w49 A43 y349.length y349 from by rw [Ny349.out, KA43.out]; exact Kd.C_drop (m := (x9_8 : Int).toNat) (c := co13) ((Kd.R_reads' (Kd.R_after (ok := (fun _ => True)) qgby2_0 hg hat)).2.2) KL43.out ((Kd.R_reads' (Kd.R_after (ok := (fun _ => True)) qgby2_0 hg hat)).2.1)))
     have n5_ := Aside0.mk (ho)
     clear HO_5
     clear BK328
     clear HB
     clear HR338
     clear HR352
     clear HO348
     have HO_5 := n0_
     have BK328 := n1_
     have HB := n2_
     have HR338 := n3_
     have HR352 := n4_
     have HO355 := n5_
     clear n0_ n1_ n2_ n3_ n4_ n5_
     clear ho hb hg hat
     refine hK.out _ _ ⟨(blk_cell BK328.out 0).trans rfl, (blk_cell BK328.out 1).trans rfl, (blk_cell BK328.out 2).trans rfl⟩ (fun hHeld => ?_)
     clear hK K
     refine norm_ (a' := ?_) ?_ ?_
     rotate_left
     ·show Act.put _ (some 80) _ = _
      simp only [Act.put, List.setIfInBounds_toArray, List.set_cons_zero, List.set_cons_succ, i64_w, i32_w]
      rfl
     refine pure_ (i := 17) (N := some 5) (v := ?_) (a' := ?_) #[T2952, T2952, T2952, T2952, T2952, T2952, T2952, T2952, T2952, T2952, T2952, T2952, T2952, T2952, T2952, T2952, T2952, T2952] rfl rfl (any_of HT_.out (by kernel_rfl)) (fun _ _ _ h => h) (Or.inl ⟨by rfl, ?_⟩) ?_ ?_
     rotate_left
     ·intro w'
      go_simp
      with_reducible rfl
     rotate_left
     ·simp only [Act.put, List.setIfInBounds_toArray, List.set_cons_zero, List.set_cons_succ, i64_w, i32_w]
      rfl
     refine done_ (done_of HT_.out (by kernel_rfl)) ?_
     try go_wp2
     go_roundg kj24
     case measure => have := HK1.out; have := HK2.out; have := HJ8.out; have := HJ24.out; omega
     case rel => exact ⟨(y353), (wrap64 (x7_2 + 1)), qgby2_7, H', ⟨by have := HK1.out; have := HK2.out; have := HJ8.out; have := HJ24.out; omega⟩, ⟨by (with_reducible repeat (first | apply Kd.R_alloc | apply Kd.R_drewN | apply Kd.R_drew)); exact Kd.R_mono HO355.out (fun _ hk => trivial)⟩, ⟨qgby2_1⟩⟩

end Go.Proofs.Ythdifdnjodbdnaa.Q
