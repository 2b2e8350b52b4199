-- Laid by myprint.py (a program of this session's, over the kit's printer and with functions proved by hand)
import Derived.Test.YthdifdnjodbdnaaTy
import Derived.Test.YthdifdnjodbdnaaQgByH
import Derived.Test.YthdifdnjodbdnaaQgKnown
import Derived.Test.YthdifdnjodbdnaaQgWtH
import Derived.Test.YthdifdnjodbdnaaQgAdd
namespace Go.Proofs.Ythdifdnjodbdnaa.Q
open Go.RowKit Go.Proofs.YthdifdnjodbdnaaW.PrintWords Go.Proofs.YthdifdnjodbdnaaW.PrintLast Go.Proofs.YthdifdnjodbdnaaW.PrintMore
attribute [local go_sem] max2_int min2_int max_two min_two max_three min_three max_four min_four   -- for this text's walks alone
set_option linter.unusedVariables false
set_option linter.unusedSimpArgs false

abbrev T19516 : Bool := true
abbrev F19516 : Bool := false
theorem qgsleuthlaw25estimaterefines_0 {p : Prop} (h : p := by repeat (first | (with_reducible first | exact HB.out | apply below_alloc | apply pw_below_drewN | apply below_drew1 | refine below_set ?_ GE255.out | refine below_set ?_ GE256.out) | exact HB.out)) : p := h
theorem qgsleuthlaw25estimaterefines_1 {p : Prop} (h : p := by (with_reducible repeat (first | refine blk_drewN ?_ _ | refine blk_drew ?_ | refine blk_alloc ?_ _)); exact BK255.out) : p := h
theorem qgsleuthlaw25estimaterefines_2 {p : Prop} (h : p := by (with_reducible repeat (first | refine blk_drewN ?_ _ | refine blk_drew ?_ | refine blk_alloc ?_ _)); exact BK256.out) : p := h
theorem qgsleuthlaw25estimaterefines_3 {p : Prop} (h : p := by repeat (first | (with_reducible first | exact HB.out | apply below_alloc | apply pw_below_drewN | apply below_drew1 | refine below_set ?_ GE255.out | refine below_set ?_ GE256.out | refine below_set ?_ GE269.out) | exact HB.out)) : p := h
theorem qgsleuthlaw25estimaterefines_4 {p : Prop} (h : p := by (with_reducible repeat (first | apply Kd.R_alloc | apply Kd.R_drewN | apply Kd.R_drew)); exact HO_6.out) : p := h
theorem qgsleuthlaw25estimaterefines_5 {p : Prop} (h : p := by (try simp only [List.map_toArray, List.map_cons, List.map_nil]); first | done | rfl | (simp only [List.length_drop, List.length_take]; rfl)) : p := h
theorem qgsleuthlaw25estimaterefines_6 {p : Prop} (h : p := by (with_reducible repeat (first | refine blk_drewN ?_ _ | refine blk_drew ?_ | refine blk_alloc ?_ _)); exact BK269.out) : p := h
theorem qgsleuthlaw25estimaterefines_7 {p : Prop} (h : p := by first | (with_reducible assumption) | assumption) : p := h
theorem qgsleuthlaw25estimaterefines_8 {p : Prop} (h : p := by (with_reducible repeat (first | apply Kd.N_alloc | apply Kd.N_drewN | apply Kd.N_drew)); exact HO_5.out) : p := h
theorem qgsleuthlaw25estimaterefines_9 {p : Prop} (h : p := by (with_reducible repeat (first | apply Kd.R_alloc | apply Kd.R_drewN | apply Kd.R_drew)); exact HO_9.out) : p := h
theorem qgsleuthlaw25estimaterefines_10 {p : Prop} (h : p := by repeat (first | (with_reducible first | exact HB.out | apply below_alloc | apply pw_below_drewN | apply below_drew1 | refine below_set ?_ GE255.out) | exact HB.out)) : p := h
theorem qgsleuthlaw25estimaterefines_11 {p : Prop} (h : p := by repeat (first | (with_reducible first | exact HB.out | apply below_alloc | apply pw_below_drewN | apply below_drew1) | exact HB.out)) : p := h
/-! ### sleuthlaw25_EstimateRefines: function 3 -/
mutual
def sleuthlaw25_EstimateRefines.l0 : Nat → List (S53) → List (S41) → Int → Option (Bool)
 | 0, _, _, _ => none
 | k + 1, x5, x6, x8 => if x8 ≤ 3 then ((estimate_By.f k x5 x8).bind fun bt265 => (if bt265.2 = 0 then (sleuthlaw25_EstimateRefines.l1 k x5 x6 x8 bt265.1 0) else (none))) else (some true)
def sleuthlaw25_EstimateRefines.l1 : Nat → List (S53) → List (S41) → Int → List (S41) → Int → Option (Bool)
 | 0, _, _, _, _, _ => none
 | k + 1, x5, x6, x8, x9, x11 => if x11 < (x6.length : Int) then (sleuthlaw25_EstimateRefines.l2 k x5 x6 x8 x9 x11 0 0 0 0 0) else (sleuthlaw25_EstimateRefines.l0 k x5 x6 (wrap64 (x8 + 1)))
def sleuthlaw25_EstimateRefines.l2 : Nat → List (S53) → List (S41) → Int → List (S41) → Int → Int → Int → Int → Int → Int → Option (Bool)
 | 0, _, _, _, _, _, _, _, _, _, _ => none
 | k + 1, x5, x6, x8, x9, x11, x13, x270000, x270001, x270002, x270003 => if x13 < (x9.length : Int) then (if 0 ≤ x13 then (if 0 ≤ x11 then (if x11 < (x6.length : Int) then (if ((rd_T41 x9 x13).f0.f0).toList = ((rd_T41 x6 x11).f0.f0).toList then (if ((rd_T41 x9 x13).f1.f3) > ((rd_T41 x6 x11).f1.f3) then (none) else ((sleuthlaw25_add.f x270000 x270001 x270002 x270003 ((rd_T41 x9 x13).f1.f0) ((rd_T41 x9 x13).f1.f1) ((rd_T41 x9 x13).f1.f2) ((rd_T41 x9 x13).f1.f3)).bind fun bt277 => (sleuthlaw25_EstimateRefines.l2 k x5 x6 x8 x9 x11 (wrap64 (x13 + 1)) bt277.1 bt277.2.1 bt277.2.2.1 bt277.2.2.2))) else (sleuthlaw25_EstimateRefines.l2 k x5 x6 x8 x9 x11 (wrap64 (x13 + 1)) x270000 x270001 x270002 x270003)) else (none)) else (none)) else (none)) else (if 0 ≤ x11 then (if x11 < (x6.length : Int) then (if x270000 = ((rd_T41 x6 x11).f1.f0) then (if x270001 = ((rd_T41 x6 x11).f1.f1) then (if x270002 = ((rd_T41 x6 x11).f1.f2) then (if ((rd_T41 x6 x11).f1.f3) > x270003 then (none) else (sleuthlaw25_EstimateRefines.l1 k x5 x6 x8 x9 (wrap64 (x11 + 1)))) else (none)) else (none)) else (none)) else (none)) else (none))
end
def sleuthlaw25_EstimateRefines.f (k : Nat) (l0_0 : List (S104)) (a0_1 : Int) (a0_2 : Int) (a0_3 : Int) (a0_4 : Int) (l0_5 : List (S193)) (a0_6 : Int) (a1_0 : Int) (a1_1 : Int) (a1_2 : Int) : Option (Bool) := (sleuthlaw25_known.f k).bind fun t257 => (if t257 = true then ((sleuthlaw25_weighted.f k l0_0 a0_1 a0_2 a0_3 a0_4 l0_5 a0_6 a1_0 a1_1 a1_2).bind fun t258 => ((estimate_By.f k t258 1).bind fun bt261 => (if bt261.2 = 0 then (sleuthlaw25_EstimateRefines.l0 k t258 bt261.1 2) else (none)))) else (none))
theorem sleuthlaw25_EstimateRefines.mono_l : ∀ k, (∀ y0 y1 y2, LeO (sleuthlaw25_EstimateRefines.l0 k y0 y1 y2) (sleuthlaw25_EstimateRefines.l0 (k + 1) y0 y1 y2)) ∧ (∀ y0 y1 y2 y3 y4, LeO (sleuthlaw25_EstimateRefines.l1 k y0 y1 y2 y3 y4) (sleuthlaw25_EstimateRefines.l1 (k + 1) y0 y1 y2 y3 y4)) ∧ (∀ y0 y1 y2 y3 y4 y5 y6 y7 y8 y9, LeO (sleuthlaw25_EstimateRefines.l2 k y0 y1 y2 y3 y4 y5 y6 y7 y8 y9) (sleuthlaw25_EstimateRefines.l2 (k + 1) y0 y1 y2 y3 y4 y5 y6 y7 y8 y9))
 | 0 => ⟨fun _ _ _ r h => by simp [sleuthlaw25_EstimateRefines.l0] at h, fun _ _ _ _ _ r h => by simp [sleuthlaw25_EstimateRefines.l1] at h, fun _ _ _ _ _ _ _ _ _ _ r h => by simp [sleuthlaw25_EstimateRefines.l2] at h⟩
 | k + 1 => by
  obtain ⟨ih0, ih1, ih2⟩ := sleuthlaw25_EstimateRefines.mono_l k
  refine ⟨?_, ?_, ?_⟩
  ·intro y0 y1 y2
   unfold sleuthlaw25_EstimateRefines.l0
   repeat' first
   | (with_reducible exact ih0 _ _ _)
   | (with_reducible exact ih1 _ _ _ _ _)
   | (with_reducible exact ih2 _ _ _ _ _ _ _ _ _ _)
   | (with_reducible exact estimate_By.mono _ _ _)
   | (with_reducible exact sleuthlaw25_known.mono _)
   | (with_reducible exact sleuthlaw25_weighted.mono _ _ _ _ _ _ _ _ _ _ _)
   | (with_reducible exact LeO.refl _)
   | (with_reducible exact LeO.none _)
   | (with_reducible refine LeO.ite ?_ ?_)
   | (with_reducible refine LeO.bind ?_ (fun _ => ?_))
   | exact ih0 _ _ _
   | exact ih1 _ _ _ _ _
   | exact ih2 _ _ _ _ _ _ _ _ _ _
   | exact estimate_By.mono _ _ _
   | exact sleuthlaw25_known.mono _
   | exact sleuthlaw25_weighted.mono _ _ _ _ _ _ _ _ _ _ _
   | exact LeO.none _
   | refine LeO.ite ?_ ?_
   | refine LeO.bind ?_ (fun _ => ?_)
  ·intro y0 y1 y2 y3 y4
   unfold sleuthlaw25_EstimateRefines.l1
   repeat' first
   | (with_reducible exact ih0 _ _ _)
   | (with_reducible exact ih1 _ _ _ _ _)
   | (with_reducible exact ih2 _ _ _ _ _ _ _ _ _ _)
   | (with_reducible exact estimate_By.mono _ _ _)
   | (with_reducible exact sleuthlaw25_known.mono _)
   | (with_reducible exact sleuthlaw25_weighted.mono _ _ _ _ _ _ _ _ _ _ _)
   | (with_reducible exact LeO.refl _)
   | (with_reducible exact LeO.none _)
   | (with_reducible refine LeO.ite ?_ ?_)
   | (with_reducible refine LeO.bind ?_ (fun _ => ?_))
   | exact ih0 _ _ _
   | exact ih1 _ _ _ _ _
   | exact ih2 _ _ _ _ _ _ _ _ _ _
   | exact estimate_By.mono _ _ _
   | exact sleuthlaw25_known.mono _
   | exact sleuthlaw25_weighted.mono _ _ _ _ _ _ _ _ _ _ _
   | exact LeO.none _
   | refine LeO.ite ?_ ?_
   | refine LeO.bind ?_ (fun _ => ?_)
  ·intro y0 y1 y2 y3 y4 y5 y6 y7 y8 y9
   unfold sleuthlaw25_EstimateRefines.l2
   repeat' first
   | (with_reducible exact ih0 _ _ _)
   | (with_reducible exact ih1 _ _ _ _ _)
   | (with_reducible exact ih2 _ _ _ _ _ _ _ _ _ _)
   | (with_reducible exact estimate_By.mono _ _ _)
   | (with_reducible exact sleuthlaw25_known.mono _)
   | (with_reducible exact sleuthlaw25_weighted.mono _ _ _ _ _ _ _ _ _ _ _)
   | (with_reducible exact LeO.refl _)
   | (with_reducible exact LeO.none _)
   | (with_reducible refine LeO.ite ?_ ?_)
   | (with_reducible refine LeO.bind ?_ (fun _ => ?_))
   | exact ih0 _ _ _
   | exact ih1 _ _ _ _ _
   | exact ih2 _ _ _ _ _ _ _ _ _ _
   | exact estimate_By.mono _ _ _
   | exact sleuthlaw25_known.mono _
   | exact sleuthlaw25_weighted.mono _ _ _ _ _ _ _ _ _ _ _
   | exact LeO.none _
   | refine LeO.ite ?_ ?_
   | refine LeO.bind ?_ (fun _ => ?_)
theorem sleuthlaw25_EstimateRefines.mono : ∀ a0 a1 a2 a3 a4 a5 a6 a7 a8 a9 k, LeO (sleuthlaw25_EstimateRefines.f k a0 a1 a2 a3 a4 a5 a6 a7 a8 a9) (sleuthlaw25_EstimateRefines.f (k + 1) a0 a1 a2 a3 a4 a5 a6 a7 a8 a9) := by
 intro a0 a1 a2 a3 a4 a5 a6 a7 a8 a9 k
 obtain ⟨ih0, ih1, ih2⟩ := sleuthlaw25_EstimateRefines.mono_l k
 unfold sleuthlaw25_EstimateRefines.f
 repeat' first
   | (with_reducible exact ih0 _ _ _)
   | (with_reducible exact ih1 _ _ _ _ _)
   | (with_reducible exact ih2 _ _ _ _ _ _ _ _ _ _)
   | (with_reducible exact estimate_By.mono _ _ _)
   | (with_reducible exact sleuthlaw25_known.mono _)
   | (with_reducible exact sleuthlaw25_weighted.mono _ _ _ _ _ _ _ _ _ _ _)
   | (with_reducible exact LeO.refl _)
   | (with_reducible exact LeO.none _)
   | (with_reducible refine LeO.ite ?_ ?_)
   | (with_reducible refine LeO.bind ?_ (fun _ => ?_))
   | exact ih0 _ _ _
   | exact ih1 _ _ _ _ _
   | exact ih2 _ _ _ _ _ _ _ _ _ _
   | exact estimate_By.mono _ _ _
   | exact sleuthlaw25_known.mono _
   | exact sleuthlaw25_weighted.mono _ _ _ _ _ _ _ _ _ _ _
   | exact LeO.none _
   | refine LeO.ite ?_ ?_
   | refine LeO.bind ?_ (fun _ => ?_)
def sleuthlaw25_EstimateRefines.T20 : Bool × List (List Nat × List Nat) := (true, [([], []), ([], []), ([0, 1], [0, 1]), ([2], [2]), ([3], [3]), ([4], [4]), ([], []), ([], []), ([6, 7], [6, 7]), ([8], [8]), ([9], [9]), ([10], [10]), ([5, 11], [5, 11])])
def sleuthlaw25_EstimateRefines.B20 : List Nat := [0, 0, 3, 7, 15, 31, 0, 0, 192, 448, 960, 1984, 4095]
theorem sleuthlaw25_EstimateRefines.tab20 : rtab .any (opsOf Try.f3 20) = sleuthlaw25_EstimateRefines.T20 := by kernel_rfl
theorem sleuthlaw25_EstimateRefines.bits20 : waitsOk sleuthlaw25_EstimateRefines.T20.2 sleuthlaw25_EstimateRefines.B20 = true := by kernel_rfl
def sleuthlaw25_EstimateRefines.T21 : Bool × List (List Nat × List Nat) := (true, [([], []), ([], []), ([0, 1], [0, 1]), ([2], [2]), ([3], [3]), ([4], [4]), ([], []), ([], []), ([6, 7], [6, 7]), ([8], [8]), ([9], [9]), ([10], [10]), ([5, 11], [5, 11])])
def sleuthlaw25_EstimateRefines.B21 : List Nat := [0, 0, 3, 7, 15, 31, 0, 0, 192, 448, 960, 1984, 4095]
theorem sleuthlaw25_EstimateRefines.tab21 : rtab .any (opsOf Try.f3 21) = sleuthlaw25_EstimateRefines.T21 := by kernel_rfl
theorem sleuthlaw25_EstimateRefines.bits21 : waitsOk sleuthlaw25_EstimateRefines.T21.2 sleuthlaw25_EstimateRefines.B21 = true := by kernel_rfl
def sleuthlaw25_EstimateRefines.T23 : Bool × List (List Nat × List Nat) := (true, [([], []), ([], []), ([], []), ([1, 2], [1, 2]), ([3], [3]), ([4], [4]), ([0, 5], [0, 5]), ([6, 6, 0, 1, 2, 3, 4, 5, 6], [6])])
def sleuthlaw25_EstimateRefines.B23 : List Nat := [0, 0, 0, 6, 14, 30, 63, 127]
theorem sleuthlaw25_EstimateRefines.tab23 : rtab .any (opsOf Try.f3 23) = sleuthlaw25_EstimateRefines.T23 := by kernel_rfl
theorem sleuthlaw25_EstimateRefines.bits23 : waitsOk sleuthlaw25_EstimateRefines.T23.2 sleuthlaw25_EstimateRefines.B23 = true := by kernel_rfl
set_option maxHeartbeats 8000000 in
set_option maxRecDepth 100000 in
theorem sleuthlaw25_EstimateRefines.calls (k : Nat) (A0_0 : Option Addr) (c0_0 : Nat) (l0_0 : List (S104)) (a0_1 : Int) (a0_2 : Int) (a0_3 : Int) (a0_4 : Int) (A0_5 : Option Addr) (c0_5 : Nat) (l0_5 : List (S193)) (a0_6 : Int) (a1_0 : Int) (a1_1 : Int) (a1_2 : Int) (r : Bool) (w : World) (hr0_0 : Kd.C k104 w A0_0 l0_0.length l0_0) (hc0_0 : l0_0.length ≤ c0_0) (hr0_5 : Kd.C k193 w A0_5 l0_5.length l0_5) (hc0_5 : l0_5.length ≤ c0_5) (h : sleuthlaw25_EstimateRefines.f k l0_0 a0_1 a0_2 a0_3 a0_4 l0_5 a0_6 a1_0 a1_1 a1_2 = some r) :
  Calls Try.prog 3 #[.agg #[.slice A0_0 l0_0.length c0_0, .int .i8 a0_1, .int .i8 a0_2, .int .i8 a0_3, .int .i8 a0_4, .slice A0_5 l0_5.length c0_5, .int .u8 a0_6], .agg #[.int .u8 a1_0, .int .u8 a1_1, .int .u8 a1_2]] w fun e w' => e = .returned (.bool r) ∧ Below w.heap.size w w' := by
 have hu27 := Try.underlying27
 have hu28 := Try.underlying28
 have hu37 := Try.underlying37
 have HR0_0 := Aside0.mk hr0_0
 have HC0_0 := Aside0.mk hc0_0
 clear hr0_0 hc0_0
 have HR0_5 := Aside0.mk hr0_5
 have HC0_5 := Aside0.mk hc0_5
 clear hr0_5 hc0_5
 have HB := Aside0.mk (Below.refl w.heap.size w)
 have H : ((sleuthlaw25_known.f k).bind fun t257 => (if t257 = true then ((sleuthlaw25_weighted.f k l0_0 a0_1 a0_2 a0_3 a0_4 l0_5 a0_6 a1_0 a1_1 a1_2).bind fun t258 => ((estimate_By.f k t258 1).bind fun bt261 => (if bt261.2 = 0 then (sleuthlaw25_EstimateRefines.l0 k t258 bt261.1 2) else (none)))) else (none))) = some r := h
 clear h
 replace H := Option.bind_eq_some_iff.mp H
 obtain ⟨t257, A30, H⟩ := H
 replace H : (if t257 = true then ((sleuthlaw25_weighted.f k l0_0 a0_1 a0_2 a0_3 a0_4 l0_5 a0_6 a1_0 a1_1 a1_2).bind fun t258 => ((estimate_By.f k t258 1).bind fun bt261 => (if bt261.2 = 0 then (sleuthlaw25_EstimateRefines.l0 k t258 bt261.1 2) else (none)))) else (none)) = some r := H
 have A3 := Aside0.mk A30
 clear A30
 by_cases c4 : t257 = true
 rotate_left
 ·replace c4 := Bool.eq_false_iff.mpr c4
  subst c4
  have H1 : (none) = some r := by rw [if_neg (show ¬ (false = true) by decide)] at H; exact H
  clear H
  have H := H1
  clear H1
  exact absurd H (by simp)
 subst c4
 have H1 : ((sleuthlaw25_weighted.f k l0_0 a0_1 a0_2 a0_3 a0_4 l0_5 a0_6 a1_0 a1_1 a1_2).bind fun t258 => ((estimate_By.f k t258 1).bind fun bt261 => (if bt261.2 = 0 then (sleuthlaw25_EstimateRefines.l0 k t258 bt261.1 2) else (none)))) = some r := by rw [if_pos rfl] at H; exact H
 clear H
 have H := H1
 clear H1
 replace H := Option.bind_eq_some_iff.mp H
 obtain ⟨t258, A50, H⟩ := H
 replace H : ((estimate_By.f k t258 1).bind fun bt261 => (if bt261.2 = 0 then (sleuthlaw25_EstimateRefines.l0 k t258 bt261.1 2) else (none))) = some r := H
 have A5 := Aside0.mk A50
 clear A50
 replace H := Option.bind_eq_some_iff.mp H
 obtain ⟨⟨t261, t262⟩, A60, H⟩ := H
 replace H : (if t262 = 0 then (sleuthlaw25_EstimateRefines.l0 k t258 t261 2) else (none)) = some r := H
 have A6 := Aside0.mk A60
 clear A60
 by_cases c7 : t262 = 0
 rotate_left
 ·rw [if_neg c7] at H
  have c7b0 : (t262 == 0) = false := beq_eq_false_iff_ne.mpr c7
  have c7b1 : (t262 != 0) = true := bne_iff_ne.mpr c7
  exact absurd H (by simp)
 rw [if_pos c7] at H
 have c7b0 : (t262 == 0) = true := beq_iff_eq.mpr c7
 have c7b1 : (t262 != 0) = false := bne_eq_false_iff_eq.mpr c7
 clear c7
 have H' := Aside0.mk H
 clear H
 go_enter Try.func3, Try.ntmps3
 go_wp2_with (first | ((with_reducible refine gate_dst (N := 2) rfl ?_); refine box_event ?hg (N := 2) ?hd (cs := #[.slice A0_0 l0_0.length c0_0, .int .i8 a0_1, .int .i8 a0_2, .int .i8 a0_3, .int .i8 a0_4, .slice A0_5 l0_5.length c0_5, .int .u8 a0_6]) (t := 27) ?hr ?_; (case hd => rfl); (case hg => rfl); (case hr => first | (go_simp; done) | (go_simp; rfl)); intro gb255 hg w8 hbox hb; have n0_ := Aside0.mk (below_step qgsleuthlaw25estimaterefines_11 hb); have n1_ := Aside0.mk (hbox); have n2_ := Aside0.mk ((by rw [hg]; exact (below_size qgsleuthlaw25estimaterefines_11) : w.heap.size ≤ gb255)); have n3_ := Aside0.mk ((by rw [hg]; exact (below_size qgsleuthlaw25estimaterefines_11) : w.heap.size ≤ gb255)); clear HB; have HB := n0_; have BK255 := n1_; have GW255 := n2_; have GE255 := n3_; clear n0_ n1_ n2_ n3_; clear hb hbox hg) | ((with_reducible refine gate_dst (N := 3) rfl ?_); refine box_event ?hg (N := 3) ?hd (cs := #[.int .u8 a1_0, .int .u8 a1_1, .int .u8 a1_2]) (t := 28) ?hr ?_; (case hd => rfl); (case hg => rfl); (case hr => first | (go_simp; done) | (go_simp; rfl)); intro gb256 hg w9 hbox hb; have n0_ := Aside0.mk (blk_below (g := gb255) (o := .cells #[.slice A0_0 l0_0.length c0_0, .int .i8 a0_1, .int .i8 a0_2, .int .i8 a0_3, .int .i8 a0_4, .slice A0_5 l0_5.length c0_5, .int .u8 a0_6] 27 (0, 0)) qgsleuthlaw25estimaterefines_1 hb); have n1_ := Aside0.mk (below_step qgsleuthlaw25estimaterefines_10 hb); have n2_ := Aside0.mk (hbox); have n3_ := Aside0.mk ((by rw [hg]; exact (below_size qgsleuthlaw25estimaterefines_10) : w.heap.size ≤ gb256)); have n4_ := Aside0.mk ((by rw [hg]; exact (below_size qgsleuthlaw25estimaterefines_10) : w.heap.size ≤ gb256)); have n5_ := Aside0.mk ((by rw [hg]; exact Nat.ne_of_lt (blk_lt (g := gb255) (o := .cells #[.slice A0_0 l0_0.length c0_0, .int .i8 a0_1, .int .i8 a0_2, .int .i8 a0_3, .int .i8 a0_4, .slice A0_5 l0_5.length c0_5, .int .u8 a0_6] 27 (0, 0)) qgsleuthlaw25estimaterefines_1) : gb255 ≠ gb256)); have n6_ := Aside0.mk ((by rw [hg]; exact Nat.ne_of_gt (blk_lt (g := gb255) (o := .cells #[.slice A0_0 l0_0.length c0_0, .int .i8 a0_1, .int .i8 a0_2, .int .i8 a0_3, .int .i8 a0_4, .slice A0_5 l0_5.length c0_5, .int .u8 a0_6] 27 (0, 0)) qgsleuthlaw25estimaterefines_1) : gb256 ≠ gb255)); clear BK255; clear HB; have BK255 := n0_; have HB := n1_; have BK256 := n2_; have GW256 := n3_; have GE256 := n4_; have NB255_256 := n5_; have NB256_255 := n6_; clear n0_ n1_ n2_ n3_ n4_ n5_ n6_; clear hb hbox hg) | ((with_reducible refine gate_callee (f := 12) rfl ?_); refine goesL_ (some 15) rfl rfl Try.func12 (by kernel_rfl) rfl #[] rfl qgsleuthlaw25estimaterefines_5 ?_; (with_reducible refine (sleuthlaw25_known.calls k  true _ A3.out).mono ?_); rintro e w10 ⟨rfl, hb⟩; refine ⟨_, rfl, ?_⟩; have n0_ := Aside0.mk (blk_below (g := gb255) (o := .cells #[.slice A0_0 l0_0.length c0_0, .int .i8 a0_1, .int .i8 a0_2, .int .i8 a0_3, .int .i8 a0_4, .slice A0_5 l0_5.length c0_5, .int .u8 a0_6] 27 (0, 0)) qgsleuthlaw25estimaterefines_1 hb); have n1_ := Aside0.mk (blk_below (g := gb256) (o := .cells #[.int .u8 a1_0, .int .u8 a1_1, .int .u8 a1_2] 28 (0, 0)) qgsleuthlaw25estimaterefines_2 hb); have n2_ := Aside0.mk (below_step qgsleuthlaw25estimaterefines_0 hb); clear BK255; clear BK256; clear HB; have BK255 := n0_; have BK256 := n1_; have HB := n2_; clear n0_ n1_ n2_; (try clear hb); (try clear hb2); (try clear hk); (try clear hi); have hnb11 := NB255_256.out; have hnc11 := NB256_255.out; have hcz12_0 : w10.cell? ⟨gb255, 0, none⟩ = some (.slice A0_0 l0_0.length c0_0) := (blk_cell BK255.out 0).trans rfl; have hcz12_1 : w10.cell? ⟨gb255, 1, none⟩ = some (.int .i8 a0_1) := (blk_cell BK255.out 1).trans rfl; have hcz12_2 : w10.cell? ⟨gb255, 2, none⟩ = some (.int .i8 a0_2) := (blk_cell BK255.out 2).trans rfl; have hcz12_3 : w10.cell? ⟨gb255, 3, none⟩ = some (.int .i8 a0_3) := (blk_cell BK255.out 3).trans rfl; have hcz12_4 : w10.cell? ⟨gb255, 4, none⟩ = some (.int .i8 a0_4) := (blk_cell BK255.out 4).trans rfl; have hcz12_5 : w10.cell? ⟨gb255, 5, none⟩ = some (.slice A0_5 l0_5.length c0_5) := (blk_cell BK255.out 5).trans rfl; have hcz12_6 : w10.cell? ⟨gb255, 6, none⟩ = some (.int .u8 a0_6) := (blk_cell BK255.out 6).trans rfl; have hfz12_0 := blk_frozen BK255.out 0; have hfz12_1 := blk_frozen BK255.out 1; have hfz12_2 := blk_frozen BK255.out 2; have hfz12_3 := blk_frozen BK255.out 3; have hfz12_4 := blk_frozen BK255.out 4; have hfz12_5 := blk_frozen BK255.out 5; have hfz12_6 := blk_frozen BK255.out 6; have hcz13_0 : w10.cell? ⟨gb256, 0, none⟩ = some (.int .u8 a1_0) := (blk_cell BK256.out 0).trans rfl; have hcz13_1 : w10.cell? ⟨gb256, 1, none⟩ = some (.int .u8 a1_1) := (blk_cell BK256.out 1).trans rfl; have hcz13_2 : w10.cell? ⟨gb256, 2, none⟩ = some (.int .u8 a1_2) := (blk_cell BK256.out 2).trans rfl; have hfz13_0 := blk_frozen BK256.out 0; have hfz13_1 := blk_frozen BK256.out 1; have hfz13_2 := blk_frozen BK256.out 2) | ((with_reducible refine gate_callee (f := 13) rfl ?_); refine goesL_ (some 19) rfl rfl Try.func13 (by kernel_rfl) rfl #[.agg #[.slice A0_0 l0_0.length c0_0, .int .i8 a0_1, .int .i8 a0_2, .int .i8 a0_3, .int .i8 a0_4, .slice A0_5 l0_5.length c0_5, .int .u8 a0_6], .agg #[.int .u8 a1_0, .int .u8 a1_1, .int .u8 a1_2]] rfl qgsleuthlaw25estimaterefines_5 ?_; (with_reducible refine (sleuthlaw25_weighted.calls k _ _ l0_0 a0_1 a0_2 a0_3 a0_4 _ _ l0_5 a0_6 a1_0 a1_1 a1_2 t258 _ ?side1 ?side2 ?side3 ?side4 A5.out).mono ?_); (case side1 => repeat (first | exact (Kd.C_below HR0_0.out HB.out) | (with_reducible refine Kd.C_alloc ?_ _) | (with_reducible refine Kd.C_drewN ?_ _) | (with_reducible refine Kd.C_drew ?_))); (case side2 => exact HC0_0.out); (case side3 => repeat (first | exact (Kd.C_below HR0_5.out HB.out) | (with_reducible refine Kd.C_alloc ?_ _) | (with_reducible refine Kd.C_drewN ?_ _) | (with_reducible refine Kd.C_drew ?_))); (case side4 => exact HC0_5.out); rintro e w14 ⟨v259, rfl, ho0, hb⟩; refine ⟨_, rfl, ?_⟩; have n0_ := Aside0.mk (Kd.N_lower (Kd.N_mono (ok' := fun k_ => k_ ≠ gb255 ∧ k_ ≠ gb256) (Kd.N_mono (ok' := fun k_ => True ∧ _ ≤ k_ ∧ True) ho0 (fun _ h_ => ⟨trivial, h_, trivial⟩)) (fun k_ hk_ => ⟨(Kd.freshB (g := gb255) (o := .cells #[.slice A0_0 l0_0.length c0_0, .int .i8 a0_1, .int .i8 a0_2, .int .i8 a0_3, .int .i8 a0_4, .slice A0_5 l0_5.length c0_5, .int .u8 a0_6] 27 (0, 0)) qgsleuthlaw25estimaterefines_1 k_ hk_.2.1), (Kd.freshB (g := gb256) (o := .cells #[.int .u8 a1_0, .int .u8 a1_1, .int .u8 a1_2] 28 (0, 0)) qgsleuthlaw25estimaterefines_2 k_ hk_.2.1)⟩)) (below_size qgsleuthlaw25estimaterefines_0)); have n1_ := Aside0.mk (blk_below (g := gb255) (o := .cells #[.slice A0_0 l0_0.length c0_0, .int .i8 a0_1, .int .i8 a0_2, .int .i8 a0_3, .int .i8 a0_4, .slice A0_5 l0_5.length c0_5, .int .u8 a0_6] 27 (0, 0)) qgsleuthlaw25estimaterefines_1 hb); have n2_ := Aside0.mk (blk_below (g := gb256) (o := .cells #[.int .u8 a1_0, .int .u8 a1_1, .int .u8 a1_2] 28 (0, 0)) qgsleuthlaw25estimaterefines_2 hb); have n3_ := Aside0.mk (below_step qgsleuthlaw25estimaterefines_0 hb); clear BK255; clear BK256; clear HB; have HO260 := n0_; have BK255 := n1_; have BK256 := n2_; have HB := n3_; clear n0_ n1_ n2_ n3_; (try clear hb); (try clear hb2); (try clear hk); (try clear hi); (try clear ho0); obtain ⟨Ao15, co15, eo15⟩ := Kd.N_slice HO260.out; subst eo15) | ((with_reducible refine gate_callee (f := 14) rfl ?_); refine goesL_ (some 22) rfl rfl Try.func14 (by kernel_rfl) rfl #[.slice Ao15 t258.length co15, .int .i64 1] rfl qgsleuthlaw25estimaterefines_5 ?_; (with_reducible refine (estimate_By.calls k _ _ t258 1 t261 t262 _ ?side1 ?side2 A6.out).mono ?_); (case side1 => repeat (first | exact (Kd.N_reads' HO260.out).2.2 | (with_reducible refine Kd.C_alloc ?_ _) | (with_reducible refine Kd.C_drewN ?_ _) | (with_reducible refine Kd.C_drew ?_))); (case side2 => exact (Kd.N_reads' HO260.out).2.1); rintro e w16 ⟨v263, rfl, ho0, hb⟩; refine ⟨_, rfl, ?_⟩; have n0_ := Aside0.mk (Kd.N_elder' (by (with_reducible repeat (first | apply Kd.N_alloc | apply Kd.N_drewN | apply Kd.N_drew)); exact HO260.out) (Kd.R_base ho0) hb); have n1_ := Aside0.mk (Kd.R_lower ho0 (below_size qgsleuthlaw25estimaterefines_0)); have n2_ := Aside0.mk (blk_below (g := gb255) (o := .cells #[.slice A0_0 l0_0.length c0_0, .int .i8 a0_1, .int .i8 a0_2, .int .i8 a0_3, .int .i8 a0_4, .slice A0_5 l0_5.length c0_5, .int .u8 a0_6] 27 (0, 0)) qgsleuthlaw25estimaterefines_1 hb); have n3_ := Aside0.mk (blk_below (g := gb256) (o := .cells #[.int .u8 a1_0, .int .u8 a1_1, .int .u8 a1_2] 28 (0, 0)) qgsleuthlaw25estimaterefines_2 hb); have n4_ := Aside0.mk (below_step qgsleuthlaw25estimaterefines_0 hb); clear HO260; clear BK255; clear BK256; clear HB; have HO260 := n0_; have HO264 := n1_; have BK255 := n2_; have BK256 := n3_; have HB := n4_; clear n0_ n1_ n2_ n3_ n4_; (try clear hb); (try clear hb2); (try clear hk); (try clear hi); (try clear ho0)))
 go_loopg [8] k (fun kq v8 w' => ∃ (x8_1 : Int), v8 = .int .i64 x8_1 ∧ Aside0 (sleuthlaw25_EstimateRefines.l0 kq t258 t261 x8_1 = some r) ∧ Aside0 (kq ≤ k) ∧ Aside0 (Kd.N k53 53 w' w.heap.size (fun k_ => some k_ ≠ (v263 : Value).ownBlock ∧ k_ ≠ gb255 ∧ k_ ≠ gb256) (.slice Ao15 t258.length co15) t258) ∧ Aside0 (Kd.R k41 41 w' w.heap.size (fun _ => True) v263 t261) ∧ Aside0 (w'.heap[gb255]? = some (.cells #[(.slice A0_0 l0_0.length c0_0), .int .i8 a0_1, .int .i8 a0_2, .int .i8 a0_3, .int .i8 a0_4, (.slice A0_5 l0_5.length c0_5), .int .u8 a0_6] 27 (0, 0))) ∧ Aside0 (w'.heap[gb256]? = some (.cells #[.int .u8 a1_0, .int .u8 a1_1, .int .u8 a1_2] 28 (0, 0))) ∧ Aside0 (Below w.heap.size w w'))
 case atStart => exact ⟨(2), (by first | rfl | (simp; done) | (simp [*]; done)), H', ⟨Nat.le_refl _⟩, ⟨by (with_reducible repeat (first | apply Kd.N_alloc | apply Kd.N_drewN | apply Kd.N_drew)); exact Kd.N_mono HO260.out (fun _ hk => ⟨hk.2, ⟨hk.1.1, hk.1.2⟩⟩)⟩, ⟨by (with_reducible repeat (first | apply Kd.R_alloc | apply Kd.R_drewN | apply Kd.R_drew)); exact HO264.out⟩, ⟨qgsleuthlaw25estimaterefines_1⟩, ⟨qgsleuthlaw25estimaterefines_2⟩, ⟨qgsleuthlaw25estimaterefines_0⟩⟩
 clear H'
 try clear c1
 try clear p2
 try clear c3
 try clear c4
 try clear c7
 try clear c7b0
 try clear c7b1
 try clear c11
 try clear c12
 try clear c13
 try clear c14
 try clear hcz12_0
 try clear hcz12_1
 try clear hcz12_2
 try clear hcz12_3
 try clear hcz12_4
 try clear hcz12_5
 try clear hcz12_6
 try clear hcz13_0
 try clear hcz13_1
 try clear hcz13_2
 try clear hfz12_0
 try clear hfz12_1
 try clear hfz12_2
 try clear hfz12_3
 try clear hfz12_4
 try clear hfz12_5
 try clear hfz12_6
 try clear hfz13_0
 try clear hfz13_1
 try clear hfz13_2
 obtain ⟨x8_1, rfl, HA, HK1, HO_5, HO_6, BK255, BK256, HB⟩ := hrel
 cases gk with
 | zero => exact absurd HA.out (by simp [sleuthlaw25_EstimateRefines.l0])
 | succ k1 =>
  have H := HA.out
  clear HA
  simp only [sleuthlaw25_EstimateRefines.l0] at H
  by_cases c17 : x8_1 ≤ 3
  rotate_left
  ·rw [if_neg c17] at H
   have c17b0 : decide (x8_1 ≤ 3) = false := decide_eq_false c17
   clear c17
   obtain rfl := Option.some.inj H
   go_wp2
   go_ret
   exact ⟨by first | rfl | (simp [errW_none, errW_some] <;> rfl) | (simp [*, errW_none, errW_some] <;> rfl), qgsleuthlaw25estimaterefines_0⟩
  rw [if_pos c17] at H
  have c17b0 : decide (x8_1 ≤ 3) = true := decide_eq_true c17
  clear c17
  replace H := Option.bind_eq_some_iff.mp H
  obtain ⟨⟨t265, t266⟩, A180, H⟩ := H
  replace H : (if t266 = 0 then (sleuthlaw25_EstimateRefines.l1 k1 t258 t261 x8_1 t265 0) else (none)) = some r := H
  have A18 := Aside0.mk A180
  clear A180
  by_cases c19 : t266 = 0
  rotate_left
  ·rw [if_neg c19] at H
   have c19b0 : (t266 == 0) = false := beq_eq_false_iff_ne.mpr c19
   have c19b1 : (t266 != 0) = true := bne_iff_ne.mpr c19
   exact absurd H (by simp)
  rw [if_pos c19] at H
  have c19b0 : (t266 == 0) = true := beq_iff_eq.mpr c19
  have c19b1 : (t266 != 0) = false := bne_eq_false_iff_eq.mpr c19
  clear c19
  have H' := Aside0.mk H
  clear H
  go_wp2_with (first | ((with_reducible refine gate_callee (f := 14) rfl ?_); refine goesL_ (some 34) rfl rfl Try.func14 (by kernel_rfl) rfl #[.slice Ao15 t258.length co15, .int .i64 x8_1] rfl qgsleuthlaw25estimaterefines_5 ?_; (with_reducible refine (estimate_By.calls k1 _ _ t258 x8_1 t265 t266 _ ?side1 ?side2 A18.out).mono ?_); (case side1 => repeat (first | exact (Kd.N_reads' HO_5.out).2.2 | (with_reducible refine Kd.C_alloc ?_ _) | (with_reducible refine Kd.C_drewN ?_ _) | (with_reducible refine Kd.C_drew ?_))); (case side2 => exact (Kd.N_reads' HO_5.out).2.1); rintro e w20 ⟨v267, rfl, ho0, hb⟩; refine ⟨_, rfl, ?_⟩; have n0_ := Aside0.mk (Kd.N_elder' qgsleuthlaw25estimaterefines_8 (Kd.R_base ho0) hb); have n1_ := Aside0.mk (Kd.R_elder' qgsleuthlaw25estimaterefines_4 (Kd.R_base ho0) hb); have n2_ := Aside0.mk (Kd.R_lower (Kd.R_new' ho0 (Kd.R_lt qgsleuthlaw25estimaterefines_4)) (below_size qgsleuthlaw25estimaterefines_0)); have n3_ := Aside0.mk (blk_below (g := gb255) (o := .cells #[.slice A0_0 l0_0.length c0_0, .int .i8 a0_1, .int .i8 a0_2, .int .i8 a0_3, .int .i8 a0_4, .slice A0_5 l0_5.length c0_5, .int .u8 a0_6] 27 (0, 0)) qgsleuthlaw25estimaterefines_1 hb); have n4_ := Aside0.mk (blk_below (g := gb256) (o := .cells #[.int .u8 a1_0, .int .u8 a1_1, .int .u8 a1_2] 28 (0, 0)) qgsleuthlaw25estimaterefines_2 hb); have n5_ := Aside0.mk (below_step qgsleuthlaw25estimaterefines_0 hb); clear HO_5; clear HO_6; clear BK255; clear BK256; clear HB; have HO_5 := n0_; have HO_6 := n1_; have HO268 := n2_; have BK255 := n3_; have BK256 := n4_; have HB := n5_; clear n0_ n1_ n2_ n3_ n4_ n5_; (try clear hb); (try clear hb2); (try clear hk); (try clear hi); (try clear ho0)))
  go_loopg [11] k1 (fun kq v11 w' => ∃ (x11_2 : Int), v11 = .int .i64 x11_2 ∧ Aside0 (sleuthlaw25_EstimateRefines.l1 kq t258 t261 x8_1 t265 x11_2 = some r) ∧ Aside0 (kq ≤ k1) ∧ Aside0 (Kd.N k53 53 w' w.heap.size (fun k_ => some k_ ≠ (v263 : Value).ownBlock ∧ some k_ ≠ (v267 : Value).ownBlock ∧ k_ ≠ gb255 ∧ k_ ≠ gb256) (.slice Ao15 t258.length co15) t258) ∧ Aside0 (Kd.R k41 41 w' w.heap.size (fun k_ => some k_ ≠ (v267 : Value).ownBlock) v263 t261) ∧ Aside0 (Kd.R k41 41 w' w.heap.size (fun k_ => some k_ ≠ (v263 : Value).ownBlock) v267 t265) ∧ Aside0 (w'.heap[gb255]? = some (.cells #[(.slice A0_0 l0_0.length c0_0), .int .i8 a0_1, .int .i8 a0_2, .int .i8 a0_3, .int .i8 a0_4, (.slice A0_5 l0_5.length c0_5), .int .u8 a0_6] 27 (0, 0))) ∧ Aside0 (w'.heap[gb256]? = some (.cells #[.int .u8 a1_0, .int .u8 a1_1, .int .u8 a1_2] 28 (0, 0))) ∧ Aside0 (Below w.heap.size w w'))
  case atStart => exact ⟨(0), (by first | rfl | (simp; done) | (simp [*]; done)), H', ⟨Nat.le_refl _⟩, ⟨by (with_reducible repeat (first | apply Kd.N_alloc | apply Kd.N_drewN | apply Kd.N_drew)); exact Kd.N_mono HO_5.out (fun _ hk => ⟨hk.1.1, ⟨hk.2, ⟨hk.1.2.1, hk.1.2.2⟩⟩⟩)⟩, ⟨by (with_reducible repeat (first | apply Kd.R_alloc | apply Kd.R_drewN | apply Kd.R_drew)); exact Kd.R_mono HO_6.out (fun _ hk => hk.2)⟩, ⟨by (with_reducible repeat (first | apply Kd.R_alloc | apply Kd.R_drewN | apply Kd.R_drew)); exact Kd.R_mono HO268.out (fun _ hk => hk.2)⟩, ⟨qgsleuthlaw25estimaterefines_1⟩, ⟨qgsleuthlaw25estimaterefines_2⟩, ⟨qgsleuthlaw25estimaterefines_0⟩⟩
  clear H'
  try clear c1
  try clear p2
  try clear c3
  try clear c4
  try clear c7
  try clear c7b0
  try clear c7b1
  try clear c11
  try clear c12
  try clear c13
  try clear c14
  try clear c17
  try clear c17b0
  try clear c19
  try clear c19b0
  try clear c19b1
  try clear hcz12_0
  try clear hcz12_1
  try clear hcz12_2
  try clear hcz12_3
  try clear hcz12_4
  try clear hcz12_5
  try clear hcz12_6
  try clear hcz13_0
  try clear hcz13_1
  try clear hcz13_2
  try clear hfz12_0
  try clear hfz12_1
  try clear hfz12_2
  try clear hfz12_3
  try clear hfz12_4
  try clear hfz12_5
  try clear hfz12_6
  try clear hfz13_0
  try clear hfz13_1
  try clear hfz13_2
  try clear p2
  obtain ⟨x11_2, rfl, HA, HK2, HO_5, HO_6, HO_9, BK255, BK256, HB⟩ := hrel
  cases gk with
  | zero => exact absurd HA.out (by simp [sleuthlaw25_EstimateRefines.l1])
  | succ k2 =>
   have H := HA.out
   clear HA
   simp only [sleuthlaw25_EstimateRefines.l1] at H
   by_cases c21 : x11_2 < (t261.length : Int)
   rotate_left
   ·rw [if_neg c21] at H
    have c21b0 : decide (x11_2 < (t261.length : Int)) = false := decide_eq_false c21
    clear c21
    have H' := Aside0.mk H
    clear H
    obtain ⟨Ao96, co96, eo96⟩ := Kd.R_slice HO_6.out
    subst eo96
    go_wp2
    go_roundg k2
    case measure => have := HK1.out; have := HK2.out; omega
    case rel => exact ⟨(wrap64 (x8_1 + 1)), (by first | rfl | (simp; done) | (simp [*]; done)), H', ⟨by have := HK1.out; have := HK2.out; omega⟩, ⟨by (with_reducible repeat (first | apply Kd.N_alloc | apply Kd.N_drewN | apply Kd.N_drew)); exact Kd.N_mono HO_5.out (fun _ hk => ⟨hk.1, ⟨hk.2.2.1, hk.2.2.2⟩⟩)⟩, ⟨by (with_reducible repeat (first | apply Kd.R_alloc | apply Kd.R_drewN | apply Kd.R_drew)); exact Kd.R_mono HO_6.out (fun _ hk => trivial)⟩, ⟨qgsleuthlaw25estimaterefines_1⟩, ⟨qgsleuthlaw25estimaterefines_2⟩, ⟨qgsleuthlaw25estimaterefines_0⟩⟩
   rw [if_pos c21] at H
   have c21b0 : decide (x11_2 < (t261.length : Int)) = true := decide_eq_true c21
   clear c21
   have H' := Aside0.mk H
   clear H
   obtain ⟨Ao22, co22, eo22⟩ := Kd.R_slice HO_6.out
   subst eo22
   go_wp2_with (first | ((with_reducible refine gate_dst (N := 12) rfl ?_); refine box_event ?hg (N := 12) ?hd (cs := #[.int .i64 0, .int .i64 0, .int .i64 0, .int .i64 0]) (t := 37) ?hr ?_; (case hd => rfl); (case hg => rfl); (case hr => first | (go_simp; done) | (go_simp; rfl)); intro gb269 hg w23 hbox hb; have n0_ := Aside0.mk (Kd.N_below (Kd.N_elderB qgsleuthlaw25estimaterefines_8 gb269 (Nat.le_of_eq hg.symm)) hb); have n1_ := Aside0.mk (Kd.R_below qgsleuthlaw25estimaterefines_4 hb); have n2_ := Aside0.mk (Kd.R_below qgsleuthlaw25estimaterefines_9 hb); have n3_ := Aside0.mk (blk_below (g := gb255) (o := .cells #[.slice A0_0 l0_0.length c0_0, .int .i8 a0_1, .int .i8 a0_2, .int .i8 a0_3, .int .i8 a0_4, .slice A0_5 l0_5.length c0_5, .int .u8 a0_6] 27 (0, 0)) qgsleuthlaw25estimaterefines_1 hb); have n4_ := Aside0.mk (blk_below (g := gb256) (o := .cells #[.int .u8 a1_0, .int .u8 a1_1, .int .u8 a1_2] 28 (0, 0)) qgsleuthlaw25estimaterefines_2 hb); have n5_ := Aside0.mk (below_step qgsleuthlaw25estimaterefines_0 hb); have n6_ := Aside0.mk (hbox); have n7_ := Aside0.mk ((by rw [hg]; exact (below_size qgsleuthlaw25estimaterefines_0) : w.heap.size ≤ gb269)); have n8_ := Aside0.mk ((by rw [hg]; exact (below_size qgsleuthlaw25estimaterefines_0) : w.heap.size ≤ gb269)); have n9_ := Aside0.mk ((by rw [hg]; exact Nat.ne_of_lt (blk_lt (g := gb255) (o := .cells #[.slice A0_0 l0_0.length c0_0, .int .i8 a0_1, .int .i8 a0_2, .int .i8 a0_3, .int .i8 a0_4, .slice A0_5 l0_5.length c0_5, .int .u8 a0_6] 27 (0, 0)) qgsleuthlaw25estimaterefines_1) : gb255 ≠ gb269)); have n10_ := Aside0.mk ((by rw [hg]; exact Nat.ne_of_gt (blk_lt (g := gb255) (o := .cells #[.slice A0_0 l0_0.length c0_0, .int .i8 a0_1, .int .i8 a0_2, .int .i8 a0_3, .int .i8 a0_4, .slice A0_5 l0_5.length c0_5, .int .u8 a0_6] 27 (0, 0)) qgsleuthlaw25estimaterefines_1) : gb269 ≠ gb255)); have n11_ := Aside0.mk ((by rw [hg]; exact Nat.ne_of_lt (blk_lt (g := gb256) (o := .cells #[.int .u8 a1_0, .int .u8 a1_1, .int .u8 a1_2] 28 (0, 0)) qgsleuthlaw25estimaterefines_2) : gb256 ≠ gb269)); have n12_ := Aside0.mk ((by rw [hg]; exact Nat.ne_of_gt (blk_lt (g := gb256) (o := .cells #[.int .u8 a1_0, .int .u8 a1_1, .int .u8 a1_2] 28 (0, 0)) qgsleuthlaw25estimaterefines_2) : gb269 ≠ gb256)); clear HO_5; clear HO_6; clear HO_9; clear BK255; clear BK256; clear HB; have HO_5 := n0_; have HO_6 := n1_; have HO_9 := n2_; have BK255 := n3_; have BK256 := n4_; have HB := n5_; have BK269 := n6_; have GW269 := n7_; have GE269 := n8_; have NB255_269 := n9_; have NB269_255 := n10_; have NB256_269 := n11_; have NB269_256 := n12_; clear n0_ n1_ n2_ n3_ n4_ n5_ n6_ n7_ n8_ n9_ n10_ n11_ n12_; clear hb hbox hg))
   go_loopg [13] k2 (fun kq v13 w' => ∃ (x13_3 : Int) (x270000_3 : Int) (x270001_3 : Int) (x270002_3 : Int) (x270003_3 : Int), v13 = .int .i64 x13_3 ∧ Aside0 (sleuthlaw25_EstimateRefines.l2 kq t258 t261 x8_1 t265 x11_2 x13_3 x270000_3 x270001_3 x270002_3 x270003_3 = some r) ∧ Aside0 (kq ≤ k2) ∧ Aside0 (Kd.N k53 53 w' w.heap.size (fun k_ => some k_ ≠ ((.slice Ao22 t261.length co22) : Value).ownBlock ∧ some k_ ≠ (v267 : Value).ownBlock ∧ k_ ≠ gb255 ∧ k_ ≠ gb256 ∧ k_ ≠ gb269) (.slice Ao15 t258.length co15) t258) ∧ Aside0 (Kd.R k41 41 w' w.heap.size (fun k_ => some k_ ≠ (v267 : Value).ownBlock) (.slice Ao22 t261.length co22) t261) ∧ Aside0 (Kd.R k41 41 w' w.heap.size (fun k_ => some k_ ≠ ((.slice Ao22 t261.length co22) : Value).ownBlock) v267 t265) ∧ Aside0 (w'.heap[gb255]? = some (.cells #[(.slice A0_0 l0_0.length c0_0), .int .i8 a0_1, .int .i8 a0_2, .int .i8 a0_3, .int .i8 a0_4, (.slice A0_5 l0_5.length c0_5), .int .u8 a0_6] 27 (0, 0))) ∧ Aside0 (w'.heap[gb256]? = some (.cells #[.int .u8 a1_0, .int .u8 a1_1, .int .u8 a1_2] 28 (0, 0))) ∧ Aside0 (w'.heap[gb269]? = some (.cells #[.int .i64 x270000_3, .int .i64 x270001_3, .int .i64 x270002_3, .int .i64 x270003_3] 37 (0, 0))) ∧ Aside0 (Below w.heap.size w w'))
   case atStart => exact ⟨(0), (0), (0), (0), (0), (by first | rfl | (simp; done) | (simp [*]; done)), H', ⟨Nat.le_refl _⟩, ⟨by (with_reducible repeat (first | apply Kd.N_alloc | apply Kd.N_drewN | apply Kd.N_drew)); exact Kd.N_mono HO_5.out (fun _ hk => ⟨hk.1.1, ⟨hk.1.2.1, ⟨hk.1.2.2.1, ⟨hk.1.2.2.2, hk.2⟩⟩⟩⟩)⟩, ⟨qgsleuthlaw25estimaterefines_4⟩, ⟨qgsleuthlaw25estimaterefines_9⟩, ⟨qgsleuthlaw25estimaterefines_1⟩, ⟨qgsleuthlaw25estimaterefines_2⟩, ⟨qgsleuthlaw25estimaterefines_6⟩, ⟨qgsleuthlaw25estimaterefines_3⟩⟩
   clear H'
   try clear c1
   try clear c2
   try clear p2
   try clear c3
   try clear c4
   try clear c7
   try clear c7b0
   try clear c7b1
   try clear c11
   try clear c12
   try clear c13
   try clear c14
   try clear c17
   try clear c17b0
   try clear c19
   try clear c19b0
   try clear c19b1
   try clear c21
   try clear c21b0
   try clear hcz12_0
   try clear hcz12_1
   try clear hcz12_2
   try clear hcz12_3
   try clear hcz12_4
   try clear hcz12_5
   try clear hcz12_6
   try clear hcz13_0
   try clear hcz13_1
   try clear hcz13_2
   try clear hfz12_0
   try clear hfz12_1
   try clear hfz12_2
   try clear hfz12_3
   try clear hfz12_4
   try clear hfz12_5
   try clear hfz12_6
   try clear hfz13_0
   try clear hfz13_1
   try clear hfz13_2
   try clear p2
   obtain ⟨x13_3, x270000_3, x270001_3, x270002_3, x270003_3, rfl, HA, HK3, HO_5, HO_6, HO_9, BK255, BK256, BK269, HB⟩ := hrel
   cases gk with
   | zero => exact absurd HA.out (by simp [sleuthlaw25_EstimateRefines.l2])
   | succ k3 =>
    have H := HA.out
    clear HA
    simp only [sleuthlaw25_EstimateRefines.l2] at H
    by_cases c24 : x13_3 < (t265.length : Int)
    rotate_left
    ·rw [if_neg c24] at H
     have c24b0 : decide (x13_3 < (t265.length : Int)) = false := decide_eq_false c24
     clear c24
     by_cases c45 : 0 ≤ x11_2
     rotate_left
     ·rw [if_neg c45] at H
      exact absurd H (by simp)
     rw [if_pos c45] at H
     have c45b0 : decide (0 ≤ x11_2) = true := decide_eq_true c45
     clear c45
     by_cases c46 : x11_2 < (t261.length : Int)
     rotate_left
     ·rw [if_neg c46] at H
      exact absurd H (by simp)
     rw [if_pos c46] at H
     have c46b0 : decide (x11_2 < (t261.length : Int)) = true := decide_eq_true c46
     clear c46
     by_cases c47 : x270000_3 = ((rd_T41 t261 x11_2).f1.f0)
     rotate_left
     ·rw [if_neg c47] at H
      have c47b0 : (x270000_3 == ((rd_T41 t261 x11_2).f1.f0)) = false := beq_eq_false_iff_ne.mpr c47
      have c47b1 : (x270000_3 != ((rd_T41 t261 x11_2).f1.f0)) = true := bne_iff_ne.mpr c47
      exact absurd H (by simp)
     rw [if_pos c47] at H
     have c47b0 : (x270000_3 == ((rd_T41 t261 x11_2).f1.f0)) = true := beq_iff_eq.mpr c47
     have c47b1 : (x270000_3 != ((rd_T41 t261 x11_2).f1.f0)) = false := bne_eq_false_iff_eq.mpr c47
     clear c47
     by_cases c48 : x270001_3 = ((rd_T41 t261 x11_2).f1.f1)
     rotate_left
     ·rw [if_neg c48] at H
      have c48b0 : (x270001_3 == ((rd_T41 t261 x11_2).f1.f1)) = false := beq_eq_false_iff_ne.mpr c48
      have c48b1 : (x270001_3 != ((rd_T41 t261 x11_2).f1.f1)) = true := bne_iff_ne.mpr c48
      exact absurd H (by simp)
     rw [if_pos c48] at H
     have c48b0 : (x270001_3 == ((rd_T41 t261 x11_2).f1.f1)) = true := beq_iff_eq.mpr c48
     have c48b1 : (x270001_3 != ((rd_T41 t261 x11_2).f1.f1)) = false := bne_eq_false_iff_eq.mpr c48
     clear c48
     by_cases c49 : x270002_3 = ((rd_T41 t261 x11_2).f1.f2)
     rotate_left
     ·rw [if_neg c49] at H
      have c49b0 : (x270002_3 == ((rd_T41 t261 x11_2).f1.f2)) = false := beq_eq_false_iff_ne.mpr c49
      have c49b1 : (x270002_3 != ((rd_T41 t261 x11_2).f1.f2)) = true := bne_iff_ne.mpr c49
      exact absurd H (by simp)
     rw [if_pos c49] at H
     have c49b0 : (x270002_3 == ((rd_T41 t261 x11_2).f1.f2)) = true := beq_iff_eq.mpr c49
     have c49b1 : (x270002_3 != ((rd_T41 t261 x11_2).f1.f2)) = false := bne_eq_false_iff_eq.mpr c49
     clear c49
     by_cases c50 : ((rd_T41 t261 x11_2).f1.f3) > x270003_3
     ·rw [if_pos c50] at H
      have c50b0 : decide (x270003_3 < ((rd_T41 t261 x11_2).f1.f3)) = true := decide_eq_true c50
      clear c50
      exact absurd H (by simp)
     rw [if_neg c50] at H
     have c50b0 : decide (x270003_3 < ((rd_T41 t261 x11_2).f1.f3)) = false := decide_eq_false c50
     clear c50
     have H' := Aside0.mk H
     clear H
     obtain ⟨Ao60, co60, eo60⟩ := Kd.R_slice HO_9.out
     subst eo60
     have p270 : 0 ≤ (x11_2 : Int) := of_decide_eq_true qgsleuthlaw25estimaterefines_7
     have q270 : x11_2 < (t261.length : Int) := of_decide_eq_true qgsleuthlaw25estimaterefines_7
     obtain ⟨ad270, e270, hx270_0, hx270_1, hx270_2, hx270_3, hx270_4, hx270_5, hx270_6⟩ := at_T41 (Kd.R_reads' HO_6.out).2.2 x11_2 p270 q270
     cases e270
     replace p270 := eq_true p270
     replace q270 := eq_true q270
     go_wp2_with (first | ((with_reducible refine gate_dst (N := 14) rfl ?_); refine box_event ?hg (N := 14) ?hd (cs := #[.int .i64 0, .int .i64 0, .int .i64 0, .int .i64 0]) (t := 37) ?hr ?_; (case hd => rfl); (case hg => rfl); (case hr => first | (go_simp; done) | (go_simp; rfl)); intro gb271 hg w61 hbox hb; have n0_ := Aside0.mk (Kd.N_below (Kd.N_elderB qgsleuthlaw25estimaterefines_8 gb271 (Nat.le_of_eq hg.symm)) hb); have n1_ := Aside0.mk (Kd.R_below qgsleuthlaw25estimaterefines_4 hb); have n2_ := Aside0.mk (Kd.R_below qgsleuthlaw25estimaterefines_9 hb); have n3_ := Aside0.mk (blk_below (g := gb255) (o := .cells #[.slice A0_0 l0_0.length c0_0, .int .i8 a0_1, .int .i8 a0_2, .int .i8 a0_3, .int .i8 a0_4, .slice A0_5 l0_5.length c0_5, .int .u8 a0_6] 27 (0, 0)) qgsleuthlaw25estimaterefines_1 hb); have n4_ := Aside0.mk (blk_below (g := gb256) (o := .cells #[.int .u8 a1_0, .int .u8 a1_1, .int .u8 a1_2] 28 (0, 0)) qgsleuthlaw25estimaterefines_2 hb); have n5_ := Aside0.mk (blk_below (g := gb269) (o := .cells #[.int .i64 x270000_3, .int .i64 x270001_3, .int .i64 x270002_3, .int .i64 x270003_3] 37 (0, 0)) qgsleuthlaw25estimaterefines_6 hb); have n6_ := Aside0.mk (below_step qgsleuthlaw25estimaterefines_3 hb); have n7_ := Aside0.mk (hbox); have n8_ := Aside0.mk ((by rw [hg]; exact (below_size qgsleuthlaw25estimaterefines_3) : w.heap.size ≤ gb271)); have n9_ := Aside0.mk ((by rw [hg]; exact (below_size qgsleuthlaw25estimaterefines_3) : w.heap.size ≤ gb271)); have n10_ := Aside0.mk ((by rw [hg]; exact Nat.ne_of_lt (blk_lt (g := gb255) (o := .cells #[.slice A0_0 l0_0.length c0_0, .int .i8 a0_1, .int .i8 a0_2, .int .i8 a0_3, .int .i8 a0_4, .slice A0_5 l0_5.length c0_5, .int .u8 a0_6] 27 (0, 0)) qgsleuthlaw25estimaterefines_1) : gb255 ≠ gb271)); have n11_ := Aside0.mk ((by rw [hg]; exact Nat.ne_of_gt (blk_lt (g := gb255) (o := .cells #[.slice A0_0 l0_0.length c0_0, .int .i8 a0_1, .int .i8 a0_2, .int .i8 a0_3, .int .i8 a0_4, .slice A0_5 l0_5.length c0_5, .int .u8 a0_6] 27 (0, 0)) qgsleuthlaw25estimaterefines_1) : gb271 ≠ gb255)); have n12_ := Aside0.mk ((by rw [hg]; exact Nat.ne_of_lt (blk_lt (g := gb256) (o := .cells #[.int .u8 a1_0, .int .u8 a1_1, .int .u8 a1_2] 28 (0, 0)) qgsleuthlaw25estimaterefines_2) : gb256 ≠ gb271)); have n13_ := Aside0.mk ((by rw [hg]; exact Nat.ne_of_gt (blk_lt (g := gb256) (o := .cells #[.int .u8 a1_0, .int .u8 a1_1, .int .u8 a1_2] 28 (0, 0)) qgsleuthlaw25estimaterefines_2) : gb271 ≠ gb256)); have n14_ := Aside0.mk ((by rw [hg]; exact Nat.ne_of_lt (blk_lt (g := gb269) (o := .cells #[.int .i64 x270000_3, .int .i64 x270001_3, .int .i64 x270002_3, .int .i64 x270003_3] 37 (0, 0)) qgsleuthlaw25estimaterefines_6) : gb269 ≠ gb271)); have n15_ := Aside0.mk ((by rw [hg]; exact Nat.ne_of_gt (blk_lt (g := gb269) (o := .cells #[.int .i64 x270000_3, .int .i64 x270001_3, .int .i64 x270002_3, .int .i64 x270003_3] 37 (0, 0)) qgsleuthlaw25estimaterefines_6) : gb271 ≠ gb269)); clear HO_5; clear HO_6; clear HO_9; clear BK255; clear BK256; clear BK269; clear HB; have HO_5 := n0_; have HO_6 := n1_; have HO_9 := n2_; have BK255 := n3_; have BK256 := n4_; have BK269 := n5_; have HB := n6_; have BK271 := n7_; have GW271 := n8_; have GE271 := n9_; have NB255_271 := n10_; have NB271_255 := n11_; have NB256_271 := n12_; have NB271_256 := n13_; have NB269_271 := n14_; have NB271_269 := n15_; clear n0_ n1_ n2_ n3_ n4_ n5_ n6_ n7_ n8_ n9_ n10_ n11_ n12_ n13_ n14_ n15_; clear hb hbox hg; have hnb62 := NB271_255.out; have hnc62 := NB255_271.out; have hnb63 := NB271_256.out; have hnc63 := NB256_271.out; have hnb64 := NB271_269.out; have hnc64 := NB269_271.out; have hcz65_0 : w61.cell? ⟨gb271, 0, none⟩ = some (.int .i64 0) := (blk_cell BK271.out 0).trans rfl; have hcz65_1 : w61.cell? ⟨gb271, 1, none⟩ = some (.int .i64 0) := (blk_cell BK271.out 1).trans rfl; have hcz65_2 : w61.cell? ⟨gb271, 2, none⟩ = some (.int .i64 0) := (blk_cell BK271.out 2).trans rfl; have hcz65_3 : w61.cell? ⟨gb271, 3, none⟩ = some (.int .i64 0) := (blk_cell BK271.out 3).trans rfl; have hfz65_0 := blk_frozen BK271.out 0; have hfz65_1 := blk_frozen BK271.out 1; have hfz65_2 := blk_frozen BK271.out 2; have hfz65_3 := blk_frozen BK271.out 3; have hnb66 := NB269_255.out; have hnc66 := NB255_269.out; have hnb67 := NB269_256.out; have hnc67 := NB256_269.out; have hcz68_0 : w61.cell? ⟨gb269, 0, none⟩ = some (.int .i64 x270000_3) := (blk_cell BK269.out 0).trans rfl; have hcz68_1 : w61.cell? ⟨gb269, 1, none⟩ = some (.int .i64 x270001_3) := (blk_cell BK269.out 1).trans rfl; have hcz68_2 : w61.cell? ⟨gb269, 2, none⟩ = some (.int .i64 x270002_3) := (blk_cell BK269.out 2).trans rfl; have hcz68_3 : w61.cell? ⟨gb269, 3, none⟩ = some (.int .i64 x270003_3) := (blk_cell BK269.out 3).trans rfl; have hfz68_0 := blk_frozen BK269.out 0; have hfz68_1 := blk_frozen BK269.out 1; have hfz68_2 := blk_frozen BK269.out 2; have hfz68_3 := blk_frozen BK269.out 3))
     go_roundg k3
     case measure => have := HK1.out; have := HK2.out; have := HK3.out; omega
     case rel => exact ⟨(wrap64 (x11_2 + 1)), (by first | rfl | (simp; done) | (simp [*]; done)), H', ⟨by have := HK1.out; have := HK2.out; have := HK3.out; omega⟩, ⟨by (with_reducible repeat (first | apply Kd.N_alloc | apply Kd.N_drewN | apply Kd.N_drew)); exact Kd.N_mono (Kd.N_far (p := ⟨gb271, 3, none⟩) (Kd.N_far (p := ⟨gb271, 2, none⟩) (Kd.N_far (p := ⟨gb271, 1, none⟩) (Kd.N_far (p := ⟨gb271, 0, none⟩) (Kd.N_mono HO_5.out (fun k_ hk => (⟨hk, hk.2⟩ : _ ∧ k_ ≠ gb271))) (fun _ hk => hk.2) (.int .i64 ((rd_T41 t261 x11_2).f1.f0))) (fun _ hk => hk.2) (.int .i64 ((rd_T41 t261 x11_2).f1.f1))) (fun _ hk => hk.2) (.int .i64 ((rd_T41 t261 x11_2).f1.f2))) (fun _ hk => hk.2) (.int .i64 ((rd_T41 t261 x11_2).f1.f3))) (fun _ hk => ⟨hk.1.1.1, ⟨hk.1.1.2.1, ⟨hk.1.1.2.2.1, hk.1.1.2.2.2.1⟩⟩⟩)⟩, ⟨by (with_reducible repeat (first | apply Kd.R_alloc | apply Kd.R_drewN | apply Kd.R_drew)); exact Kd.R_mono (Kd.R_far (p := ⟨gb271, 3, none⟩) (Kd.R_far (p := ⟨gb271, 2, none⟩) (Kd.R_far (p := ⟨gb271, 1, none⟩) (Kd.R_far (p := ⟨gb271, 0, none⟩) (Kd.R_types HO_6.out BK271.out (by decide)) (fun _ hk => hk.2) (.int .i64 ((rd_T41 t261 x11_2).f1.f0))) (fun _ hk => hk.2) (.int .i64 ((rd_T41 t261 x11_2).f1.f1))) (fun _ hk => hk.2) (.int .i64 ((rd_T41 t261 x11_2).f1.f2))) (fun _ hk => hk.2) (.int .i64 ((rd_T41 t261 x11_2).f1.f3))) (fun _ hk => hk.1)⟩, ⟨by (with_reducible repeat (first | apply Kd.R_alloc | apply Kd.R_drewN | apply Kd.R_drew)); exact Kd.R_mono (Kd.R_far (p := ⟨gb271, 3, none⟩) (Kd.R_far (p := ⟨gb271, 2, none⟩) (Kd.R_far (p := ⟨gb271, 1, none⟩) (Kd.R_far (p := ⟨gb271, 0, none⟩) (Kd.R_types HO_9.out BK271.out (by decide)) (fun _ hk => hk.2) (.int .i64 ((rd_T41 t261 x11_2).f1.f0))) (fun _ hk => hk.2) (.int .i64 ((rd_T41 t261 x11_2).f1.f1))) (fun _ hk => hk.2) (.int .i64 ((rd_T41 t261 x11_2).f1.f2))) (fun _ hk => hk.2) (.int .i64 ((rd_T41 t261 x11_2).f1.f3))) (fun _ hk => hk.1)⟩, ⟨by (with_reducible repeat (first | refine blk_drewN ?_ _ | refine blk_drew ?_ | refine blk_alloc ?_ _)); refine blk_far ?_ NB255_271.out _; (with_reducible repeat (first | refine blk_drewN ?_ _ | refine blk_drew ?_ | refine blk_alloc ?_ _)); refine blk_far ?_ NB255_271.out _; (with_reducible repeat (first | refine blk_drewN ?_ _ | refine blk_drew ?_ | refine blk_alloc ?_ _)); refine blk_far ?_ NB255_271.out _; (with_reducible repeat (first | refine blk_drewN ?_ _ | refine blk_drew ?_ | refine blk_alloc ?_ _)); refine blk_far ?_ NB255_271.out _; (with_reducible repeat (first | refine blk_drewN ?_ _ | refine blk_drew ?_ | refine blk_alloc ?_ _)); exact BK255.out⟩, ⟨by (with_reducible repeat (first | refine blk_drewN ?_ _ | refine blk_drew ?_ | refine blk_alloc ?_ _)); refine blk_far ?_ NB256_271.out _; (with_reducible repeat (first | refine blk_drewN ?_ _ | refine blk_drew ?_ | refine blk_alloc ?_ _)); refine blk_far ?_ NB256_271.out _; (with_reducible repeat (first | refine blk_drewN ?_ _ | refine blk_drew ?_ | refine blk_alloc ?_ _)); refine blk_far ?_ NB256_271.out _; (with_reducible repeat (first | refine blk_drewN ?_ _ | refine blk_drew ?_ | refine blk_alloc ?_ _)); refine blk_far ?_ NB256_271.out _; (with_reducible repeat (first | refine blk_drewN ?_ _ | refine blk_drew ?_ | refine blk_alloc ?_ _)); exact BK256.out⟩, ⟨by repeat (first | (with_reducible first | exact HB.out | apply below_alloc | apply pw_below_drewN | apply below_drew1 | refine below_set ?_ GE255.out | refine below_set ?_ GE256.out | refine below_set ?_ GE269.out | refine below_set ?_ GE271.out) | exact HB.out)⟩⟩
    rw [if_pos c24] at H
    have c24b0 : decide (x13_3 < (t265.length : Int)) = true := decide_eq_true c24
    clear c24
    by_cases c25 : 0 ≤ x13_3
    rotate_left
    ·rw [if_neg c25] at H
     exact absurd H (by simp)
    rw [if_pos c25] at H
    have c25b0 : decide (0 ≤ x13_3) = true := decide_eq_true c25
    clear c25
    by_cases c26 : 0 ≤ x11_2
    rotate_left
    ·rw [if_neg c26] at H
     exact absurd H (by simp)
    rw [if_pos c26] at H
    have c26b0 : decide (0 ≤ x11_2) = true := decide_eq_true c26
    clear c26
    by_cases c27 : x11_2 < (t261.length : Int)
    rotate_left
    ·rw [if_neg c27] at H
     exact absurd H (by simp)
    rw [if_pos c27] at H
    have c27b0 : decide (x11_2 < (t261.length : Int)) = true := decide_eq_true c27
    clear c27
    by_cases c28 : ((rd_T41 t265 x13_3).f0.f0).toList = ((rd_T41 t261 x11_2).f0.f0).toList
    rotate_left
    ·rw [if_neg c28] at H
     have c28b0 : (((rd_T41 t265 x13_3).f0.f0).toList == ((rd_T41 t261 x11_2).f0.f0).toList) = false := beq_eq_false_iff_ne.mpr c28
     have c28b1 : (((rd_T41 t265 x13_3).f0.f0).toList != ((rd_T41 t261 x11_2).f0.f0).toList) = true := bne_iff_ne.mpr c28
     have H' := Aside0.mk H
     clear H
     obtain ⟨Ao43, co43, eo43⟩ := Kd.R_slice HO_9.out
     subst eo43
     try go_wp2
     have n0_ := Aside0.mk (Kd.N_drew HO_5.out)
     have n1_ := Aside0.mk (Kd.R_drew HO_6.out)
     have n2_ := Aside0.mk (Kd.R_drew HO_9.out)
     have n3_ := Aside0.mk (blk_drew BK255.out)
     have n4_ := Aside0.mk (blk_drew BK256.out)
     have n5_ := Aside0.mk (blk_drew BK269.out)
     have n6_ := Aside0.mk (below_drew1 HB.out)
     clear HO_5
     clear HO_6
     clear HO_9
     clear BK255
     clear BK256
     clear BK269
     clear HB
     have HO_5 := n0_
     have HO_6 := n1_
     have HO_9 := n2_
     have BK255 := n3_
     have BK256 := n4_
     have BK269 := n5_
     have HB := n6_
     clear n0_ n1_ n2_ n3_ n4_ n5_ n6_
     have p272 : 0 ≤ (x13_3 : Int) := of_decide_eq_true qgsleuthlaw25estimaterefines_7
     have q272 : x13_3 < (t265.length : Int) := of_decide_eq_true qgsleuthlaw25estimaterefines_7
     obtain ⟨ad272, e272, hx272_0, hx272_1, hx272_2, hx272_3, hx272_4, hx272_5, hx272_6⟩ := at_T41 (Kd.R_reads' HO_9.out).2.2 x13_3 p272 q272
     cases e272
     replace p272 := eq_true p272
     replace q272 := eq_true q272
     have p273 : 0 ≤ (x11_2 : Int) := of_decide_eq_true qgsleuthlaw25estimaterefines_7
     have q273 : x11_2 < (t261.length : Int) := of_decide_eq_true qgsleuthlaw25estimaterefines_7
     obtain ⟨ad273, e273, hx273_0, hx273_1, hx273_2, hx273_3, hx273_4, hx273_5, hx273_6⟩ := at_T41 (Kd.R_reads' HO_6.out).2.2 x11_2 p273 q273
     cases e273
     replace p273 := eq_true p273
     replace q273 := eq_true q273
     refine start_ (n := 13) (S := fun w' => w'.cell? (ad272.add ((x13_3).toNat * 7)) = some (.string ((rd_T41 t265 x13_3).f0.f0)) ∧ w'.cell? ⟨(ad272.add ((x13_3).toNat * 7)).block, (ad272.add ((x13_3).toNat * 7)).off + 1, none⟩ = some (.string ((rd_T41 t265 x13_3).f0.f1)) ∧ w'.cell? ⟨(ad272.add ((x13_3).toNat * 7)).block, (ad272.add ((x13_3).toNat * 7)).off + 2, none⟩ = some (.string ((rd_T41 t265 x13_3).f0.f2)) ∧ w'.cell? ⟨(ad272.add ((x13_3).toNat * 7)).block, (ad272.add ((x13_3).toNat * 7)).off + 3, none⟩ = some (.int .i64 ((rd_T41 t265 x13_3).f1.f0)) ∧ w'.cell? ⟨(ad272.add ((x13_3).toNat * 7)).block, (ad272.add ((x13_3).toNat * 7)).off + 4, none⟩ = some (.int .i64 ((rd_T41 t265 x13_3).f1.f1)) ∧ w'.cell? ⟨(ad272.add ((x13_3).toNat * 7)).block, (ad272.add ((x13_3).toNat * 7)).off + 5, none⟩ = some (.int .i64 ((rd_T41 t265 x13_3).f1.f2)) ∧ w'.cell? ⟨(ad272.add ((x13_3).toNat * 7)).block, (ad272.add ((x13_3).toNat * 7)).off + 6, none⟩ = some (.int .i64 ((rd_T41 t265 x13_3).f1.f3)) ∧ w'.cell? (ad273.add ((x11_2).toNat * 7)) = some (.string ((rd_T41 t261 x11_2).f0.f0)) ∧ w'.cell? ⟨(ad273.add ((x11_2).toNat * 7)).block, (ad273.add ((x11_2).toNat * 7)).off + 1, none⟩ = some (.string ((rd_T41 t261 x11_2).f0.f1)) ∧ w'.cell? ⟨(ad273.add ((x11_2).toNat * 7)).block, (ad273.add ((x11_2).toNat * 7)).off + 2, none⟩ = some (.string ((rd_T41 t261 x11_2).f0.f2)) ∧ w'.cell? ⟨(ad273.add ((x11_2).toNat * 7)).block, (ad273.add ((x11_2).toNat * 7)).off + 3, none⟩ = some (.int .i64 ((rd_T41 t261 x11_2).f1.f0)) ∧ w'.cell? ⟨(ad273.add ((x11_2).toNat * 7)).block, (ad273.add ((x11_2).toNat * 7)).off + 4, none⟩ = some (.int .i64 ((rd_T41 t261 x11_2).f1.f1)) ∧ w'.cell? ⟨(ad273.add ((x11_2).toNat * 7)).block, (ad273.add ((x11_2).toNat * 7)).off + 5, none⟩ = some (.int .i64 ((rd_T41 t261 x11_2).f1.f2)) ∧ w'.cell? ⟨(ad273.add ((x11_2).toNat * 7)).block, (ad273.add ((x11_2).toNat * 7)).off + 6, none⟩ = some (.int .i64 ((rd_T41 t261 x11_2).f1.f3))) (ds := []) #[F19516, F19516, F19516, F19516, F19516, F19516, F19516, F19516, F19516, F19516, F19516, F19516, F19516] (by kernel_rfl) rfl rfl ⟨hx272_0, hx272_1, hx272_2, hx272_3, hx272_4, hx272_5, hx272_6, hx273_0, hx273_1, hx273_2, hx273_3, hx273_4, hx273_5, hx273_6⟩ (fun hHeld => ?_); refine with_tabW sleuthlaw25_EstimateRefines.tab20 sleuthlaw25_EstimateRefines.bits20 (fun HT_ HW_ => ?_)
     generalize wr.drew = w44 at HO_5 HO_6 HO_9 BK255 BK256 BK269 HB hx272_0 hx272_1 hx272_2 hx272_3 hx272_4 hx272_5 hx272_6 hx273_0 hx273_1 hx273_2 hx273_3 hx273_4 hx273_5 hx273_6 hHeld ⊢
     refine pure_ (i := 0) (N := some 51) (v := ?_) (a' := ?_) #[T19516, F19516, F19516, F19516, F19516, F19516, F19516, F19516, F19516, F19516, F19516, F19516, F19516] rfl rfl (any_of HT_.out (by kernel_rfl)) (fun _ _ _ h => h) (Or.inl ⟨by rfl, ?_⟩) ?_ ?_
     rotate_left
     ·intro w'
      go_simp
      with_reducible rfl
     rotate_left
     ·simp only [Act.put, List.setIfInBounds_toArray, List.set_cons_zero, List.set_cons_succ, i64_w, i32_w]
      rfl
     refine pure_ (i := 1) (N := some 52) (v := ?_) (a' := ?_) #[T19516, T19516, F19516, F19516, F19516, F19516, F19516, F19516, F19516, F19516, F19516, F19516, F19516] rfl rfl (any_of HT_.out (by kernel_rfl)) (fun _ _ _ h => h) (Or.inl ⟨by rfl, ?_⟩) ?_ ?_
     rotate_left
     ·intro w'
      go_simp
      with_reducible rfl
     rotate_left
     ·simp only [Act.put, List.setIfInBounds_toArray, List.set_cons_zero, List.set_cons_succ, i64_w, i32_w]
      rfl
     refine pure_ (i := 2) (N := some 53) (v := ?_) (a' := ?_) #[T19516, T19516, T19516, F19516, F19516, F19516, F19516, F19516, F19516, F19516, F19516, F19516, F19516] rfl rfl (any_of HT_.out (by kernel_rfl)) (fun _ _ _ h => h) (Or.inl ⟨by rfl, ?_⟩) ?_ ?_
     rotate_left
     ·intro w'
      go_simp
      with_reducible rfl
     rotate_left
     ·simp only [Act.put, List.setIfInBounds_toArray, List.set_cons_zero, List.set_cons_succ, i64_w, i32_w]
      rfl
     refine pure_ (i := 3) (N := some 54) (v := ?_) (a' := ?_) #[T19516, T19516, T19516, T19516, F19516, F19516, F19516, F19516, F19516, F19516, F19516, F19516, F19516] rfl rfl (any_of HT_.out (by kernel_rfl)) (fun _ _ _ h => h) (Or.inl ⟨by rfl, ?_⟩) ?_ ?_
     rotate_left
     ·intro w'
      go_simp
      with_reducible rfl
     rotate_left
     ·simp only [Act.put, List.setIfInBounds_toArray, List.set_cons_zero, List.set_cons_succ, i64_w, i32_w]
      rfl
     refine pure_ (i := 4) (N := some 55) (v := ?_) (a' := ?_) #[T19516, T19516, T19516, T19516, T19516, F19516, F19516, F19516, F19516, F19516, F19516, F19516, F19516] rfl rfl (any_of HT_.out (by kernel_rfl)) (fun _ _ _ h => h) (Or.inl ⟨by rfl, ?_⟩) ?_ ?_
     rotate_left
     ·intro w'
      go_simp
      with_reducible rfl
     rotate_left
     ·simp only [Act.put, List.setIfInBounds_toArray, List.set_cons_zero, List.set_cons_succ, i64_w, i32_w]
      rfl
     refine pure_ (i := 6) (N := some 57) (v := ?_) (a' := ?_) #[T19516, T19516, T19516, T19516, T19516, F19516, T19516, F19516, F19516, F19516, F19516, F19516, F19516] rfl rfl (any_of HT_.out (by kernel_rfl)) (fun _ _ _ h => h) (Or.inl ⟨by rfl, ?_⟩) ?_ ?_
     rotate_left
     ·intro w'
      go_simp
      with_reducible rfl
     rotate_left
     ·simp only [Act.put, List.setIfInBounds_toArray, List.set_cons_zero, List.set_cons_succ, i64_w, i32_w]
      rfl
     refine pure_ (i := 7) (N := some 58) (v := ?_) (a' := ?_) #[T19516, T19516, T19516, T19516, T19516, F19516, T19516, T19516, F19516, F19516, F19516, F19516, F19516] rfl rfl (any_of HT_.out (by kernel_rfl)) (fun _ _ _ h => h) (Or.inl ⟨by rfl, ?_⟩) ?_ ?_
     rotate_left
     ·intro w'
      go_simp
      with_reducible rfl
     rotate_left
     ·simp only [Act.put, List.setIfInBounds_toArray, List.set_cons_zero, List.set_cons_succ, i64_w, i32_w]
      rfl
     refine pure_ (i := 8) (N := some 59) (v := ?_) (a' := ?_) #[T19516, T19516, T19516, T19516, T19516, F19516, T19516, T19516, T19516, F19516, F19516, F19516, F19516] rfl rfl (any_of HT_.out (by kernel_rfl)) (fun _ _ _ h => h) (Or.inl ⟨by rfl, ?_⟩) ?_ ?_
     rotate_left
     ·intro w'
      go_simp
      with_reducible rfl
     rotate_left
     ·simp only [Act.put, List.setIfInBounds_toArray, List.set_cons_zero, List.set_cons_succ, i64_w, i32_w]
      rfl
     refine pure_ (i := 9) (N := some 60) (v := ?_) (a' := ?_) #[T19516, T19516, T19516, T19516, T19516, F19516, T19516, T19516, T19516, T19516, F19516, F19516, F19516] rfl rfl (any_of HT_.out (by kernel_rfl)) (fun _ _ _ h => h) (Or.inl ⟨by rfl, ?_⟩) ?_ ?_
     rotate_left
     ·intro w'
      go_simp
      with_reducible rfl
     rotate_left
     ·simp only [Act.put, List.setIfInBounds_toArray, List.set_cons_zero, List.set_cons_succ, i64_w, i32_w]
      rfl
     refine pure_ (i := 10) (N := some 61) (v := ?_) (a' := ?_) #[T19516, T19516, T19516, T19516, T19516, F19516, T19516, T19516, T19516, T19516, T19516, F19516, F19516] rfl rfl (any_of HT_.out (by kernel_rfl)) (fun _ _ _ h => h) (Or.inl ⟨by rfl, ?_⟩) ?_ ?_
     rotate_left
     ·intro w'
      go_simp
      with_reducible rfl
     rotate_left
     ·simp only [Act.put, List.setIfInBounds_toArray, List.set_cons_zero, List.set_cons_succ, i64_w, i32_w]
      rfl
     refine take_ (i := 5) (N := some 56) (v := ?_) (a' := ?_) #[T19516, T19516, T19516, T19516, T19516, T19516, T19516, T19516, T19516, T19516, T19516, F19516, F19516] rfl rfl (take_ofW HT_.out HW_.out (by kernel_rfl)) (fun _ _ _ h => h) (Or.inl ⟨by rfl, ?_⟩) hHeld ?_ ?_
     rotate_left
     ·rintro w' ⟨s0, s1, s2, s3, s4, s5, s6, s7, s8, s9, s10, s11, s12, s13⟩
      go_simp
      with_reducible rfl
     rotate_left
     ·simp only [Act.put, List.setIfInBounds_toArray, List.set_cons_zero, List.set_cons_succ, i64_w, i32_w]
      rfl
     refine take_ (i := 11) (N := some 62) (v := ?_) (a' := ?_) #[T19516, T19516, T19516, T19516, T19516, T19516, T19516, T19516, T19516, T19516, T19516, T19516, F19516] rfl rfl (take_ofW HT_.out HW_.out (by kernel_rfl)) (fun _ _ _ h => h) (Or.inl ⟨by rfl, ?_⟩) hHeld ?_ ?_
     rotate_left
     ·rintro w' ⟨s0, s1, s2, s3, s4, s5, s6, s7, s8, s9, s10, s11, s12, s13⟩
      go_simp
      with_reducible rfl
     rotate_left
     ·simp only [Act.put, List.setIfInBounds_toArray, List.set_cons_zero, List.set_cons_succ, i64_w, i32_w]
      rfl
     refine pure_ (i := 12) (N := some 63) (v := ?_) (a' := ?_) #[T19516, T19516, T19516, T19516, T19516, T19516, T19516, T19516, T19516, T19516, T19516, T19516, T19516] rfl rfl (any_of HT_.out (by kernel_rfl)) (fun _ _ _ h => h) (Or.inl ⟨by rfl, ?_⟩) ?_ ?_
     rotate_left
     ·intro w'
      go_simp
      with_reducible rfl
     rotate_left
     ·simp only [Act.put, List.setIfInBounds_toArray, List.set_cons_zero, List.set_cons_succ, i64_w, i32_w]
      rfl
     refine done_ (done_of HT_.out (by kernel_rfl)) ?_
     try go_wp2
     go_roundg k3
     case measure => have := HK1.out; have := HK2.out; have := HK3.out; omega
     case rel => exact ⟨(wrap64 (x13_3 + 1)), (x270000_3), (x270001_3), (x270002_3), (x270003_3), (by first | rfl | (simp; done) | (simp [*]; done)), H', ⟨by have := HK1.out; have := HK2.out; have := HK3.out; omega⟩, ⟨qgsleuthlaw25estimaterefines_8⟩, ⟨qgsleuthlaw25estimaterefines_4⟩, ⟨qgsleuthlaw25estimaterefines_9⟩, ⟨qgsleuthlaw25estimaterefines_1⟩, ⟨qgsleuthlaw25estimaterefines_2⟩, ⟨qgsleuthlaw25estimaterefines_6⟩, ⟨qgsleuthlaw25estimaterefines_3⟩⟩
    rw [if_pos c28] at H
    have c28b0 : (((rd_T41 t265 x13_3).f0.f0).toList == ((rd_T41 t261 x11_2).f0.f0).toList) = true := beq_iff_eq.mpr c28
    have c28b1 : (((rd_T41 t265 x13_3).f0.f0).toList != ((rd_T41 t261 x11_2).f0.f0).toList) = false := bne_eq_false_iff_eq.mpr c28
    clear c28
    by_cases c29 : ((rd_T41 t265 x13_3).f1.f3) > ((rd_T41 t261 x11_2).f1.f3)
    ·rw [if_pos c29] at H
     have c29b0 : decide (((rd_T41 t261 x11_2).f1.f3) < ((rd_T41 t265 x13_3).f1.f3)) = true := decide_eq_true c29
     clear c29
     exact absurd H (by simp)
    rw [if_neg c29] at H
    have c29b0 : decide (((rd_T41 t261 x11_2).f1.f3) < ((rd_T41 t265 x13_3).f1.f3)) = false := decide_eq_false c29
    clear c29
    replace H := Option.bind_eq_some_iff.mp H
    obtain ⟨⟨t277, t278, t279, t280⟩, A330, H⟩ := H
    replace H : (sleuthlaw25_EstimateRefines.l2 k3 t258 t261 x8_1 t265 x11_2 (wrap64 (x13_3 + 1)) t277 t278 t279 t280) = some r := H
    have A33 := Aside0.mk A330
    clear A330
    have H' := Aside0.mk H
    clear H
    obtain ⟨Ao34, co34, eo34⟩ := Kd.R_slice HO_9.out
    subst eo34
    try go_wp2
    have n0_ := Aside0.mk (Kd.N_drew HO_5.out)
    have n1_ := Aside0.mk (Kd.R_drew HO_6.out)
    have n2_ := Aside0.mk (Kd.R_drew HO_9.out)
    have n3_ := Aside0.mk (blk_drew BK255.out)
    have n4_ := Aside0.mk (blk_drew BK256.out)
    have n5_ := Aside0.mk (blk_drew BK269.out)
    have n6_ := Aside0.mk (below_drew1 HB.out)
    clear HO_5
    clear HO_6
    clear HO_9
    clear BK255
    clear BK256
    clear BK269
    clear HB
    have HO_5 := n0_
    have HO_6 := n1_
    have HO_9 := n2_
    have BK255 := n3_
    have BK256 := n4_
    have BK269 := n5_
    have HB := n6_
    clear n0_ n1_ n2_ n3_ n4_ n5_ n6_
    have p272 : 0 ≤ (x13_3 : Int) := of_decide_eq_true qgsleuthlaw25estimaterefines_7
    have q272 : x13_3 < (t265.length : Int) := of_decide_eq_true qgsleuthlaw25estimaterefines_7
    obtain ⟨ad272, e272, hx272_0, hx272_1, hx272_2, hx272_3, hx272_4, hx272_5, hx272_6⟩ := at_T41 (Kd.R_reads' HO_9.out).2.2 x13_3 p272 q272
    cases e272
    replace p272 := eq_true p272
    replace q272 := eq_true q272
    have p273 : 0 ≤ (x11_2 : Int) := of_decide_eq_true qgsleuthlaw25estimaterefines_7
    have q273 : x11_2 < (t261.length : Int) := of_decide_eq_true qgsleuthlaw25estimaterefines_7
    obtain ⟨ad273, e273, hx273_0, hx273_1, hx273_2, hx273_3, hx273_4, hx273_5, hx273_6⟩ := at_T41 (Kd.R_reads' HO_6.out).2.2 x11_2 p273 q273
    cases e273
    replace p273 := eq_true p273
    replace q273 := eq_true q273
    refine start_ (n := 13) (S := fun w' => w'.cell? (ad272.add ((x13_3).toNat * 7)) = some (.string ((rd_T41 t265 x13_3).f0.f0)) ∧ w'.cell? ⟨(ad272.add ((x13_3).toNat * 7)).block, (ad272.add ((x13_3).toNat * 7)).off + 1, none⟩ = some (.string ((rd_T41 t265 x13_3).f0.f1)) ∧ w'.cell? ⟨(ad272.add ((x13_3).toNat * 7)).block, (ad272.add ((x13_3).toNat * 7)).off + 2, none⟩ = some (.string ((rd_T41 t265 x13_3).f0.f2)) ∧ w'.cell? ⟨(ad272.add ((x13_3).toNat * 7)).block, (ad272.add ((x13_3).toNat * 7)).off + 3, none⟩ = some (.int .i64 ((rd_T41 t265 x13_3).f1.f0)) ∧ w'.cell? ⟨(ad272.add ((x13_3).toNat * 7)).block, (ad272.add ((x13_3).toNat * 7)).off + 4, none⟩ = some (.int .i64 ((rd_T41 t265 x13_3).f1.f1)) ∧ w'.cell? ⟨(ad272.add ((x13_3).toNat * 7)).block, (ad272.add ((x13_3).toNat * 7)).off + 5, none⟩ = some (.int .i64 ((rd_T41 t265 x13_3).f1.f2)) ∧ w'.cell? ⟨(ad272.add ((x13_3).toNat * 7)).block, (ad272.add ((x13_3).toNat * 7)).off + 6, none⟩ = some (.int .i64 ((rd_T41 t265 x13_3).f1.f3)) ∧ w'.cell? (ad273.add ((x11_2).toNat * 7)) = some (.string ((rd_T41 t261 x11_2).f0.f0)) ∧ w'.cell? ⟨(ad273.add ((x11_2).toNat * 7)).block, (ad273.add ((x11_2).toNat * 7)).off + 1, none⟩ = some (.string ((rd_T41 t261 x11_2).f0.f1)) ∧ w'.cell? ⟨(ad273.add ((x11_2).toNat * 7)).block, (ad273.add ((x11_2).toNat * 7)).off + 2, none⟩ = some (.string ((rd_T41 t261 x11_2).f0.f2)) ∧ w'.cell? ⟨(ad273.add ((x11_2).toNat * 7)).block, (ad273.add ((x11_2).toNat * 7)).off + 3, none⟩ = some (.int .i64 ((rd_T41 t261 x11_2).f1.f0)) ∧ w'.cell? ⟨(ad273.add ((x11_2).toNat * 7)).block, (ad273.add ((x11_2).toNat * 7)).off + 4, none⟩ = some (.int .i64 ((rd_T41 t261 x11_2).f1.f1)) ∧ w'.cell? ⟨(ad273.add ((x11_2).toNat * 7)).block, (ad273.add ((x11_2).toNat * 7)).off + 5, none⟩ = some (.int .i64 ((rd_T41 t261 x11_2).f1.f2)) ∧ w'.cell? ⟨(ad273.add ((x11_2).toNat * 7)).block, (ad273.add ((x11_2).toNat * 7)).off + 6, none⟩ = some (.int .i64 ((rd_T41 t261 x11_2).f1.f3))) (ds := []) #[F19516, F19516, F19516, F19516, F19516, F19516, F19516, F19516, F19516, F19516, F19516, F19516, F19516] (by kernel_rfl) rfl rfl ⟨hx272_0, hx272_1, hx272_2, hx272_3, hx272_4, hx272_5, hx272_6, hx273_0, hx273_1, hx273_2, hx273_3, hx273_4, hx273_5, hx273_6⟩ (fun hHeld => ?_); refine with_tabW sleuthlaw25_EstimateRefines.tab20 sleuthlaw25_EstimateRefines.bits20 (fun HT_ HW_ => ?_)
    generalize wr.drew = w35 at HO_5 HO_6 HO_9 BK255 BK256 BK269 HB hx272_0 hx272_1 hx272_2 hx272_3 hx272_4 hx272_5 hx272_6 hx273_0 hx273_1 hx273_2 hx273_3 hx273_4 hx273_5 hx273_6 hHeld ⊢
    refine pure_ (i := 0) (N := some 51) (v := ?_) (a' := ?_) #[T19516, F19516, F19516, F19516, F19516, F19516, F19516, F19516, F19516, F19516, F19516, F19516, F19516] rfl rfl (any_of HT_.out (by kernel_rfl)) (fun _ _ _ h => h) (Or.inl ⟨by rfl, ?_⟩) ?_ ?_
    rotate_left
    ·intro w'
     go_simp
     with_reducible rfl
    rotate_left
    ·simp only [Act.put, List.setIfInBounds_toArray, List.set_cons_zero, List.set_cons_succ, i64_w, i32_w]
     rfl
    refine pure_ (i := 1) (N := some 52) (v := ?_) (a' := ?_) #[T19516, T19516, F19516, F19516, F19516, F19516, F19516, F19516, F19516, F19516, F19516, F19516, F19516] rfl rfl (any_of HT_.out (by kernel_rfl)) (fun _ _ _ h => h) (Or.inl ⟨by rfl, ?_⟩) ?_ ?_
    rotate_left
    ·intro w'
     go_simp
     with_reducible rfl
    rotate_left
    ·simp only [Act.put, List.setIfInBounds_toArray, List.set_cons_zero, List.set_cons_succ, i64_w, i32_w]
     rfl
    refine pure_ (i := 2) (N := some 53) (v := ?_) (a' := ?_) #[T19516, T19516, T19516, F19516, F19516, F19516, F19516, F19516, F19516, F19516, F19516, F19516, F19516] rfl rfl (any_of HT_.out (by kernel_rfl)) (fun _ _ _ h => h) (Or.inl ⟨by rfl, ?_⟩) ?_ ?_
    rotate_left
    ·intro w'
     go_simp
     with_reducible rfl
    rotate_left
    ·simp only [Act.put, List.setIfInBounds_toArray, List.set_cons_zero, List.set_cons_succ, i64_w, i32_w]
     rfl
    refine pure_ (i := 3) (N := some 54) (v := ?_) (a' := ?_) #[T19516, T19516, T19516, T19516, F19516, F19516, F19516, F19516, F19516, F19516, F19516, F19516, F19516] rfl rfl (any_of HT_.out (by kernel_rfl)) (fun _ _ _ h => h) (Or.inl ⟨by rfl, ?_⟩) ?_ ?_
    rotate_left
    ·intro w'
     go_simp
     with_reducible rfl
    rotate_left
    ·simp only [Act.put, List.setIfInBounds_toArray, List.set_cons_zero, List.set_cons_succ, i64_w, i32_w]
     rfl
    refine pure_ (i := 4) (N := some 55) (v := ?_) (a' := ?_) #[T19516, T19516, T19516, T19516, T19516, F19516, F19516, F19516, F19516, F19516, F19516, F19516, F19516] rfl rfl (any_of HT_.out (by kernel_rfl)) (fun _ _ _ h => h) (Or.inl ⟨by rfl, ?_⟩) ?_ ?_
    rotate_left
    ·intro w'
     go_simp
     with_reducible rfl
    rotate_left
    ·simp only [Act.put, List.setIfInBounds_toArray, List.set_cons_zero, List.set_cons_succ, i64_w, i32_w]
     rfl
    refine pure_ (i := 6) (N := some 57) (v := ?_) (a' := ?_) #[T19516, T19516, T19516, T19516, T19516, F19516, T19516, F19516, F19516, F19516, F19516, F19516, F19516] rfl rfl (any_of HT_.out (by kernel_rfl)) (fun _ _ _ h => h) (Or.inl ⟨by rfl, ?_⟩) ?_ ?_
    rotate_left
    ·intro w'
     go_simp
     with_reducible rfl
    rotate_left
    ·simp only [Act.put, List.setIfInBounds_toArray, List.set_cons_zero, List.set_cons_succ, i64_w, i32_w]
     rfl
    refine pure_ (i := 7) (N := some 58) (v := ?_) (a' := ?_) #[T19516, T19516, T19516, T19516, T19516, F19516, T19516, T19516, F19516, F19516, F19516, F19516, F19516] rfl rfl (any_of HT_.out (by kernel_rfl)) (fun _ _ _ h => h) (Or.inl ⟨by rfl, ?_⟩) ?_ ?_
    rotate_left
    ·intro w'
     go_simp
     with_reducible rfl
    rotate_left
    ·simp only [Act.put, List.setIfInBounds_toArray, List.set_cons_zero, List.set_cons_succ, i64_w, i32_w]
     rfl
    refine pure_ (i := 8) (N := some 59) (v := ?_) (a' := ?_) #[T19516, T19516, T19516, T19516, T19516, F19516, T19516, T19516, T19516, F19516, F19516, F19516, F19516] rfl rfl (any_of HT_.out (by kernel_rfl)) (fun _ _ _ h => h) (Or.inl ⟨by rfl, ?_⟩) ?_ ?_
    rotate_left
    ·intro w'
     go_simp
     with_reducible rfl
    rotate_left
    ·simp only [Act.put, List.setIfInBounds_toArray, List.set_cons_zero, List.set_cons_succ, i64_w, i32_w]
     rfl
    refine pure_ (i := 9) (N := some 60) (v := ?_) (a' := ?_) #[T19516, T19516, T19516, T19516, T19516, F19516, T19516, T19516, T19516, T19516, F19516, F19516, F19516] rfl rfl (any_of HT_.out (by kernel_rfl)) (fun _ _ _ h => h) (Or.inl ⟨by rfl, ?_⟩) ?_ ?_
    rotate_left
    ·intro w'
     go_simp
     with_reducible rfl
    rotate_left
    ·simp only [Act.put, List.setIfInBounds_toArray, List.set_cons_zero, List.set_cons_succ, i64_w, i32_w]
     rfl
    refine pure_ (i := 10) (N := some 61) (v := ?_) (a' := ?_) #[T19516, T19516, T19516, T19516, T19516, F19516, T19516, T19516, T19516, T19516, T19516, F19516, F19516] rfl rfl (any_of HT_.out (by kernel_rfl)) (fun _ _ _ h => h) (Or.inl ⟨by rfl, ?_⟩) ?_ ?_
    rotate_left
    ·intro w'
     go_simp
     with_reducible rfl
    rotate_left
    ·simp only [Act.put, List.setIfInBounds_toArray, List.set_cons_zero, List.set_cons_succ, i64_w, i32_w]
     rfl
    refine take_ (i := 5) (N := some 56) (v := ?_) (a' := ?_) #[T19516, T19516, T19516, T19516, T19516, T19516, T19516, T19516, T19516, T19516, T19516, F19516, F19516] rfl rfl (take_ofW HT_.out HW_.out (by kernel_rfl)) (fun _ _ _ h => h) (Or.inl ⟨by rfl, ?_⟩) hHeld ?_ ?_
    rotate_left
    ·rintro w' ⟨s0, s1, s2, s3, s4, s5, s6, s7, s8, s9, s10, s11, s12, s13⟩
     go_simp
     with_reducible rfl
    rotate_left
    ·simp only [Act.put, List.setIfInBounds_toArray, List.set_cons_zero, List.set_cons_succ, i64_w, i32_w]
     rfl
    refine take_ (i := 11) (N := some 62) (v := ?_) (a' := ?_) #[T19516, T19516, T19516, T19516, T19516, T19516, T19516, T19516, T19516, T19516, T19516, T19516, F19516] rfl rfl (take_ofW HT_.out HW_.out (by kernel_rfl)) (fun _ _ _ h => h) (Or.inl ⟨by rfl, ?_⟩) hHeld ?_ ?_
    rotate_left
    ·rintro w' ⟨s0, s1, s2, s3, s4, s5, s6, s7, s8, s9, s10, s11, s12, s13⟩
     go_simp
     with_reducible rfl
    rotate_left
    ·simp only [Act.put, List.setIfInBounds_toArray, List.set_cons_zero, List.set_cons_succ, i64_w, i32_w]
     rfl
    refine pure_ (i := 12) (N := some 63) (v := ?_) (a' := ?_) #[T19516, T19516, T19516, T19516, T19516, T19516, T19516, T19516, T19516, T19516, T19516, T19516, T19516] rfl rfl (any_of HT_.out (by kernel_rfl)) (fun _ _ _ h => h) (Or.inl ⟨by rfl, ?_⟩) ?_ ?_
    rotate_left
    ·intro w'
     go_simp
     with_reducible rfl
    rotate_left
    ·simp only [Act.put, List.setIfInBounds_toArray, List.set_cons_zero, List.set_cons_succ, i64_w, i32_w]
     rfl
    refine done_ (done_of HT_.out (by kernel_rfl)) ?_
    try go_wp2
    have n0_ := Aside0.mk (Kd.N_drew HO_5.out)
    have n1_ := Aside0.mk (Kd.R_drew HO_6.out)
    have n2_ := Aside0.mk (Kd.R_drew HO_9.out)
    have n3_ := Aside0.mk (blk_drew BK255.out)
    have n4_ := Aside0.mk (blk_drew BK256.out)
    have n5_ := Aside0.mk (blk_drew BK269.out)
    have n6_ := Aside0.mk (below_drew1 HB.out)
    clear HO_5
    clear HO_6
    clear HO_9
    clear BK255
    clear BK256
    clear BK269
    clear HB
    have HO_5 := n0_
    have HO_6 := n1_
    have HO_9 := n2_
    have BK255 := n3_
    have BK256 := n4_
    have BK269 := n5_
    have HB := n6_
    clear n0_ n1_ n2_ n3_ n4_ n5_ n6_
    have p274 : 0 ≤ (x13_3 : Int) := of_decide_eq_true qgsleuthlaw25estimaterefines_7
    have q274 : x13_3 < (t265.length : Int) := of_decide_eq_true qgsleuthlaw25estimaterefines_7
    obtain ⟨ad274, e274, hx274_0, hx274_1, hx274_2, hx274_3, hx274_4, hx274_5, hx274_6⟩ := at_T41 (Kd.R_reads' HO_9.out).2.2 x13_3 p274 q274
    obtain rfl : ad272 = ad274 := (by injection e274)
    replace p274 := eq_true p274
    replace q274 := eq_true q274
    have p275 : 0 ≤ (x11_2 : Int) := of_decide_eq_true qgsleuthlaw25estimaterefines_7
    have q275 : x11_2 < (t261.length : Int) := of_decide_eq_true qgsleuthlaw25estimaterefines_7
    obtain ⟨ad275, e275, hx275_0, hx275_1, hx275_2, hx275_3, hx275_4, hx275_5, hx275_6⟩ := at_T41 (Kd.R_reads' HO_6.out).2.2 x11_2 p275 q275
    obtain rfl : ad273 = ad275 := (by injection e275)
    replace p275 := eq_true p275
    replace q275 := eq_true q275
    refine start_ (n := 13) (S := fun w' => w'.cell? (ad272.add ((x13_3).toNat * 7)) = some (.string ((rd_T41 t265 x13_3).f0.f0)) ∧ w'.cell? ⟨(ad272.add ((x13_3).toNat * 7)).block, (ad272.add ((x13_3).toNat * 7)).off + 1, none⟩ = some (.string ((rd_T41 t265 x13_3).f0.f1)) ∧ w'.cell? ⟨(ad272.add ((x13_3).toNat * 7)).block, (ad272.add ((x13_3).toNat * 7)).off + 2, none⟩ = some (.string ((rd_T41 t265 x13_3).f0.f2)) ∧ w'.cell? ⟨(ad272.add ((x13_3).toNat * 7)).block, (ad272.add ((x13_3).toNat * 7)).off + 3, none⟩ = some (.int .i64 ((rd_T41 t265 x13_3).f1.f0)) ∧ w'.cell? ⟨(ad272.add ((x13_3).toNat * 7)).block, (ad272.add ((x13_3).toNat * 7)).off + 4, none⟩ = some (.int .i64 ((rd_T41 t265 x13_3).f1.f1)) ∧ w'.cell? ⟨(ad272.add ((x13_3).toNat * 7)).block, (ad272.add ((x13_3).toNat * 7)).off + 5, none⟩ = some (.int .i64 ((rd_T41 t265 x13_3).f1.f2)) ∧ w'.cell? ⟨(ad272.add ((x13_3).toNat * 7)).block, (ad272.add ((x13_3).toNat * 7)).off + 6, none⟩ = some (.int .i64 ((rd_T41 t265 x13_3).f1.f3)) ∧ w'.cell? (ad273.add ((x11_2).toNat * 7)) = some (.string ((rd_T41 t261 x11_2).f0.f0)) ∧ w'.cell? ⟨(ad273.add ((x11_2).toNat * 7)).block, (ad273.add ((x11_2).toNat * 7)).off + 1, none⟩ = some (.string ((rd_T41 t261 x11_2).f0.f1)) ∧ w'.cell? ⟨(ad273.add ((x11_2).toNat * 7)).block, (ad273.add ((x11_2).toNat * 7)).off + 2, none⟩ = some (.string ((rd_T41 t261 x11_2).f0.f2)) ∧ w'.cell? ⟨(ad273.add ((x11_2).toNat * 7)).block, (ad273.add ((x11_2).toNat * 7)).off + 3, none⟩ = some (.int .i64 ((rd_T41 t261 x11_2).f1.f0)) ∧ w'.cell? ⟨(ad273.add ((x11_2).toNat * 7)).block, (ad273.add ((x11_2).toNat * 7)).off + 4, none⟩ = some (.int .i64 ((rd_T41 t261 x11_2).f1.f1)) ∧ w'.cell? ⟨(ad273.add ((x11_2).toNat * 7)).block, (ad273.add ((x11_2).toNat * 7)).off + 5, none⟩ = some (.int .i64 ((rd_T41 t261 x11_2).f1.f2)) ∧ w'.cell? ⟨(ad273.add ((x11_2).toNat * 7)).block, (ad273.add ((x11_2).toNat * 7)).off + 6, none⟩ = some (.int .i64 ((rd_T41 t261 x11_2).f1.f3))) (ds := []) #[F19516, F19516, F19516, F19516, F19516, F19516, F19516, F19516, F19516, F19516, F19516, F19516, F19516] (by kernel_rfl) rfl rfl ⟨hx274_0, hx274_1, hx274_2, hx274_3, hx274_4, hx274_5, hx274_6, hx275_0, hx275_1, hx275_2, hx275_3, hx275_4, hx275_5, hx275_6⟩ (fun hHeld => ?_); refine with_tabW sleuthlaw25_EstimateRefines.tab21 sleuthlaw25_EstimateRefines.bits21 (fun HT_ HW_ => ?_)
    generalize w35.drew = w36 at HO_5 HO_6 HO_9 BK255 BK256 BK269 HB hx274_0 hx274_1 hx274_2 hx274_3 hx274_4 hx274_5 hx274_6 hx275_0 hx275_1 hx275_2 hx275_3 hx275_4 hx275_5 hx275_6 hHeld ⊢
    refine pure_ (i := 0) (N := some 64) (v := ?_) (a' := ?_) #[T19516, F19516, F19516, F19516, F19516, F19516, F19516, F19516, F19516, F19516, F19516, F19516, F19516] rfl rfl (any_of HT_.out (by kernel_rfl)) (fun _ _ _ h => h) (Or.inl ⟨by rfl, ?_⟩) ?_ ?_
    rotate_left
    ·intro w'
     go_simp
     with_reducible rfl
    rotate_left
    ·simp only [Act.put, List.setIfInBounds_toArray, List.set_cons_zero, List.set_cons_succ, i64_w, i32_w]
     rfl
    refine pure_ (i := 1) (N := some 65) (v := ?_) (a' := ?_) #[T19516, T19516, F19516, F19516, F19516, F19516, F19516, F19516, F19516, F19516, F19516, F19516, F19516] rfl rfl (any_of HT_.out (by kernel_rfl)) (fun _ _ _ h => h) (Or.inl ⟨by rfl, ?_⟩) ?_ ?_
    rotate_left
    ·intro w'
     go_simp
     with_reducible rfl
    rotate_left
    ·simp only [Act.put, List.setIfInBounds_toArray, List.set_cons_zero, List.set_cons_succ, i64_w, i32_w]
     rfl
    refine pure_ (i := 2) (N := some 66) (v := ?_) (a' := ?_) #[T19516, T19516, T19516, F19516, F19516, F19516, F19516, F19516, F19516, F19516, F19516, F19516, F19516] rfl rfl (any_of HT_.out (by kernel_rfl)) (fun _ _ _ h => h) (Or.inl ⟨by rfl, ?_⟩) ?_ ?_
    rotate_left
    ·intro w'
     go_simp
     with_reducible rfl
    rotate_left
    ·simp only [Act.put, List.setIfInBounds_toArray, List.set_cons_zero, List.set_cons_succ, i64_w, i32_w]
     rfl
    refine pure_ (i := 3) (N := some 67) (v := ?_) (a' := ?_) #[T19516, T19516, T19516, T19516, F19516, F19516, F19516, F19516, F19516, F19516, F19516, F19516, F19516] rfl rfl (any_of HT_.out (by kernel_rfl)) (fun _ _ _ h => h) (Or.inl ⟨by rfl, ?_⟩) ?_ ?_
    rotate_left
    ·intro w'
     go_simp
     with_reducible rfl
    rotate_left
    ·simp only [Act.put, List.setIfInBounds_toArray, List.set_cons_zero, List.set_cons_succ, i64_w, i32_w]
     rfl
    refine pure_ (i := 4) (N := some 68) (v := ?_) (a' := ?_) #[T19516, T19516, T19516, T19516, T19516, F19516, F19516, F19516, F19516, F19516, F19516, F19516, F19516] rfl rfl (any_of HT_.out (by kernel_rfl)) (fun _ _ _ h => h) (Or.inl ⟨by rfl, ?_⟩) ?_ ?_
    rotate_left
    ·intro w'
     go_simp
     with_reducible rfl
    rotate_left
    ·simp only [Act.put, List.setIfInBounds_toArray, List.set_cons_zero, List.set_cons_succ, i64_w, i32_w]
     rfl
    refine pure_ (i := 6) (N := some 70) (v := ?_) (a' := ?_) #[T19516, T19516, T19516, T19516, T19516, F19516, T19516, F19516, F19516, F19516, F19516, F19516, F19516] rfl rfl (any_of HT_.out (by kernel_rfl)) (fun _ _ _ h => h) (Or.inl ⟨by rfl, ?_⟩) ?_ ?_
    rotate_left
    ·intro w'
     go_simp
     with_reducible rfl
    rotate_left
    ·simp only [Act.put, List.setIfInBounds_toArray, List.set_cons_zero, List.set_cons_succ, i64_w, i32_w]
     rfl
    refine pure_ (i := 7) (N := some 71) (v := ?_) (a' := ?_) #[T19516, T19516, T19516, T19516, T19516, F19516, T19516, T19516, F19516, F19516, F19516, F19516, F19516] rfl rfl (any_of HT_.out (by kernel_rfl)) (fun _ _ _ h => h) (Or.inl ⟨by rfl, ?_⟩) ?_ ?_
    rotate_left
    ·intro w'
     go_simp
     with_reducible rfl
    rotate_left
    ·simp only [Act.put, List.setIfInBounds_toArray, List.set_cons_zero, List.set_cons_succ, i64_w, i32_w]
     rfl
    refine pure_ (i := 8) (N := some 72) (v := ?_) (a' := ?_) #[T19516, T19516, T19516, T19516, T19516, F19516, T19516, T19516, T19516, F19516, F19516, F19516, F19516] rfl rfl (any_of HT_.out (by kernel_rfl)) (fun _ _ _ h => h) (Or.inl ⟨by rfl, ?_⟩) ?_ ?_
    rotate_left
    ·intro w'
     go_simp
     with_reducible rfl
    rotate_left
    ·simp only [Act.put, List.setIfInBounds_toArray, List.set_cons_zero, List.set_cons_succ, i64_w, i32_w]
     rfl
    refine pure_ (i := 9) (N := some 73) (v := ?_) (a' := ?_) #[T19516, T19516, T19516, T19516, T19516, F19516, T19516, T19516, T19516, T19516, F19516, F19516, F19516] rfl rfl (any_of HT_.out (by kernel_rfl)) (fun _ _ _ h => h) (Or.inl ⟨by rfl, ?_⟩) ?_ ?_
    rotate_left
    ·intro w'
     go_simp
     with_reducible rfl
    rotate_left
    ·simp only [Act.put, List.setIfInBounds_toArray, List.set_cons_zero, List.set_cons_succ, i64_w, i32_w]
     rfl
    refine pure_ (i := 10) (N := some 74) (v := ?_) (a' := ?_) #[T19516, T19516, T19516, T19516, T19516, F19516, T19516, T19516, T19516, T19516, T19516, F19516, F19516] rfl rfl (any_of HT_.out (by kernel_rfl)) (fun _ _ _ h => h) (Or.inl ⟨by rfl, ?_⟩) ?_ ?_
    rotate_left
    ·intro w'
     go_simp
     with_reducible rfl
    rotate_left
    ·simp only [Act.put, List.setIfInBounds_toArray, List.set_cons_zero, List.set_cons_succ, i64_w, i32_w]
     rfl
    refine take_ (i := 5) (N := some 69) (v := ?_) (a' := ?_) #[T19516, T19516, T19516, T19516, T19516, T19516, T19516, T19516, T19516, T19516, T19516, F19516, F19516] rfl rfl (take_ofW HT_.out HW_.out (by kernel_rfl)) (fun _ _ _ h => h) (Or.inl ⟨by rfl, ?_⟩) hHeld ?_ ?_
    rotate_left
    ·rintro w' ⟨s0, s1, s2, s3, s4, s5, s6, s7, s8, s9, s10, s11, s12, s13⟩
     go_simp
     with_reducible rfl
    rotate_left
    ·simp only [Act.put, List.setIfInBounds_toArray, List.set_cons_zero, List.set_cons_succ, i64_w, i32_w]
     rfl
    refine take_ (i := 11) (N := some 75) (v := ?_) (a' := ?_) #[T19516, T19516, T19516, T19516, T19516, T19516, T19516, T19516, T19516, T19516, T19516, T19516, F19516] rfl rfl (take_ofW HT_.out HW_.out (by kernel_rfl)) (fun _ _ _ h => h) (Or.inl ⟨by rfl, ?_⟩) hHeld ?_ ?_
    rotate_left
    ·rintro w' ⟨s0, s1, s2, s3, s4, s5, s6, s7, s8, s9, s10, s11, s12, s13⟩
     go_simp
     with_reducible rfl
    rotate_left
    ·simp only [Act.put, List.setIfInBounds_toArray, List.set_cons_zero, List.set_cons_succ, i64_w, i32_w]
     rfl
    refine pure_ (i := 12) (N := some 76) (v := ?_) (a' := ?_) #[T19516, T19516, T19516, T19516, T19516, T19516, T19516, T19516, T19516, T19516, T19516, T19516, T19516] rfl rfl (any_of HT_.out (by kernel_rfl)) (fun _ _ _ h => h) (Or.inl ⟨by rfl, ?_⟩) ?_ ?_
    rotate_left
    ·intro w'
     go_simp
     with_reducible rfl
    rotate_left
    ·simp only [Act.put, List.setIfInBounds_toArray, List.set_cons_zero, List.set_cons_succ, i64_w, i32_w]
     rfl
    refine done_ (done_of HT_.out (by kernel_rfl)) ?_
    try go_wp2
    have n0_ := Aside0.mk (Kd.N_drew HO_5.out)
    have n1_ := Aside0.mk (Kd.R_drew HO_6.out)
    have n2_ := Aside0.mk (Kd.R_drew HO_9.out)
    have n3_ := Aside0.mk (blk_drew BK255.out)
    have n4_ := Aside0.mk (blk_drew BK256.out)
    have n5_ := Aside0.mk (blk_drew BK269.out)
    have n6_ := Aside0.mk (below_drew1 HB.out)
    clear HO_5
    clear HO_6
    clear HO_9
    clear BK255
    clear BK256
    clear BK269
    clear HB
    have HO_5 := n0_
    have HO_6 := n1_
    have HO_9 := n2_
    have BK255 := n3_
    have BK256 := n4_
    have BK269 := n5_
    have HB := n6_
    clear n0_ n1_ n2_ n3_ n4_ n5_ n6_
    have p276 : 0 ≤ (x13_3 : Int) := of_decide_eq_true qgsleuthlaw25estimaterefines_7
    have q276 : x13_3 < (t265.length : Int) := of_decide_eq_true qgsleuthlaw25estimaterefines_7
    obtain ⟨ad276, e276, hx276_0, hx276_1, hx276_2, hx276_3, hx276_4, hx276_5, hx276_6⟩ := at_T41 (Kd.R_reads' HO_9.out).2.2 x13_3 p276 q276
    obtain rfl : ad272 = ad276 := (by injection e276)
    replace p276 := eq_true p276
    replace q276 := eq_true q276
    refine start_ (n := 8) (S := fun w' => w'.cell? ⟨gb269, 0, none⟩ = some (.int .i64 x270000_3) ∧ w'.cell? ⟨gb269, 1, none⟩ = some (.int .i64 x270001_3) ∧ w'.cell? ⟨gb269, 2, none⟩ = some (.int .i64 x270002_3) ∧ w'.cell? ⟨gb269, 3, none⟩ = some (.int .i64 x270003_3) ∧ w'.cell? (ad272.add ((x13_3).toNat * 7)) = some (.string ((rd_T41 t265 x13_3).f0.f0)) ∧ w'.cell? ⟨(ad272.add ((x13_3).toNat * 7)).block, (ad272.add ((x13_3).toNat * 7)).off + 1, none⟩ = some (.string ((rd_T41 t265 x13_3).f0.f1)) ∧ w'.cell? ⟨(ad272.add ((x13_3).toNat * 7)).block, (ad272.add ((x13_3).toNat * 7)).off + 2, none⟩ = some (.string ((rd_T41 t265 x13_3).f0.f2)) ∧ w'.cell? ⟨(ad272.add ((x13_3).toNat * 7)).block, (ad272.add ((x13_3).toNat * 7)).off + 3, none⟩ = some (.int .i64 ((rd_T41 t265 x13_3).f1.f0)) ∧ w'.cell? ⟨(ad272.add ((x13_3).toNat * 7)).block, (ad272.add ((x13_3).toNat * 7)).off + 4, none⟩ = some (.int .i64 ((rd_T41 t265 x13_3).f1.f1)) ∧ w'.cell? ⟨(ad272.add ((x13_3).toNat * 7)).block, (ad272.add ((x13_3).toNat * 7)).off + 5, none⟩ = some (.int .i64 ((rd_T41 t265 x13_3).f1.f2)) ∧ w'.cell? ⟨(ad272.add ((x13_3).toNat * 7)).block, (ad272.add ((x13_3).toNat * 7)).off + 6, none⟩ = some (.int .i64 ((rd_T41 t265 x13_3).f1.f3))) (ds := [7]) #[F19516, F19516, F19516, F19516, F19516, F19516, F19516, F19516] (by kernel_rfl) rfl rfl ⟨(blk_cell BK269.out 0).trans rfl, (blk_cell BK269.out 1).trans rfl, (blk_cell BK269.out 2).trans rfl, (blk_cell BK269.out 3).trans rfl, hx276_0, hx276_1, hx276_2, hx276_3, hx276_4, hx276_5, hx276_6⟩ (fun hHeld => ?_); refine with_tabW sleuthlaw25_EstimateRefines.tab23 sleuthlaw25_EstimateRefines.bits23 (fun HT_ HW_ => ?_)
    generalize w36.drew = w37 at HO_5 HO_6 HO_9 BK255 BK256 BK269 HB hx276_0 hx276_1 hx276_2 hx276_3 hx276_4 hx276_5 hx276_6 hHeld ⊢
    refine pure_ (i := 1) (N := some 78) (v := ?_) (a' := ?_) #[F19516, T19516, F19516, F19516, F19516, F19516, F19516, F19516] rfl rfl (any_of HT_.out (by kernel_rfl)) (fun _ _ _ h => h) (Or.inl ⟨by rfl, ?_⟩) ?_ ?_
    rotate_left
    ·intro w'
     go_simp
     with_reducible rfl
    rotate_left
    ·simp only [Act.put, List.setIfInBounds_toArray, List.set_cons_zero, List.set_cons_succ, i64_w, i32_w]
     rfl
    refine pure_ (i := 2) (N := some 79) (v := ?_) (a' := ?_) #[F19516, T19516, T19516, F19516, F19516, F19516, F19516, F19516] rfl rfl (any_of HT_.out (by kernel_rfl)) (fun _ _ _ h => h) (Or.inl ⟨by rfl, ?_⟩) ?_ ?_
    rotate_left
    ·intro w'
     go_simp
     with_reducible rfl
    rotate_left
    ·simp only [Act.put, List.setIfInBounds_toArray, List.set_cons_zero, List.set_cons_succ, i64_w, i32_w]
     rfl
    refine pure_ (i := 3) (N := some 80) (v := ?_) (a' := ?_) #[F19516, T19516, T19516, T19516, F19516, F19516, F19516, F19516] rfl rfl (any_of HT_.out (by kernel_rfl)) (fun _ _ _ h => h) (Or.inl ⟨by rfl, ?_⟩) ?_ ?_
    rotate_left
    ·intro w'
     go_simp
     with_reducible rfl
    rotate_left
    ·simp only [Act.put, List.setIfInBounds_toArray, List.set_cons_zero, List.set_cons_succ, i64_w, i32_w]
     rfl
    refine pure_ (i := 4) (N := some 81) (v := ?_) (a' := ?_) #[F19516, T19516, T19516, T19516, T19516, F19516, F19516, F19516] rfl rfl (any_of HT_.out (by kernel_rfl)) (fun _ _ _ h => h) (Or.inl ⟨by rfl, ?_⟩) ?_ ?_
    rotate_left
    ·intro w'
     go_simp
     with_reducible rfl
    rotate_left
    ·simp only [Act.put, List.setIfInBounds_toArray, List.set_cons_zero, List.set_cons_succ, i64_w, i32_w]
     rfl
    refine take_ (i := 0) (N := some 77) (v := ?_) (a' := ?_) #[T19516, T19516, T19516, T19516, T19516, F19516, F19516, F19516] rfl rfl (take_ofW HT_.out HW_.out (by kernel_rfl)) (fun _ _ _ h => h) (Or.inl ⟨by rfl, ?_⟩) hHeld ?_ ?_
    rotate_left
    ·rintro w' ⟨s0, s1, s2, s3, s4, s5, s6, s7, s8, s9, s10⟩
     go_simp
     with_reducible rfl
    rotate_left
    ·simp only [Act.put, List.setIfInBounds_toArray, List.set_cons_zero, List.set_cons_succ, i64_w, i32_w]
     rfl
    refine take_ (i := 5) (N := some 82) (v := ?_) (a' := ?_) #[T19516, T19516, T19516, T19516, T19516, T19516, F19516, F19516] rfl rfl (take_ofW HT_.out HW_.out (by kernel_rfl)) (fun _ _ _ h => h) (Or.inl ⟨by rfl, ?_⟩) hHeld ?_ ?_
    rotate_left
    ·rintro w' ⟨s0, s1, s2, s3, s4, s5, s6, s7, s8, s9, s10⟩
     go_simp
     with_reducible rfl
    rotate_left
    ·simp only [Act.put, List.setIfInBounds_toArray, List.set_cons_zero, List.set_cons_succ, i64_w, i32_w]
     rfl
    refine one_ (i := 6) (N := some 83) #[T19516, T19516, T19516, T19516, T19516, T19516, T19516, F19516] rfl rfl (one_of HT_.out (by kernel_rfl)) (by decide) (fun K hK => ?_)
    refine goes_ Try.func15 (by kernel_rfl) rfl #[.agg #[.int .i64 x270000_3, .int .i64 x270001_3, .int .i64 x270002_3, .int .i64 x270003_3], .agg #[.int .i64 ((rd_T41 t265 x13_3).f1.f0), .int .i64 ((rd_T41 t265 x13_3).f1.f1), .int .i64 ((rd_T41 t265 x13_3).f1.f2), .int .i64 ((rd_T41 t265 x13_3).f1.f3)]] (by rfl) rfl rfl qgsleuthlaw25estimaterefines_5 ?_
    with_reducible refine (sleuthlaw25_add.calls x270000_3 x270001_3 x270002_3 x270003_3 ((rd_T41 t265 x13_3).f1.f0) ((rd_T41 t265 x13_3).f1.f1) ((rd_T41 t265 x13_3).f1.f2) ((rd_T41 t265 x13_3).f1.f3) t277 t278 t279 t280 _ A33.out).mono ?_
    rintro e w38 ⟨rfl, hb⟩
    have HS4_ := (hb.cell (World.block_lt_of_cell? _ _ (hHeld.2.2.2.2.1))).trans (hHeld.2.2.2.2.1)
    have HS5_ := (hb.cell (World.block_lt_of_cell? _ _ (hHeld.2.2.2.2.2.1))).trans (hHeld.2.2.2.2.2.1)
    have HS6_ := (hb.cell (World.block_lt_of_cell? _ _ (hHeld.2.2.2.2.2.2.1))).trans (hHeld.2.2.2.2.2.2.1)
    have HS7_ := (hb.cell (World.block_lt_of_cell? _ _ (hHeld.2.2.2.2.2.2.2.1))).trans (hHeld.2.2.2.2.2.2.2.1)
    have HS8_ := (hb.cell (World.block_lt_of_cell? _ _ (hHeld.2.2.2.2.2.2.2.2.1))).trans (hHeld.2.2.2.2.2.2.2.2.1)
    have HS9_ := (hb.cell (World.block_lt_of_cell? _ _ (hHeld.2.2.2.2.2.2.2.2.2.1))).trans (hHeld.2.2.2.2.2.2.2.2.2.1)
    have HS10_ := (hb.cell (World.block_lt_of_cell? _ _ (hHeld.2.2.2.2.2.2.2.2.2.2))).trans (hHeld.2.2.2.2.2.2.2.2.2.2)
    refine ⟨_, rfl, ?_⟩
    have n0_ := Aside0.mk (Kd.N_below qgsleuthlaw25estimaterefines_8 hb)
    have n1_ := Aside0.mk (Kd.R_below qgsleuthlaw25estimaterefines_4 hb)
    have n2_ := Aside0.mk (Kd.R_below qgsleuthlaw25estimaterefines_9 hb)
    have n3_ := Aside0.mk (blk_below (g := gb255) (o := .cells #[.slice A0_0 l0_0.length c0_0, .int .i8 a0_1, .int .i8 a0_2, .int .i8 a0_3, .int .i8 a0_4, .slice A0_5 l0_5.length c0_5, .int .u8 a0_6] 27 (0, 0)) qgsleuthlaw25estimaterefines_1 hb)
    have n4_ := Aside0.mk (blk_below (g := gb256) (o := .cells #[.int .u8 a1_0, .int .u8 a1_1, .int .u8 a1_2] 28 (0, 0)) qgsleuthlaw25estimaterefines_2 hb)
    have n5_ := Aside0.mk (blk_below (g := gb269) (o := .cells #[.int .i64 x270000_3, .int .i64 x270001_3, .int .i64 x270002_3, .int .i64 x270003_3] 37 (0, 0)) qgsleuthlaw25estimaterefines_6 hb)
    have n6_ := Aside0.mk (below_step qgsleuthlaw25estimaterefines_3 hb)
    clear HO_5
    clear HO_6
    clear HO_9
    clear BK255
    clear BK256
    clear BK269
    clear HB
    have HO_5 := n0_
    have HO_6 := n1_
    have HO_9 := n2_
    have BK255 := n3_
    have BK256 := n4_
    have BK269 := n5_
    have HB := n6_
    clear n0_ n1_ n2_ n3_ n4_ n5_ n6_
    (try clear hb)
    (try clear hb2)
    (try clear hk)
    (try clear hi)
    refine hK.out _ _ ⟨(blk_cell BK269.out 0).trans rfl, (blk_cell BK269.out 1).trans rfl, (blk_cell BK269.out 2).trans rfl, (blk_cell BK269.out 3).trans rfl, HS4_, HS5_, HS6_, HS7_, HS8_, HS9_, HS10_⟩ (fun hHeld => ?_)
    clear hK K
    refine norm_ (a' := ?_) ?_ ?_
    rotate_left
    ·show Act.put _ (some 83) _ = _
     simp only [Act.put, List.setIfInBounds_toArray, List.set_cons_zero, List.set_cons_succ, i64_w, i32_w]
     rfl
    refine last_ (i := 7) (N := none) #[T19516, T19516, T19516, T19516, T19516, T19516, T19516, T19516] rfl rfl (one_of HT_.out (by kernel_rfl)) (by decide) (fun K hK => ?_)
    have hs39 : w38.cell? ⟨gb269, 0, none⟩ = some (.int .i64 x270000_3) := (blk_cell BK269.out 0).trans rfl
    have hfs39 := blk_frozen BK269.out 0
    have hns39_0 := NB255_269.out
    have hns39_1 := NB256_269.out
    have hms39_0 := NB269_255.out
    have hms39_1 := NB269_256.out
    have hs40 : w38.cell? ⟨gb269, 1, none⟩ = some (.int .i64 x270001_3) := (blk_cell BK269.out 1).trans rfl
    have hfs40 := blk_frozen BK269.out 1
    have hns40_0 := NB255_269.out
    have hns40_1 := NB256_269.out
    have hms40_0 := NB269_255.out
    have hms40_1 := NB269_256.out
    have hs41 : w38.cell? ⟨gb269, 2, none⟩ = some (.int .i64 x270002_3) := (blk_cell BK269.out 2).trans rfl
    have hfs41 := blk_frozen BK269.out 2
    have hns41_0 := NB255_269.out
    have hns41_1 := NB256_269.out
    have hms41_0 := NB269_255.out
    have hms41_1 := NB269_256.out
    have hs42 : w38.cell? ⟨gb269, 3, none⟩ = some (.int .i64 x270003_3) := (blk_cell BK269.out 3).trans rfl
    have hfs42 := blk_frozen BK269.out 3
    have hns42_0 := NB255_269.out
    have hns42_1 := NB256_269.out
    have hms42_0 := NB269_255.out
    have hms42_1 := NB269_256.out
    refine skip_ (w1 := ?_) (by rfl) rfl ?_ ?_
    rotate_left
    ·go_simp
     rfl
    refine hK.out _ _ ?_
    clear hK K
    refine done_ (done_of HT_.out (by kernel_rfl)) ?_
    try go_wp2
    go_roundg k3
    case measure => have := HK1.out; have := HK2.out; have := HK3.out; omega
    case rel => exact ⟨(wrap64 (x13_3 + 1)), (t277), (t278), (t279), (t280), (by first | rfl | (simp; done) | (simp [*]; done)), H', ⟨by have := HK1.out; have := HK2.out; have := HK3.out; omega⟩, ⟨by (with_reducible repeat (first | apply Kd.N_alloc | apply Kd.N_drewN | apply Kd.N_drew)); exact Kd.N_mono (Kd.N_far (p := ⟨gb269, 3, none⟩) (Kd.N_far (p := ⟨gb269, 2, none⟩) (Kd.N_far (p := ⟨gb269, 1, none⟩) (Kd.N_far (p := ⟨gb269, 0, none⟩) (Kd.N_mono HO_5.out (fun k_ hk => (⟨hk, hk.2.2.2.2⟩ : _ ∧ k_ ≠ gb269))) (fun _ hk => hk.2) (.int .i64 t277)) (fun _ hk => hk.2) (.int .i64 t278)) (fun _ hk => hk.2) (.int .i64 t279)) (fun _ hk => hk.2) (.int .i64 t280)) (fun _ hk => ⟨hk.1.1, ⟨hk.1.2.1, ⟨hk.1.2.2.1, ⟨hk.1.2.2.2.1, hk.1.2.2.2.2⟩⟩⟩⟩)⟩, ⟨by (with_reducible repeat (first | apply Kd.R_alloc | apply Kd.R_drewN | apply Kd.R_drew)); exact Kd.R_mono (Kd.R_far (p := ⟨gb269, 3, none⟩) (Kd.R_far (p := ⟨gb269, 2, none⟩) (Kd.R_far (p := ⟨gb269, 1, none⟩) (Kd.R_far (p := ⟨gb269, 0, none⟩) (Kd.R_types HO_6.out BK269.out (by decide)) (fun _ hk => hk.2) (.int .i64 t277)) (fun _ hk => hk.2) (.int .i64 t278)) (fun _ hk => hk.2) (.int .i64 t279)) (fun _ hk => hk.2) (.int .i64 t280)) (fun _ hk => hk.1)⟩, ⟨by (with_reducible repeat (first | apply Kd.R_alloc | apply Kd.R_drewN | apply Kd.R_drew)); exact Kd.R_mono (Kd.R_far (p := ⟨gb269, 3, none⟩) (Kd.R_far (p := ⟨gb269, 2, none⟩) (Kd.R_far (p := ⟨gb269, 1, none⟩) (Kd.R_far (p := ⟨gb269, 0, none⟩) (Kd.R_types HO_9.out BK269.out (by decide)) (fun _ hk => hk.2) (.int .i64 t277)) (fun _ hk => hk.2) (.int .i64 t278)) (fun _ hk => hk.2) (.int .i64 t279)) (fun _ hk => hk.2) (.int .i64 t280)) (fun _ hk => hk.1)⟩, ⟨by (with_reducible repeat (first | refine blk_drewN ?_ _ | refine blk_drew ?_ | refine blk_alloc ?_ _)); refine blk_far ?_ NB255_269.out _; (with_reducible repeat (first | refine blk_drewN ?_ _ | refine blk_drew ?_ | refine blk_alloc ?_ _)); refine blk_far ?_ NB255_269.out _; (with_reducible repeat (first | refine blk_drewN ?_ _ | refine blk_drew ?_ | refine blk_alloc ?_ _)); refine blk_far ?_ NB255_269.out _; (with_reducible repeat (first | refine blk_drewN ?_ _ | refine blk_drew ?_ | refine blk_alloc ?_ _)); refine blk_far ?_ NB255_269.out _; (with_reducible repeat (first | refine blk_drewN ?_ _ | refine blk_drew ?_ | refine blk_alloc ?_ _)); exact BK255.out⟩, ⟨by (with_reducible repeat (first | refine blk_drewN ?_ _ | refine blk_drew ?_ | refine blk_alloc ?_ _)); refine blk_far ?_ NB256_269.out _; (with_reducible repeat (first | refine blk_drewN ?_ _ | refine blk_drew ?_ | refine blk_alloc ?_ _)); refine blk_far ?_ NB256_269.out _; (with_reducible repeat (first | refine blk_drewN ?_ _ | refine blk_drew ?_ | refine blk_alloc ?_ _)); refine blk_far ?_ NB256_269.out _; (with_reducible repeat (first | refine blk_drewN ?_ _ | refine blk_drew ?_ | refine blk_alloc ?_ _)); refine blk_far ?_ NB256_269.out _; (with_reducible repeat (first | refine blk_drewN ?_ _ | refine blk_drew ?_ | refine blk_alloc ?_ _)); exact BK256.out⟩, ⟨by (with_reducible repeat (first | refine blk_drewN ?_ _ | refine blk_drew ?_ | refine blk_alloc ?_ _)); refine blk_put (cs := #[.int .i64 t277, .int .i64 t278, .int .i64 t279, .int .i64 x270003_3]) ?_ 3 _ rfl; (with_reducible repeat (first | refine blk_drewN ?_ _ | refine blk_drew ?_ | refine blk_alloc ?_ _)); refine blk_put (cs := #[.int .i64 t277, .int .i64 t278, .int .i64 x270002_3, .int .i64 x270003_3]) ?_ 2 _ rfl; (with_reducible repeat (first | refine blk_drewN ?_ _ | refine blk_drew ?_ | refine blk_alloc ?_ _)); refine blk_put (cs := #[.int .i64 t277, .int .i64 x270001_3, .int .i64 x270002_3, .int .i64 x270003_3]) ?_ 1 _ rfl; (with_reducible repeat (first | refine blk_drewN ?_ _ | refine blk_drew ?_ | refine blk_alloc ?_ _)); refine blk_put (cs := #[.int .i64 x270000_3, .int .i64 x270001_3, .int .i64 x270002_3, .int .i64 x270003_3]) ?_ 0 _ rfl; (with_reducible repeat (first | refine blk_drewN ?_ _ | refine blk_drew ?_ | refine blk_alloc ?_ _)); exact BK269.out⟩, ⟨qgsleuthlaw25estimaterefines_3⟩⟩
end Go.Proofs.Ythdifdnjodbdnaa.Q
