-- Laid by myprint.py (a program of this session's, over the kit's printer and with functions proved by hand)
import Derived.Test.YthdifdnjodbdnaaTy
import Derived.Test.YthdifdnjodbdnaaQgByH
import Derived.Test.YthdifdnjodbdnaaQgKnown
import Derived.Test.YthdifdnjodbdnaaQgWtH
import Derived.Test.YthdifdnjodbdnaaQgGoH
import Derived.Test.YthdifdnjodbdnaaQgGrp
import Derived.Test.YthdifdnjodbdnaaQgSam
import Derived.Test.YthdifdnjodbdnaaQgBy2
namespace Go.Proofs.Ythdifdnjodbdnaa.Q
open Go.RowKit Go.Proofs.YthdifdnjodbdnaaW.PrintWords Go.Proofs.YthdifdnjodbdnaaW.PrintLast Go.Proofs.YthdifdnjodbdnaaW.PrintMore
attribute [local go_sem] max2_int min2_int max_two min_two max_three min_three max_four min_four   -- for this text's walks alone
set_option linter.unusedVariables false
set_option linter.unusedSimpArgs false

attribute [local go_sem high] eqA39
abbrev T18983 : Bool := true
abbrev F18983 : Bool := false
theorem qgsleuthlaw25estimategroups_0 {p : Prop} (h : p := by repeat (first | (with_reducible first | exact HB.out | apply below_alloc | apply pw_below_drewN | apply below_drew1 | refine below_set ?_ GE356.out | refine below_set ?_ GE357.out) | exact HB.out)) : p := h
theorem qgsleuthlaw25estimategroups_1 {p : Prop} (h : p := by (with_reducible repeat (first | refine blk_drewN ?_ _ | refine blk_drew ?_ | refine blk_alloc ?_ _)); exact BK356.out) : p := h
theorem qgsleuthlaw25estimategroups_2 {p : Prop} (h : p := by (with_reducible repeat (first | refine blk_drewN ?_ _ | refine blk_drew ?_ | refine blk_alloc ?_ _)); exact BK357.out) : p := h
theorem qgsleuthlaw25estimategroups_3 {p : Prop} (h : p := by (with_reducible repeat (first | apply Kd.N_alloc | apply Kd.N_drewN | apply Kd.N_drew)); exact HO_7.out) : p := h
theorem qgsleuthlaw25estimategroups_4 {p : Prop} (h : p := by (try simp only [List.map_toArray, List.map_cons, List.map_nil]); first | done | rfl | (simp only [List.length_drop, List.length_take]; rfl)) : p := h
theorem qgsleuthlaw25estimategroups_5 {p : Prop} (h : p := by first | (with_reducible assumption) | assumption) : p := h
theorem qgsleuthlaw25estimategroups_6 {p : Prop} (h : p := by repeat (first | (with_reducible first | exact HB.out | apply below_alloc | apply pw_below_drewN | apply below_drew1 | refine below_set ?_ GE356.out | refine below_set ?_ GE357.out | refine below_set ?_ GE386.out) | exact HB.out)) : p := h
theorem qgsleuthlaw25estimategroups_7 {p : Prop} (h : p := by repeat (first | (with_reducible exact HR381_12.out) | (with_reducible refine Kd.C_alloc ?_ _) | (with_reducible refine Kd.C_drewN ?_ _) | (with_reducible refine Kd.C_drew ?_) | exact HR381_12.out)) : p := h
theorem qgsleuthlaw25estimategroups_8 {p : Prop} (h : p := by repeat (first | (with_reducible exact HR381_13.out) | (with_reducible refine Kd.C_alloc ?_ _) | (with_reducible refine Kd.C_drewN ?_ _) | (with_reducible refine Kd.C_drew ?_) | exact HR381_13.out)) : p := h
theorem qgsleuthlaw25estimategroups_9 {p : Prop} (h : p := by repeat (first | (with_reducible exact HR380_2.out) | (with_reducible refine Kd.C_alloc ?_ _) | (with_reducible refine Kd.C_drewN ?_ _) | (with_reducible refine Kd.C_drew ?_) | exact HR380_2.out)) : p := h
theorem qgsleuthlaw25estimategroups_10 {p : Prop} (h : p := by repeat (first | (with_reducible first | exact HB.out | apply below_alloc | apply pw_below_drewN | apply below_drew1 | refine below_set ?_ GE356.out) | exact HB.out)) : p := h
theorem qgsleuthlaw25estimategroups_11 {p : Prop} (h : p := by repeat (first | exact (Kd.N_reads' HO_7.out).2.2 | (with_reducible refine Kd.C_alloc ?_ _) | (with_reducible refine Kd.C_drewN ?_ _) | (with_reducible refine Kd.C_drew ?_))) : p := h
theorem qgsleuthlaw25estimategroups_12 {p : Prop} (h : p := by repeat (first | (with_reducible first | exact HB.out | apply below_alloc | apply pw_below_drewN | apply below_drew1) | exact HB.out)) : p := h
/-! ### sleuthlaw25_EstimateGroups: function 5 -/
mutual
def sleuthlaw25_EstimateGroups.j0 : Nat → Int → List (S53) → Bool → Option (Bool)
 | 0, _, _, _ => none
 | k + 1, x2, x7, x28 => if x28 = true then ((estimate_By.f k x7 x2).bind fun bt362 => ((estimate_GroupOf.f 0 0 0 0 0 0 (⟨#[115]⟩ : ByteArray) (⟨#[]⟩ : ByteArray) (⟨#[]⟩ : ByteArray) 0 0 false ([] : List (S141)) ([] : List (S146)) x2).bind fun bt366 => (if bt362.2 = 12 then (if (bt362.1.length : Int) = 0 then (if bt366.2.2.2 = 12 then (some (bt366.1.toList == ([] : List UInt8) && (bt366.2.1.toList == ([] : List UInt8) && (bt366.2.2.1.toList == ([] : List UInt8))))) else (none)) else (none)) else (none)))) else (sleuthlaw25_EstimateGroups.l0 k x2 x7 0)
def sleuthlaw25_EstimateGroups.l0 : Nat → Int → List (S53) → Int → Option (Bool)
 | 0, _, _, _ => none
 | k + 1, x2, x7, x12 => if x12 < (x7.length : Int) then (sleuthlaw25_EstimateGroups.l1 k x2 x7 x12 0) else ((estimate_By.f k x7 x2).bind fun bt371 => (if bt371.2 = 0 then ((sleuthlaw25_by.f k x7 x2).bind fun t375 => ((sleuthlaw25_same.f k bt371.1 t375).bind fun t378 => (some t378))) else (none)))
def sleuthlaw25_EstimateGroups.l1 : Nat → Int → List (S53) → Int → Int → Option (Bool)
 | 0, _, _, _, _ => none
 | k + 1, x2, x7, x12, x13 => if 0 ≤ x12 then (if x12 < (x7.length : Int) then (if x13 < (((rd_T53 x7 x12).f2).length : Int) then (if 0 ≤ x13 then ((estimate_GroupOf.f ((rd_T58 ((rd_T53 x7 x12).f2) x13).f0) ((rd_T58 ((rd_T53 x7 x12).f2) x13).f1) ((rd_T58 ((rd_T53 x7 x12).f2) x13).f2) ((rd_T58 ((rd_T53 x7 x12).f2) x13).f3) ((rd_T58 ((rd_T53 x7 x12).f2) x13).f4) ((rd_T58 ((rd_T53 x7 x12).f2) x13).f5) ((rd_T58 ((rd_T53 x7 x12).f2) x13).f6) ((rd_T58 ((rd_T53 x7 x12).f2) x13).f7) ((rd_T58 ((rd_T53 x7 x12).f2) x13).f8) ((rd_T58 ((rd_T53 x7 x12).f2) x13).f9) ((rd_T58 ((rd_T53 x7 x12).f2) x13).f10) ((rd_T58 ((rd_T53 x7 x12).f2) x13).f11) ((rd_T58 ((rd_T53 x7 x12).f2) x13).f12) ((rd_T58 ((rd_T53 x7 x12).f2) x13).f13) x2).bind fun bt382 => (if bt382.2.2.2 = 0 then ((sleuthlaw25_group.f ((rd_T58 ((rd_T53 x7 x12).f2) x13).f0) ((rd_T58 ((rd_T53 x7 x12).f2) x13).f1) ((rd_T58 ((rd_T53 x7 x12).f2) x13).f2) ((rd_T58 ((rd_T53 x7 x12).f2) x13).f3) ((rd_T58 ((rd_T53 x7 x12).f2) x13).f4) ((rd_T58 ((rd_T53 x7 x12).f2) x13).f5) ((rd_T58 ((rd_T53 x7 x12).f2) x13).f6) ((rd_T58 ((rd_T53 x7 x12).f2) x13).f7) ((rd_T58 ((rd_T53 x7 x12).f2) x13).f8) ((rd_T58 ((rd_T53 x7 x12).f2) x13).f9) ((rd_T58 ((rd_T53 x7 x12).f2) x13).f10) ((rd_T58 ((rd_T53 x7 x12).f2) x13).f11) ((rd_T58 ((rd_T53 x7 x12).f2) x13).f12) ((rd_T58 ((rd_T53 x7 x12).f2) x13).f13) x2).bind fun bt389 => (if (!(bt382.1.toList == bt389.1.toList) || (!(bt382.2.1.toList == bt389.2.1.toList) || (!(bt382.2.2.1.toList == bt389.2.2.toList)))) = true then (none) else (sleuthlaw25_EstimateGroups.l1 k x2 x7 x12 (wrap64 (x13 + 1))))) else (none))) else (none)) else (sleuthlaw25_EstimateGroups.l0 k x2 x7 (wrap64 (x12 + 1)))) else (none)) else (none)
end
def sleuthlaw25_EstimateGroups.f (k : Nat) (l0_0 : List (S104)) (a0_1 : Int) (a0_2 : Int) (a0_3 : Int) (a0_4 : Int) (l0_5 : List (S193)) (a0_6 : Int) (a1_0 : Int) (a1_1 : Int) (a1_2 : Int) (a2 : Int) : Option (Bool) := (sleuthlaw25_known.f k).bind fun t358 => (if t358 = true then ((sleuthlaw25_weighted.f k l0_0 a0_1 a0_2 a0_3 a0_4 l0_5 a0_6 a1_0 a1_1 a1_2).bind fun t359 => (if a2 < 1 then (sleuthlaw25_EstimateGroups.j0 k a2 t359 true) else (sleuthlaw25_EstimateGroups.j0 k a2 t359 (decide (a2 > 3))))) else (none))
theorem sleuthlaw25_EstimateGroups.mono_l : ∀ k, (∀ y0 y1 y2, LeO (sleuthlaw25_EstimateGroups.j0 k y0 y1 y2) (sleuthlaw25_EstimateGroups.j0 (k + 1) y0 y1 y2)) ∧ (∀ y0 y1 y2, LeO (sleuthlaw25_EstimateGroups.l0 k y0 y1 y2) (sleuthlaw25_EstimateGroups.l0 (k + 1) y0 y1 y2)) ∧ (∀ y0 y1 y2 y3, LeO (sleuthlaw25_EstimateGroups.l1 k y0 y1 y2 y3) (sleuthlaw25_EstimateGroups.l1 (k + 1) y0 y1 y2 y3))
 | 0 => ⟨fun _ _ _ r h => by simp [sleuthlaw25_EstimateGroups.j0] at h, fun _ _ _ r h => by simp [sleuthlaw25_EstimateGroups.l0] at h, fun _ _ _ _ r h => by simp [sleuthlaw25_EstimateGroups.l1] at h⟩
 | k + 1 => by
  obtain ⟨ih0, ih1, ih2⟩ := sleuthlaw25_EstimateGroups.mono_l k
  refine ⟨?_, ?_, ?_⟩
  ·intro y0 y1 y2
   unfold sleuthlaw25_EstimateGroups.j0
   repeat' first
   | (with_reducible exact ih0 _ _ _)
   | (with_reducible exact ih1 _ _ _)
   | (with_reducible exact ih2 _ _ _ _)
   | (with_reducible exact estimate_By.mono _ _ _)
   | (with_reducible exact sleuthlaw25_by.mono _ _ _)
   | (with_reducible exact sleuthlaw25_known.mono _)
   | (with_reducible exact sleuthlaw25_same.mono _ _ _)
   | (with_reducible exact sleuthlaw25_weighted.mono _ _ _ _ _ _ _ _ _ _ _)
   | (with_reducible exact LeO.refl _)
   | (with_reducible exact LeO.none _)
   | (with_reducible refine LeO.ite ?_ ?_)
   | (with_reducible refine LeO.bind ?_ (fun _ => ?_))
   | exact ih0 _ _ _
   | exact ih1 _ _ _
   | exact ih2 _ _ _ _
   | exact estimate_By.mono _ _ _
   | exact sleuthlaw25_by.mono _ _ _
   | exact sleuthlaw25_known.mono _
   | exact sleuthlaw25_same.mono _ _ _
   | exact sleuthlaw25_weighted.mono _ _ _ _ _ _ _ _ _ _ _
   | exact LeO.none _
   | refine LeO.ite ?_ ?_
   | refine LeO.bind ?_ (fun _ => ?_)
  ·intro y0 y1 y2
   unfold sleuthlaw25_EstimateGroups.l0
   repeat' first
   | (with_reducible exact ih0 _ _ _)
   | (with_reducible exact ih1 _ _ _)
   | (with_reducible exact ih2 _ _ _ _)
   | (with_reducible exact estimate_By.mono _ _ _)
   | (with_reducible exact sleuthlaw25_by.mono _ _ _)
   | (with_reducible exact sleuthlaw25_known.mono _)
   | (with_reducible exact sleuthlaw25_same.mono _ _ _)
   | (with_reducible exact sleuthlaw25_weighted.mono _ _ _ _ _ _ _ _ _ _ _)
   | (with_reducible exact LeO.refl _)
   | (with_reducible exact LeO.none _)
   | (with_reducible refine LeO.ite ?_ ?_)
   | (with_reducible refine LeO.bind ?_ (fun _ => ?_))
   | exact ih0 _ _ _
   | exact ih1 _ _ _
   | exact ih2 _ _ _ _
   | exact estimate_By.mono _ _ _
   | exact sleuthlaw25_by.mono _ _ _
   | exact sleuthlaw25_known.mono _
   | exact sleuthlaw25_same.mono _ _ _
   | exact sleuthlaw25_weighted.mono _ _ _ _ _ _ _ _ _ _ _
   | exact LeO.none _
   | refine LeO.ite ?_ ?_
   | refine LeO.bind ?_ (fun _ => ?_)
  ·intro y0 y1 y2 y3
   unfold sleuthlaw25_EstimateGroups.l1
   repeat' first
   | (with_reducible exact ih0 _ _ _)
   | (with_reducible exact ih1 _ _ _)
   | (with_reducible exact ih2 _ _ _ _)
   | (with_reducible exact estimate_By.mono _ _ _)
   | (with_reducible exact sleuthlaw25_by.mono _ _ _)
   | (with_reducible exact sleuthlaw25_known.mono _)
   | (with_reducible exact sleuthlaw25_same.mono _ _ _)
   | (with_reducible exact sleuthlaw25_weighted.mono _ _ _ _ _ _ _ _ _ _ _)
   | (with_reducible exact LeO.refl _)
   | (with_reducible exact LeO.none _)
   | (with_reducible refine LeO.ite ?_ ?_)
   | (with_reducible refine LeO.bind ?_ (fun _ => ?_))
   | exact ih0 _ _ _
   | exact ih1 _ _ _
   | exact ih2 _ _ _ _
   | exact estimate_By.mono _ _ _
   | exact sleuthlaw25_by.mono _ _ _
   | exact sleuthlaw25_known.mono _
   | exact sleuthlaw25_same.mono _ _ _
   | exact sleuthlaw25_weighted.mono _ _ _ _ _ _ _ _ _ _ _
   | exact LeO.none _
   | refine LeO.ite ?_ ?_
   | refine LeO.bind ?_ (fun _ => ?_)
theorem sleuthlaw25_EstimateGroups.mono : ∀ a0 a1 a2 a3 a4 a5 a6 a7 a8 a9 a10 k, LeO (sleuthlaw25_EstimateGroups.f k a0 a1 a2 a3 a4 a5 a6 a7 a8 a9 a10) (sleuthlaw25_EstimateGroups.f (k + 1) a0 a1 a2 a3 a4 a5 a6 a7 a8 a9 a10) := by
 intro a0 a1 a2 a3 a4 a5 a6 a7 a8 a9 a10 k
 obtain ⟨ih0, ih1, ih2⟩ := sleuthlaw25_EstimateGroups.mono_l k
 unfold sleuthlaw25_EstimateGroups.f
 repeat' first
   | (with_reducible exact ih0 _ _ _)
   | (with_reducible exact ih1 _ _ _)
   | (with_reducible exact ih2 _ _ _ _)
   | (with_reducible exact estimate_By.mono _ _ _)
   | (with_reducible exact sleuthlaw25_by.mono _ _ _)
   | (with_reducible exact sleuthlaw25_known.mono _)
   | (with_reducible exact sleuthlaw25_same.mono _ _ _)
   | (with_reducible exact sleuthlaw25_weighted.mono _ _ _ _ _ _ _ _ _ _ _)
   | (with_reducible exact LeO.refl _)
   | (with_reducible exact LeO.none _)
   | (with_reducible refine LeO.ite ?_ ?_)
   | (with_reducible refine LeO.bind ?_ (fun _ => ?_))
   | exact ih0 _ _ _
   | exact ih1 _ _ _
   | exact ih2 _ _ _ _
   | exact estimate_By.mono _ _ _
   | exact sleuthlaw25_by.mono _ _ _
   | exact sleuthlaw25_known.mono _
   | exact sleuthlaw25_same.mono _ _ _
   | exact sleuthlaw25_weighted.mono _ _ _ _ _ _ _ _ _ _ _
   | exact LeO.none _
   | refine LeO.ite ?_ ?_
   | refine LeO.bind ?_ (fun _ => ?_)
def sleuthlaw25_EstimateGroups.T15 : Bool × List (List Nat × List Nat) := (true, [([], []), ([0], [0]), ([1], [1]), ([2], [2]), ([2], [2]), ([2], [2]), ([4, 5, 2], [2, 4, 5]), ([6, 2], [2, 6]), ([7, 2], [2, 7]), ([2], [2]), ([8, 9, 2], [2, 8, 9]), ([10, 2], [2, 10]), ([2], [2]), ([11, 12, 2, 2], [2, 11, 12]), ([3, 13, 2], [2, 3, 13]), ([2, 14], [2, 14])])
def sleuthlaw25_EstimateGroups.B15 : List Nat := [0, 1, 3, 7, 7, 7, 55, 119, 247, 7, 1015, 2039, 7, 8183, 16383, 32767]
theorem sleuthlaw25_EstimateGroups.tab15 : rtab .any (opsOf Try.f5 15) = sleuthlaw25_EstimateGroups.T15 := by kernel_rfl
theorem sleuthlaw25_EstimateGroups.bits15 : waitsOk sleuthlaw25_EstimateGroups.T15.2 sleuthlaw25_EstimateGroups.B15 = true := by kernel_rfl
set_option maxHeartbeats 8000000 in
set_option maxRecDepth 100000 in
theorem sleuthlaw25_EstimateGroups.calls (k : Nat) (A0_0 : Option Addr) (c0_0 : Nat) (l0_0 : List (S104)) (a0_1 : Int) (a0_2 : Int) (a0_3 : Int) (a0_4 : Int) (A0_5 : Option Addr) (c0_5 : Nat) (l0_5 : List (S193)) (a0_6 : Int) (a1_0 : Int) (a1_1 : Int) (a1_2 : Int) (a2 : Int) (r : Bool) (w : World) (hr0_0 : Kd.C k104 w A0_0 l0_0.length l0_0) (hc0_0 : l0_0.length ≤ c0_0) (hr0_5 : Kd.C k193 w A0_5 l0_5.length l0_5) (hc0_5 : l0_5.length ≤ c0_5) (h : sleuthlaw25_EstimateGroups.f k l0_0 a0_1 a0_2 a0_3 a0_4 l0_5 a0_6 a1_0 a1_1 a1_2 a2 = some r) :
  Calls Try.prog 5 #[.agg #[.slice A0_0 l0_0.length c0_0, .int .i8 a0_1, .int .i8 a0_2, .int .i8 a0_3, .int .i8 a0_4, .slice A0_5 l0_5.length c0_5, .int .u8 a0_6], .agg #[.int .u8 a1_0, .int .u8 a1_1, .int .u8 a1_2], .int .i64 a2] w fun e w' => e = .returned (.bool r) ∧ Below w.heap.size w w' := by
 have hu27 := Try.underlying27
 have hu28 := Try.underlying28
 have hu58 := Try.underlying58
 have hu39 := Try.underlying39
 have HR0_0 := Aside0.mk hr0_0
 have HC0_0 := Aside0.mk hc0_0
 clear hr0_0 hc0_0
 have HR0_5 := Aside0.mk hr0_5
 have HC0_5 := Aside0.mk hc0_5
 clear hr0_5 hc0_5
 have HB := Aside0.mk (Below.refl w.heap.size w)
 have H : ((sleuthlaw25_known.f k).bind fun t358 => (if t358 = true then ((sleuthlaw25_weighted.f k l0_0 a0_1 a0_2 a0_3 a0_4 l0_5 a0_6 a1_0 a1_1 a1_2).bind fun t359 => (if a2 < 1 then (sleuthlaw25_EstimateGroups.j0 k a2 t359 true) else (sleuthlaw25_EstimateGroups.j0 k a2 t359 (decide (a2 > 3))))) else (none))) = some r := h
 clear h
 replace H := Option.bind_eq_some_iff.mp H
 obtain ⟨t358, A40, H⟩ := H
 replace H : (if t358 = true then ((sleuthlaw25_weighted.f k l0_0 a0_1 a0_2 a0_3 a0_4 l0_5 a0_6 a1_0 a1_1 a1_2).bind fun t359 => (if a2 < 1 then (sleuthlaw25_EstimateGroups.j0 k a2 t359 true) else (sleuthlaw25_EstimateGroups.j0 k a2 t359 (decide (a2 > 3))))) else (none)) = some r := H
 have A4 := Aside0.mk A40
 clear A40
 by_cases c5 : t358 = true
 rotate_left
 ·replace c5 := Bool.eq_false_iff.mpr c5
  subst c5
  have H1 : (none) = some r := by rw [if_neg (show ¬ (false = true) by decide)] at H; exact H
  clear H
  have H := H1
  clear H1
  exact absurd H (by simp)
 subst c5
 have H1 : ((sleuthlaw25_weighted.f k l0_0 a0_1 a0_2 a0_3 a0_4 l0_5 a0_6 a1_0 a1_1 a1_2).bind fun t359 => (if a2 < 1 then (sleuthlaw25_EstimateGroups.j0 k a2 t359 true) else (sleuthlaw25_EstimateGroups.j0 k a2 t359 (decide (a2 > 3))))) = some r := by rw [if_pos rfl] at H; exact H
 clear H
 have H := H1
 clear H1
 replace H := Option.bind_eq_some_iff.mp H
 obtain ⟨t359, A60, H⟩ := H
 replace H : (if a2 < 1 then (sleuthlaw25_EstimateGroups.j0 k a2 t359 true) else (sleuthlaw25_EstimateGroups.j0 k a2 t359 (decide (a2 > 3)))) = some r := H
 have A6 := Aside0.mk A60
 clear A60
 have HC7 := Aside0.mk H
 clear H
 go_enter Try.func5, Try.ntmps5
 go_upto_region 4 with (first | ((with_reducible refine gate_dst (N := 3) rfl ?_); (try (refine gate_guard (by rfl) ?_; dsimp only)); refine box_event ?hg (N := 3) ?hd (cs := #[.slice A0_0 l0_0.length c0_0, .int .i8 a0_1, .int .i8 a0_2, .int .i8 a0_3, .int .i8 a0_4, .slice A0_5 l0_5.length c0_5, .int .u8 a0_6]) (t := 27) ?hr ?_; (case hd => rfl); (case hg => rfl); (case hr => first | (go_simp; done) | (go_simp; rfl)); intro gb356 hg w8 hbox hb; have n0_ := Aside0.mk (below_step qgsleuthlaw25estimategroups_12 hb); have n1_ := Aside0.mk (hbox); have n2_ := Aside0.mk ((by rw [hg]; exact (below_size qgsleuthlaw25estimategroups_12) : w.heap.size ≤ gb356)); have n3_ := Aside0.mk ((by rw [hg]; exact (below_size qgsleuthlaw25estimategroups_12) : w.heap.size ≤ gb356)); clear HB; have HB := n0_; have BK356 := n1_; have GW356 := n2_; have GE356 := n3_; clear n0_ n1_ n2_ n3_; clear hb hbox hg) | ((with_reducible refine gate_dst (N := 4) rfl ?_); (try (refine gate_guard (by rfl) ?_; dsimp only)); refine box_event ?hg (N := 4) ?hd (cs := #[.int .u8 a1_0, .int .u8 a1_1, .int .u8 a1_2]) (t := 28) ?hr ?_; (case hd => rfl); (case hg => rfl); (case hr => first | (go_simp; done) | (go_simp; rfl)); intro gb357 hg w9 hbox hb; have n0_ := Aside0.mk (blk_below (g := gb356) (o := .cells #[.slice A0_0 l0_0.length c0_0, .int .i8 a0_1, .int .i8 a0_2, .int .i8 a0_3, .int .i8 a0_4, .slice A0_5 l0_5.length c0_5, .int .u8 a0_6] 27 (0, 0)) qgsleuthlaw25estimategroups_1 hb); have n1_ := Aside0.mk (below_step qgsleuthlaw25estimategroups_10 hb); have n2_ := Aside0.mk (hbox); have n3_ := Aside0.mk ((by rw [hg]; exact (below_size qgsleuthlaw25estimategroups_10) : w.heap.size ≤ gb357)); have n4_ := Aside0.mk ((by rw [hg]; exact (below_size qgsleuthlaw25estimategroups_10) : w.heap.size ≤ gb357)); have n5_ := Aside0.mk ((by rw [hg]; exact Nat.ne_of_lt (blk_lt (g := gb356) (o := .cells #[.slice A0_0 l0_0.length c0_0, .int .i8 a0_1, .int .i8 a0_2, .int .i8 a0_3, .int .i8 a0_4, .slice A0_5 l0_5.length c0_5, .int .u8 a0_6] 27 (0, 0)) qgsleuthlaw25estimategroups_1) : gb356 ≠ gb357)); have n6_ := Aside0.mk ((by rw [hg]; exact Nat.ne_of_gt (blk_lt (g := gb356) (o := .cells #[.slice A0_0 l0_0.length c0_0, .int .i8 a0_1, .int .i8 a0_2, .int .i8 a0_3, .int .i8 a0_4, .slice A0_5 l0_5.length c0_5, .int .u8 a0_6] 27 (0, 0)) qgsleuthlaw25estimategroups_1) : gb357 ≠ gb356)); clear BK356; clear HB; have BK356 := n0_; have HB := n1_; have BK357 := n2_; have GW357 := n3_; have GE357 := n4_; have NB356_357 := n5_; have NB357_356 := n6_; clear n0_ n1_ n2_ n3_ n4_ n5_ n6_; clear hb hbox hg) | ((with_reducible refine gate_callee (f := 12) rfl ?_); refine goesL_ (some 18) rfl rfl Try.func12 (by kernel_rfl) rfl #[] rfl qgsleuthlaw25estimategroups_4 ?_; (with_reducible refine (sleuthlaw25_known.calls k  true _ A4.out).mono ?_); rintro e w10 ⟨rfl, hb⟩; refine ⟨_, rfl, ?_⟩; have n0_ := Aside0.mk (blk_below (g := gb356) (o := .cells #[.slice A0_0 l0_0.length c0_0, .int .i8 a0_1, .int .i8 a0_2, .int .i8 a0_3, .int .i8 a0_4, .slice A0_5 l0_5.length c0_5, .int .u8 a0_6] 27 (0, 0)) qgsleuthlaw25estimategroups_1 hb); have n1_ := Aside0.mk (blk_below (g := gb357) (o := .cells #[.int .u8 a1_0, .int .u8 a1_1, .int .u8 a1_2] 28 (0, 0)) qgsleuthlaw25estimategroups_2 hb); have n2_ := Aside0.mk (below_step qgsleuthlaw25estimategroups_0 hb); clear BK356; clear BK357; clear HB; have BK356 := n0_; have BK357 := n1_; have HB := n2_; clear n0_ n1_ n2_; (try clear hb); (try clear hb2); (try clear hk); (try clear hi); have hnb11 := NB356_357.out; have hnc11 := NB357_356.out; have hcz12_0 : w10.cell? ⟨gb356, 0, none⟩ = some (.slice A0_0 l0_0.length c0_0) := (blk_cell BK356.out 0).trans rfl; have hcz12_1 : w10.cell? ⟨gb356, 1, none⟩ = some (.int .i8 a0_1) := (blk_cell BK356.out 1).trans rfl; have hcz12_2 : w10.cell? ⟨gb356, 2, none⟩ = some (.int .i8 a0_2) := (blk_cell BK356.out 2).trans rfl; have hcz12_3 : w10.cell? ⟨gb356, 3, none⟩ = some (.int .i8 a0_3) := (blk_cell BK356.out 3).trans rfl; have hcz12_4 : w10.cell? ⟨gb356, 4, none⟩ = some (.int .i8 a0_4) := (blk_cell BK356.out 4).trans rfl; have hcz12_5 : w10.cell? ⟨gb356, 5, none⟩ = some (.slice A0_5 l0_5.length c0_5) := (blk_cell BK356.out 5).trans rfl; have hcz12_6 : w10.cell? ⟨gb356, 6, none⟩ = some (.int .u8 a0_6) := (blk_cell BK356.out 6).trans rfl; have hfz12_0 := blk_frozen BK356.out 0; have hfz12_1 := blk_frozen BK356.out 1; have hfz12_2 := blk_frozen BK356.out 2; have hfz12_3 := blk_frozen BK356.out 3; have hfz12_4 := blk_frozen BK356.out 4; have hfz12_5 := blk_frozen BK356.out 5; have hfz12_6 := blk_frozen BK356.out 6; have hcz13_0 : w10.cell? ⟨gb357, 0, none⟩ = some (.int .u8 a1_0) := (blk_cell BK357.out 0).trans rfl; have hcz13_1 : w10.cell? ⟨gb357, 1, none⟩ = some (.int .u8 a1_1) := (blk_cell BK357.out 1).trans rfl; have hcz13_2 : w10.cell? ⟨gb357, 2, none⟩ = some (.int .u8 a1_2) := (blk_cell BK357.out 2).trans rfl; have hfz13_0 := blk_frozen BK357.out 0; have hfz13_1 := blk_frozen BK357.out 1; have hfz13_2 := blk_frozen BK357.out 2) | ((with_reducible refine gate_callee (f := 13) rfl ?_); refine goesL_ (some 22) rfl rfl Try.func13 (by kernel_rfl) rfl #[.agg #[.slice A0_0 l0_0.length c0_0, .int .i8 a0_1, .int .i8 a0_2, .int .i8 a0_3, .int .i8 a0_4, .slice A0_5 l0_5.length c0_5, .int .u8 a0_6], .agg #[.int .u8 a1_0, .int .u8 a1_1, .int .u8 a1_2]] rfl qgsleuthlaw25estimategroups_4 ?_; (with_reducible refine (sleuthlaw25_weighted.calls k _ _ l0_0 a0_1 a0_2 a0_3 a0_4 _ _ l0_5 a0_6 a1_0 a1_1 a1_2 t359 _ ?side1 ?side2 ?side3 ?side4 A6.out).mono ?_); (case side1 => repeat (first | exact (Kd.C_below HR0_0.out HB.out) | (with_reducible refine Kd.C_alloc ?_ _) | (with_reducible refine Kd.C_drewN ?_ _) | (with_reducible refine Kd.C_drew ?_))); (case side2 => exact HC0_0.out); (case side3 => repeat (first | exact (Kd.C_below HR0_5.out HB.out) | (with_reducible refine Kd.C_alloc ?_ _) | (with_reducible refine Kd.C_drewN ?_ _) | (with_reducible refine Kd.C_drew ?_))); (case side4 => exact HC0_5.out); rintro e w14 ⟨v360, rfl, ho0, hb⟩; refine ⟨_, rfl, ?_⟩; have n0_ := Aside0.mk (Kd.N_lower (Kd.N_mono (ok' := fun k_ => k_ ≠ gb356 ∧ k_ ≠ gb357) (Kd.N_mono (ok' := fun k_ => True ∧ _ ≤ k_ ∧ True) ho0 (fun _ h_ => ⟨trivial, h_, trivial⟩)) (fun k_ hk_ => ⟨(Kd.freshB (g := gb356) (o := .cells #[.slice A0_0 l0_0.length c0_0, .int .i8 a0_1, .int .i8 a0_2, .int .i8 a0_3, .int .i8 a0_4, .slice A0_5 l0_5.length c0_5, .int .u8 a0_6] 27 (0, 0)) qgsleuthlaw25estimategroups_1 k_ hk_.2.1), (Kd.freshB (g := gb357) (o := .cells #[.int .u8 a1_0, .int .u8 a1_1, .int .u8 a1_2] 28 (0, 0)) qgsleuthlaw25estimategroups_2 k_ hk_.2.1)⟩)) (below_size qgsleuthlaw25estimategroups_0)); have n1_ := Aside0.mk (blk_below (g := gb356) (o := .cells #[.slice A0_0 l0_0.length c0_0, .int .i8 a0_1, .int .i8 a0_2, .int .i8 a0_3, .int .i8 a0_4, .slice A0_5 l0_5.length c0_5, .int .u8 a0_6] 27 (0, 0)) qgsleuthlaw25estimategroups_1 hb); have n2_ := Aside0.mk (blk_below (g := gb357) (o := .cells #[.int .u8 a1_0, .int .u8 a1_1, .int .u8 a1_2] 28 (0, 0)) qgsleuthlaw25estimategroups_2 hb); have n3_ := Aside0.mk (below_step qgsleuthlaw25estimategroups_0 hb); clear BK356; clear BK357; clear HB; have HO361 := n0_; have BK356 := n1_; have BK357 := n2_; have HB := n3_; clear n0_ n1_ n2_ n3_; (try clear hb); (try clear hb2); (try clear hk); (try clear hi); (try clear ho0)))
 (try simp only [Act.put, List.setIfInBounds_toArray, List.set_cons_zero, List.set_cons_succ])
 go_cut [28] (fun v28 wc => ∃ (kq : Nat) (x28_6 : Bool), v28 = .bool x28_6 ∧ Aside0 (sleuthlaw25_EstimateGroups.j0 kq a2 t359 x28_6 = some r) ∧ Aside0 (kq ≤ k) ∧ Aside0 (Kd.N k53 53 wc w.heap.size (fun k_ => k_ ≠ gb356 ∧ k_ ≠ gb357) v360 t359) ∧ Aside0 (wc.heap[gb356]? = some (.cells #[(.slice A0_0 l0_0.length c0_0), .int .i8 a0_1, .int .i8 a0_2, .int .i8 a0_3, .int .i8 a0_4, (.slice A0_5 l0_5.length c0_5), .int .u8 a0_6] 27 (0, 0))) ∧ Aside0 (wc.heap[gb357]? = some (.cells #[.int .u8 a1_0, .int .u8 a1_1, .int .u8 a1_2] 28 (0, 0))) ∧ Aside0 (Below w.heap.size w wc))
 case first =>
  have H := HC7.out
  clear HC7
  by_cases c15 : a2 < 1
  ·rw [if_pos c15] at H
   have c15b0 : decide (a2 < 1) = true := decide_eq_true c15
   clear c15
   (first | rw [c15b0] | (simp only [i64_w, i32_w]; rw [c15b0]) | skip)
   have H' := Aside0.mk H
   clear H
   go_wp2
   go_meet
   case rel => exact ⟨_, (true), (by first | rfl | (simp; done) | (simp [*]; done)), H', ⟨by first | omega | exact Nat.le_refl _⟩, ⟨by (with_reducible repeat (first | apply Kd.N_alloc | apply Kd.N_drewN | apply Kd.N_drew)); exact HO361.out⟩, ⟨qgsleuthlaw25estimategroups_1⟩, ⟨qgsleuthlaw25estimategroups_2⟩, ⟨qgsleuthlaw25estimategroups_0⟩⟩
  rw [if_neg c15] at H
  have c15b0 : decide (a2 < 1) = false := decide_eq_false c15
  clear c15
  (first | rw [c15b0] | (simp only [i64_w, i32_w]; rw [c15b0]) | skip)
  have H' := Aside0.mk H
  clear H
  go_wp2
  go_meet
  case rel => exact ⟨_, (decide (a2 > 3)), (by first | rfl | (simp; done) | (simp [*]; done)), H', ⟨by first | omega | exact Nat.le_refl _⟩, ⟨by (with_reducible repeat (first | apply Kd.N_alloc | apply Kd.N_drewN | apply Kd.N_drew)); exact HO361.out⟩, ⟨qgsleuthlaw25estimategroups_1⟩, ⟨qgsleuthlaw25estimategroups_2⟩, ⟨qgsleuthlaw25estimategroups_0⟩⟩
 clear HC7
 try clear c1
 try clear p2
 try clear c5
 try clear c11
 try clear c12
 try clear c13
 try clear c15
 try clear c15b0
 try clear hcz12_0
 try clear hcz12_1
 try clear hcz12_2
 try clear hcz12_3
 try clear hcz12_4
 try clear hcz12_5
 try clear hcz12_6
 try clear hcz13_0
 try clear hcz13_1
 try clear hcz13_2
 try clear hfz12_0
 try clear hfz12_1
 try clear hfz12_2
 try clear hfz12_3
 try clear hfz12_4
 try clear hfz12_5
 try clear hfz12_6
 try clear hfz13_0
 try clear hfz13_1
 try clear hfz13_2
 obtain ⟨kq, x28_6, rfl, HA, HJ6, HO_7, BK356, BK357, HB⟩ := hcut
 cases kq with
 | zero => exact absurd HA.out (by simp [sleuthlaw25_EstimateGroups.j0])
 | succ kj6 =>
  have H := HA.out
  clear HA
  simp only [sleuthlaw25_EstimateGroups.j0] at H
  by_cases c16 : x28_6 = true
  ·subst c16
   have H1 : ((estimate_By.f kj6 t359 a2).bind fun bt362 => ((estimate_GroupOf.f 0 0 0 0 0 0 (⟨#[115]⟩ : ByteArray) (⟨#[]⟩ : ByteArray) (⟨#[]⟩ : ByteArray) 0 0 false ([] : List (S141)) ([] : List (S146)) a2).bind fun bt366 => (if bt362.2 = 12 then (if (bt362.1.length : Int) = 0 then (if bt366.2.2.2 = 12 then (some (bt366.1.toList == ([] : List UInt8) && (bt366.2.1.toList == ([] : List UInt8) && (bt366.2.2.1.toList == ([] : List UInt8))))) else (none)) else (none)) else (none)))) = some r := by rw [if_pos rfl] at H; exact H
   clear H
   have H := H1
   clear H1
   replace H := Option.bind_eq_some_iff.mp H
   obtain ⟨⟨t362, t363⟩, A170, H⟩ := H
   replace H : ((estimate_GroupOf.f 0 0 0 0 0 0 (⟨#[115]⟩ : ByteArray) (⟨#[]⟩ : ByteArray) (⟨#[]⟩ : ByteArray) 0 0 false ([] : List (S141)) ([] : List (S146)) a2).bind fun bt366 => (if t363 = 12 then (if (t362.length : Int) = 0 then (if bt366.2.2.2 = 12 then (some (bt366.1.toList == ([] : List UInt8) && (bt366.2.1.toList == ([] : List UInt8) && (bt366.2.2.1.toList == ([] : List UInt8))))) else (none)) else (none)) else (none))) = some r := H
   have A17 := Aside0.mk A170
   clear A170
   replace H := Option.bind_eq_some_iff.mp H
   obtain ⟨⟨t366, t367, t368, t369⟩, A180, H⟩ := H
   replace H : (if t363 = 12 then (if (t362.length : Int) = 0 then (if t369 = 12 then (some (t366.toList == ([] : List UInt8) && (t367.toList == ([] : List UInt8) && (t368.toList == ([] : List UInt8))))) else (none)) else (none)) else (none)) = some r := H
   have A18 := Aside0.mk A180
   clear A180
   by_cases c19 : t363 = 12
   rotate_left
   ·rw [if_neg c19] at H
    have c19b0 : (t363 == 12) = false := beq_eq_false_iff_ne.mpr c19
    have c19b1 : (t363 != 12) = true := bne_iff_ne.mpr c19
    exact absurd H (by simp)
   rw [if_pos c19] at H
   have c19b0 : (t363 == 12) = true := beq_iff_eq.mpr c19
   have c19b1 : (t363 != 12) = false := bne_eq_false_iff_eq.mpr c19
   clear c19
   by_cases c20 : (t362.length : Int) = 0
   rotate_left
   ·rw [if_neg c20] at H
    have c20b0 : ((t362.length : Int) == 0) = false := beq_eq_false_iff_ne.mpr c20
    have c20b1 : ((t362.length : Int) != 0) = true := bne_iff_ne.mpr c20
    have c20b2 : ¬ (t362 = []) := fun h_ => c20 (by rw [h_]; rfl)
    exact absurd H (by simp)
   rw [if_pos c20] at H
   have c20b0 : ((t362.length : Int) == 0) = true := beq_iff_eq.mpr c20
   have c20b1 : ((t362.length : Int) != 0) = false := bne_eq_false_iff_eq.mpr c20
   clear c20
   by_cases c21 : t369 = 12
   rotate_left
   ·rw [if_neg c21] at H
    have c21b0 : (t369 == 12) = false := beq_eq_false_iff_ne.mpr c21
    have c21b1 : (t369 != 12) = true := bne_iff_ne.mpr c21
    exact absurd H (by simp)
   rw [if_pos c21] at H
   have c21b0 : (t369 == 12) = true := beq_iff_eq.mpr c21
   have c21b1 : (t369 != 12) = false := bne_eq_false_iff_eq.mpr c21
   clear c21
   obtain rfl := Option.some.inj H
   obtain ⟨Ao22, co22, eo22⟩ := Kd.N_slice HO_7.out
   subst eo22
   go_wp2_with (first | ((with_reducible refine gate_callee (f := 14) rfl ?_); refine goesL_ (some 32) rfl rfl Try.func14 (by kernel_rfl) rfl #[.slice Ao22 t359.length co22, .int .i64 a2] rfl qgsleuthlaw25estimategroups_4 ?_; (with_reducible refine (estimate_By.calls kj6 _ _ t359 a2 t362 t363 _ ?side1 ?side2 A17.out).mono ?_); (case side1 => exact qgsleuthlaw25estimategroups_11); (case side2 => exact (Kd.N_reads' HO_7.out).2.1); rintro e w23 ⟨v364, rfl, ho0, hb⟩; refine ⟨_, rfl, ?_⟩; have n0_ := Aside0.mk (Kd.N_elder' qgsleuthlaw25estimategroups_3 (Kd.R_base ho0) hb); have n1_ := Aside0.mk (Kd.R_lower ho0 (below_size qgsleuthlaw25estimategroups_0)); have n2_ := Aside0.mk (blk_below (g := gb356) (o := .cells #[.slice A0_0 l0_0.length c0_0, .int .i8 a0_1, .int .i8 a0_2, .int .i8 a0_3, .int .i8 a0_4, .slice A0_5 l0_5.length c0_5, .int .u8 a0_6] 27 (0, 0)) qgsleuthlaw25estimategroups_1 hb); have n3_ := Aside0.mk (blk_below (g := gb357) (o := .cells #[.int .u8 a1_0, .int .u8 a1_1, .int .u8 a1_2] 28 (0, 0)) qgsleuthlaw25estimategroups_2 hb); have n4_ := Aside0.mk (below_step qgsleuthlaw25estimategroups_0 hb); clear HO_7; clear BK356; clear BK357; clear HB; have HO_7 := n0_; have HO365 := n1_; have BK356 := n2_; have BK357 := n3_; have HB := n4_; clear n0_ n1_ n2_ n3_ n4_; (try clear hb); (try clear hb2); (try clear hk); (try clear hi); (try clear ho0)) | ((with_reducible refine gate_callee (f := 20) rfl ?_); refine goesL_ (some 38) rfl rfl Try.func20 (by kernel_rfl) rfl #[.agg #[.int .i64 0, .int .i64 0, .int .i64 0, .int .i64 0, .int .i64 0, .int .i64 0, .string (⟨#[115]⟩ : ByteArray), .string (⟨#[]⟩ : ByteArray), .string (⟨#[]⟩ : ByteArray), .int .i64 0, .int .i64 0, .bool false, .slice none 0 0, .slice none 0 0], .int .i64 a2] rfl qgsleuthlaw25estimategroups_4 ?_; (refine (estimate_GroupOf.calls 0 0 0 0 0 0 (⟨#[115]⟩ : ByteArray) (⟨#[]⟩ : ByteArray) (⟨#[]⟩ : ByteArray) 0 0 false _ _ ([] : List (S141)) _ _ ([] : List (S146)) a2 t366 t367 t368 t369 _ ?side1 ?side2 ?side3 ?side4 A18.out).mono ?_); (case side1 => exact Kd.C_nil _ _); (case side2 => exact Nat.le_refl _); (case side3 => exact Kd.C_nil _ _); (case side4 => exact Nat.le_refl _); rintro e w24 ⟨rfl, hb⟩; refine ⟨_, rfl, ?_⟩; have n0_ := Aside0.mk (Kd.N_below qgsleuthlaw25estimategroups_3 hb); have n1_ := Aside0.mk (Kd.R_below (by (with_reducible repeat (first | apply Kd.R_alloc | apply Kd.R_drewN | apply Kd.R_drew)); exact HO365.out) hb); have n2_ := Aside0.mk (blk_below (g := gb356) (o := .cells #[.slice A0_0 l0_0.length c0_0, .int .i8 a0_1, .int .i8 a0_2, .int .i8 a0_3, .int .i8 a0_4, .slice A0_5 l0_5.length c0_5, .int .u8 a0_6] 27 (0, 0)) qgsleuthlaw25estimategroups_1 hb); have n3_ := Aside0.mk (blk_below (g := gb357) (o := .cells #[.int .u8 a1_0, .int .u8 a1_1, .int .u8 a1_2] 28 (0, 0)) qgsleuthlaw25estimategroups_2 hb); have n4_ := Aside0.mk (below_step qgsleuthlaw25estimategroups_0 hb); clear HO_7; clear HO365; clear BK356; clear BK357; clear HB; have HO_7 := n0_; have HO365 := n1_; have BK356 := n2_; have BK357 := n3_; have HB := n4_; clear n0_ n1_ n2_ n3_ n4_; (try clear hb); (try clear hb2); (try clear hk); (try clear hi)) | ((with_reducible refine gate_dst (N := 10) rfl ?_); (try (refine gate_guard (by rfl) ?_; dsimp only)); refine box_event ?hg (N := 10) ?hd (cs := #[.string (⟨#[]⟩ : ByteArray), .string (⟨#[]⟩ : ByteArray), .string (⟨#[]⟩ : ByteArray)]) (t := 39) ?hr ?_; (case hd => rfl); (case hg => rfl); (case hr => first | (go_simp; done) | (go_simp; rfl)); intro gb370 hg w25 hbox hb; have n0_ := Aside0.mk (Kd.N_below (Kd.N_elderB qgsleuthlaw25estimategroups_3 gb370 (Nat.le_of_eq hg.symm)) hb); have n1_ := Aside0.mk (Kd.R_below (by (with_reducible repeat (first | apply Kd.R_alloc | apply Kd.R_drewN | apply Kd.R_drew)); exact HO365.out) hb); have n2_ := Aside0.mk (blk_below (g := gb356) (o := .cells #[.slice A0_0 l0_0.length c0_0, .int .i8 a0_1, .int .i8 a0_2, .int .i8 a0_3, .int .i8 a0_4, .slice A0_5 l0_5.length c0_5, .int .u8 a0_6] 27 (0, 0)) qgsleuthlaw25estimategroups_1 hb); have n3_ := Aside0.mk (blk_below (g := gb357) (o := .cells #[.int .u8 a1_0, .int .u8 a1_1, .int .u8 a1_2] 28 (0, 0)) qgsleuthlaw25estimategroups_2 hb); have n4_ := Aside0.mk (below_step qgsleuthlaw25estimategroups_0 hb); have n5_ := Aside0.mk (hbox); have n6_ := Aside0.mk ((by rw [hg]; exact (below_size qgsleuthlaw25estimategroups_0) : w.heap.size ≤ gb370)); have n7_ := Aside0.mk ((by rw [hg]; exact (below_size qgsleuthlaw25estimategroups_0) : w.heap.size ≤ gb370)); have n8_ := Aside0.mk ((by rw [hg]; exact Nat.ne_of_lt (blk_lt (g := gb356) (o := .cells #[.slice A0_0 l0_0.length c0_0, .int .i8 a0_1, .int .i8 a0_2, .int .i8 a0_3, .int .i8 a0_4, .slice A0_5 l0_5.length c0_5, .int .u8 a0_6] 27 (0, 0)) qgsleuthlaw25estimategroups_1) : gb356 ≠ gb370)); have n9_ := Aside0.mk ((by rw [hg]; exact Nat.ne_of_gt (blk_lt (g := gb356) (o := .cells #[.slice A0_0 l0_0.length c0_0, .int .i8 a0_1, .int .i8 a0_2, .int .i8 a0_3, .int .i8 a0_4, .slice A0_5 l0_5.length c0_5, .int .u8 a0_6] 27 (0, 0)) qgsleuthlaw25estimategroups_1) : gb370 ≠ gb356)); have n10_ := Aside0.mk ((by rw [hg]; exact Nat.ne_of_lt (blk_lt (g := gb357) (o := .cells #[.int .u8 a1_0, .int .u8 a1_1, .int .u8 a1_2] 28 (0, 0)) qgsleuthlaw25estimategroups_2) : gb357 ≠ gb370)); have n11_ := Aside0.mk ((by rw [hg]; exact Nat.ne_of_gt (blk_lt (g := gb357) (o := .cells #[.int .u8 a1_0, .int .u8 a1_1, .int .u8 a1_2] 28 (0, 0)) qgsleuthlaw25estimategroups_2) : gb370 ≠ gb357)); clear HO_7; clear HO365; clear BK356; clear BK357; clear HB; have HO_7 := n0_; have HO365 := n1_; have BK356 := n2_; have BK357 := n3_; have HB := n4_; have BK370 := n5_; have GW370 := n6_; have GE370 := n7_; have NB356_370 := n8_; have NB370_356 := n9_; have NB357_370 := n10_; have NB370_357 := n11_; clear n0_ n1_ n2_ n3_ n4_ n5_ n6_ n7_ n8_ n9_ n10_ n11_; clear hb hbox hg; have hnb26 := NB370_356.out; have hnc26 := NB356_370.out; have hnb27 := NB370_357.out; have hnc27 := NB357_370.out; have hcz28_0 : w25.cell? ⟨gb370, 0, none⟩ = some (.string (⟨#[]⟩ : ByteArray)) := (blk_cell BK370.out 0).trans rfl; have hcz28_1 : w25.cell? ⟨gb370, 1, none⟩ = some (.string (⟨#[]⟩ : ByteArray)) := (blk_cell BK370.out 1).trans rfl; have hcz28_2 : w25.cell? ⟨gb370, 2, none⟩ = some (.string (⟨#[]⟩ : ByteArray)) := (blk_cell BK370.out 2).trans rfl; have hfz28_0 := blk_frozen BK370.out 0; have hfz28_1 := blk_frozen BK370.out 1; have hfz28_2 := blk_frozen BK370.out 2; obtain ⟨Ao29, co29, eo29⟩ := Kd.R_slice HO365.out; subst eo29))
   go_ret
   exact ⟨by first | rfl | (simp [errW_none, errW_some] <;> rfl) | (simp [*, errW_none, errW_some] <;> rfl), by repeat (first | (with_reducible first | exact HB.out | apply below_alloc | apply pw_below_drewN | apply below_drew1 | refine below_set ?_ GE356.out | refine below_set ?_ GE357.out | refine below_set ?_ GE370.out) | exact HB.out)⟩
  replace c16 := Bool.eq_false_iff.mpr c16
  subst c16
  have H1 : (sleuthlaw25_EstimateGroups.l0 kj6 a2 t359 0) = some r := by rw [if_neg (show ¬ (false = true) by decide)] at H; exact H
  clear H
  have H := H1
  clear H1
  have H' := Aside0.mk H
  clear H
  go_wp2
  go_loopg [12] kj6 (fun kq v12 w' => ∃ (x12_2 : Int), v12 = .int .i64 x12_2 ∧ Aside0 (sleuthlaw25_EstimateGroups.l0 kq a2 t359 x12_2 = some r) ∧ Aside0 (kq ≤ kj6) ∧ Aside0 (Kd.N k53 53 w' w.heap.size (fun k_ => k_ ≠ gb356 ∧ k_ ≠ gb357) v360 t359) ∧ Aside0 (w'.heap[gb356]? = some (.cells #[(.slice A0_0 l0_0.length c0_0), .int .i8 a0_1, .int .i8 a0_2, .int .i8 a0_3, .int .i8 a0_4, (.slice A0_5 l0_5.length c0_5), .int .u8 a0_6] 27 (0, 0))) ∧ Aside0 (w'.heap[gb357]? = some (.cells #[.int .u8 a1_0, .int .u8 a1_1, .int .u8 a1_2] 28 (0, 0))) ∧ Aside0 (Below w.heap.size w w'))
  case atStart => exact ⟨(0), (by first | rfl | (simp; done) | (simp [*]; done)), H', ⟨Nat.le_refl _⟩, ⟨qgsleuthlaw25estimategroups_3⟩, ⟨qgsleuthlaw25estimategroups_1⟩, ⟨qgsleuthlaw25estimategroups_2⟩, ⟨qgsleuthlaw25estimategroups_0⟩⟩
  clear H'
  try clear c1
  try clear c2
  try clear p2
  try clear c3
  try clear c4
  try clear c5
  try clear c11
  try clear c12
  try clear c13
  try clear c14
  try clear c15
  try clear c15b0
  try clear c16
  try clear c19
  try clear c19b0
  try clear c19b1
  try clear c20
  try clear c20b0
  try clear c20b1
  try clear c20b2
  try clear c21
  try clear c21b0
  try clear c21b1
  try clear c26
  try clear c27
  try clear c34
  try clear c35
  try clear c42
  try clear c43
  try clear c50
  try clear c51
  try clear hcz12_0
  try clear hcz12_1
  try clear hcz12_2
  try clear hcz12_3
  try clear hcz12_4
  try clear hcz12_5
  try clear hcz12_6
  try clear hcz13_0
  try clear hcz13_1
  try clear hcz13_2
  try clear hcz28_0
  try clear hcz28_1
  try clear hcz28_2
  try clear hcz36_0
  try clear hcz36_1
  try clear hcz36_2
  try clear hcz44_0
  try clear hcz44_1
  try clear hcz44_2
  try clear hcz52_0
  try clear hcz52_1
  try clear hcz52_2
  try clear hfz12_0
  try clear hfz12_1
  try clear hfz12_2
  try clear hfz12_3
  try clear hfz12_4
  try clear hfz12_5
  try clear hfz12_6
  try clear hfz13_0
  try clear hfz13_1
  try clear hfz13_2
  try clear hfz28_0
  try clear hfz28_1
  try clear hfz28_2
  try clear hfz36_0
  try clear hfz36_1
  try clear hfz36_2
  try clear hfz44_0
  try clear hfz44_1
  try clear hfz44_2
  try clear hfz52_0
  try clear hfz52_1
  try clear hfz52_2
  try clear p2
  obtain ⟨x12_2, rfl, HA, HK2, HO_7, BK356, BK357, HB⟩ := hrel
  cases gk with
  | zero => exact absurd HA.out (by simp [sleuthlaw25_EstimateGroups.l0])
  | succ k2 =>
   have H := HA.out
   clear HA
   simp only [sleuthlaw25_EstimateGroups.l0] at H
   by_cases c53 : x12_2 < (t359.length : Int)
   rotate_left
   ·rw [if_neg c53] at H
    have c53b0 : decide (x12_2 < (t359.length : Int)) = false := decide_eq_false c53
    clear c53
    replace H := Option.bind_eq_some_iff.mp H
    obtain ⟨⟨t371, t372⟩, A860, H⟩ := H
    replace H : (if t372 = 0 then ((sleuthlaw25_by.f k2 t359 a2).bind fun t375 => ((sleuthlaw25_same.f k2 t371 t375).bind fun t378 => (some t378))) else (none)) = some r := H
    have A86 := Aside0.mk A860
    clear A860
    by_cases c87 : t372 = 0
    rotate_left
    ·rw [if_neg c87] at H
     have c87b0 : (t372 == 0) = false := beq_eq_false_iff_ne.mpr c87
     have c87b1 : (t372 != 0) = true := bne_iff_ne.mpr c87
     exact absurd H (by simp)
    rw [if_pos c87] at H
    have c87b0 : (t372 == 0) = true := beq_iff_eq.mpr c87
    have c87b1 : (t372 != 0) = false := bne_eq_false_iff_eq.mpr c87
    clear c87
    replace H := Option.bind_eq_some_iff.mp H
    obtain ⟨t375, A880, H⟩ := H
    replace H : ((sleuthlaw25_same.f k2 t371 t375).bind fun t378 => (some t378)) = some r := H
    have A88 := Aside0.mk A880
    clear A880
    replace H := Option.bind_eq_some_iff.mp H
    obtain ⟨t378, A890, H⟩ := H
    replace H : (some t378) = some r := H
    have A89 := Aside0.mk A890
    clear A890
    obtain rfl := Option.some.inj H
    obtain ⟨Ao90, co90, eo90⟩ := Kd.N_slice HO_7.out
    subst eo90
    go_wp2_with (first | ((with_reducible refine gate_callee (f := 14) rfl ?_); refine goesL_ (some 105) rfl rfl Try.func14 (by kernel_rfl) rfl #[.slice Ao90 t359.length co90, .int .i64 a2] rfl qgsleuthlaw25estimategroups_4 ?_; (with_reducible refine (estimate_By.calls k2 _ _ t359 a2 t371 t372 _ ?side1 ?side2 A86.out).mono ?_); (case side1 => exact qgsleuthlaw25estimategroups_11); (case side2 => exact (Kd.N_reads' HO_7.out).2.1); rintro e w91 ⟨v373, rfl, ho0, hb⟩; refine ⟨_, rfl, ?_⟩; have n0_ := Aside0.mk (Kd.N_elder' qgsleuthlaw25estimategroups_3 (Kd.R_base ho0) hb); have n1_ := Aside0.mk (Kd.R_lower ho0 (below_size qgsleuthlaw25estimategroups_0)); have n2_ := Aside0.mk (blk_below (g := gb356) (o := .cells #[.slice A0_0 l0_0.length c0_0, .int .i8 a0_1, .int .i8 a0_2, .int .i8 a0_3, .int .i8 a0_4, .slice A0_5 l0_5.length c0_5, .int .u8 a0_6] 27 (0, 0)) qgsleuthlaw25estimategroups_1 hb); have n3_ := Aside0.mk (blk_below (g := gb357) (o := .cells #[.int .u8 a1_0, .int .u8 a1_1, .int .u8 a1_2] 28 (0, 0)) qgsleuthlaw25estimategroups_2 hb); have n4_ := Aside0.mk (below_step qgsleuthlaw25estimategroups_0 hb); clear HO_7; clear BK356; clear BK357; clear HB; have HO_7 := n0_; have HO374 := n1_; have BK356 := n2_; have BK357 := n3_; have HB := n4_; clear n0_ n1_ n2_ n3_ n4_; (try clear hb); (try clear hb2); (try clear hk); (try clear hi); (try clear ho0)) | (go_at_call 23; (with_reducible refine (sleuthlaw25_by.calls k2 _ _ t359 a2 t375 _ ?side1 ?side2 A88.out).mono ?_); (case side1 => exact qgsleuthlaw25estimategroups_11); (case side2 => exact (Kd.N_reads' HO_7.out).2.1); rintro e w92 ⟨v376, rfl, ho0, hb⟩; have n0_ := Aside0.mk (Kd.N_elder' qgsleuthlaw25estimategroups_3 (Kd.R_base ho0) hb); have n1_ := Aside0.mk (Kd.R_elder' (by (with_reducible repeat (first | apply Kd.R_alloc | apply Kd.R_drewN | apply Kd.R_drew)); exact HO374.out) (Kd.R_base ho0) hb); have n2_ := Aside0.mk (Kd.R_lower (Kd.R_new' ho0 (Kd.R_lt (by (with_reducible repeat (first | apply Kd.R_alloc | apply Kd.R_drewN | apply Kd.R_drew)); exact HO374.out))) (below_size qgsleuthlaw25estimategroups_0)); have n3_ := Aside0.mk (blk_below (g := gb356) (o := .cells #[.slice A0_0 l0_0.length c0_0, .int .i8 a0_1, .int .i8 a0_2, .int .i8 a0_3, .int .i8 a0_4, .slice A0_5 l0_5.length c0_5, .int .u8 a0_6] 27 (0, 0)) qgsleuthlaw25estimategroups_1 hb); have n4_ := Aside0.mk (blk_below (g := gb357) (o := .cells #[.int .u8 a1_0, .int .u8 a1_1, .int .u8 a1_2] 28 (0, 0)) qgsleuthlaw25estimategroups_2 hb); have n5_ := Aside0.mk (below_step qgsleuthlaw25estimategroups_0 hb); clear HO_7; clear HO374; clear BK356; clear BK357; clear HB; have HO_7 := n0_; have HO374 := n1_; have HO377 := n2_; have BK356 := n3_; have BK357 := n4_; have HB := n5_; clear n0_ n1_ n2_ n3_ n4_ n5_; (try clear hb); (try clear hb2); (try clear hk); (try clear hi); (try clear ho0); obtain ⟨Ao93, co93, eo93⟩ := Kd.R_slice HO374.out; subst eo93; obtain ⟨Ao94, co94, eo94⟩ := Kd.R_slice HO377.out; subst eo94) | (go_at_call 22; (with_reducible refine (sleuthlaw25_same.calls k2 _ _ t371 _ _ t375 t378 _ ?side1 ?side2 ?side3 ?side4 A89.out).mono ?_); (case side1 => repeat (first | exact (Kd.R_reads' HO374.out).2.2 | (with_reducible refine Kd.C_alloc ?_ _) | (with_reducible refine Kd.C_drewN ?_ _) | (with_reducible refine Kd.C_drew ?_))); (case side2 => exact (Kd.R_reads' HO374.out).2.1); (case side3 => repeat (first | exact (Kd.R_reads' HO377.out).2.2 | (with_reducible refine Kd.C_alloc ?_ _) | (with_reducible refine Kd.C_drewN ?_ _) | (with_reducible refine Kd.C_drew ?_))); (case side4 => exact (Kd.R_reads' HO377.out).2.1); rintro e w' ⟨rfl, ⟨nd, rfl⟩⟩))
    go_ret
    exact ⟨by first | rfl | (simp [errW_none, errW_some] <;> rfl) | (simp [*, errW_none, errW_some] <;> rfl), qgsleuthlaw25estimategroups_0⟩
   rw [if_pos c53] at H
   have c53b0 : decide (x12_2 < (t359.length : Int)) = true := decide_eq_true c53
   clear c53
   have H' := Aside0.mk H
   clear H
   obtain ⟨Ao54, co54, eo54⟩ := Kd.N_slice HO_7.out
   subst eo54
   go_wp2
   go_loopg [13] k2 (fun kq v13 w' => ∃ (x13_3 : Int), v13 = .int .i64 x13_3 ∧ Aside0 (sleuthlaw25_EstimateGroups.l1 kq a2 t359 x12_2 x13_3 = some r) ∧ Aside0 (kq ≤ k2) ∧ Aside0 (Kd.N k53 53 w' w.heap.size (fun k_ => k_ ≠ gb356 ∧ k_ ≠ gb357) (.slice Ao54 t359.length co54) t359) ∧ Aside0 (w'.heap[gb356]? = some (.cells #[(.slice A0_0 l0_0.length c0_0), .int .i8 a0_1, .int .i8 a0_2, .int .i8 a0_3, .int .i8 a0_4, (.slice A0_5 l0_5.length c0_5), .int .u8 a0_6] 27 (0, 0))) ∧ Aside0 (w'.heap[gb357]? = some (.cells #[.int .u8 a1_0, .int .u8 a1_1, .int .u8 a1_2] 28 (0, 0))) ∧ Aside0 (Below w.heap.size w w'))
   case atStart => exact ⟨(0), (by first | rfl | (simp; done) | (simp [*]; done)), H', ⟨Nat.le_refl _⟩, ⟨qgsleuthlaw25estimategroups_3⟩, ⟨qgsleuthlaw25estimategroups_1⟩, ⟨qgsleuthlaw25estimategroups_2⟩, ⟨qgsleuthlaw25estimategroups_0⟩⟩
   clear H'
   try clear c1
   try clear c2
   try clear p2
   try clear c3
   try clear c4
   try clear c5
   try clear c11
   try clear c12
   try clear c13
   try clear c14
   try clear c15
   try clear c15b0
   try clear c16
   try clear c19
   try clear c19b0
   try clear c19b1
   try clear c20
   try clear c20b0
   try clear c20b1
   try clear c20b2
   try clear c21
   try clear c21b0
   try clear c21b1
   try clear c26
   try clear c27
   try clear c34
   try clear c35
   try clear c42
   try clear c43
   try clear c50
   try clear c51
   try clear c53
   try clear c53b0
   try clear hcz12_0
   try clear hcz12_1
   try clear hcz12_2
   try clear hcz12_3
   try clear hcz12_4
   try clear hcz12_5
   try clear hcz12_6
   try clear hcz13_0
   try clear hcz13_1
   try clear hcz13_2
   try clear hcz28_0
   try clear hcz28_1
   try clear hcz28_2
   try clear hcz36_0
   try clear hcz36_1
   try clear hcz36_2
   try clear hcz44_0
   try clear hcz44_1
   try clear hcz44_2
   try clear hcz52_0
   try clear hcz52_1
   try clear hcz52_2
   try clear hfz12_0
   try clear hfz12_1
   try clear hfz12_2
   try clear hfz12_3
   try clear hfz12_4
   try clear hfz12_5
   try clear hfz12_6
   try clear hfz13_0
   try clear hfz13_1
   try clear hfz13_2
   try clear hfz28_0
   try clear hfz28_1
   try clear hfz28_2
   try clear hfz36_0
   try clear hfz36_1
   try clear hfz36_2
   try clear hfz44_0
   try clear hfz44_1
   try clear hfz44_2
   try clear hfz52_0
   try clear hfz52_1
   try clear hfz52_2
   try clear p2
   obtain ⟨x13_3, rfl, HA, HK3, HO_7, BK356, BK357, HB⟩ := hrel
   cases gk with
   | zero => exact absurd HA.out (by simp [sleuthlaw25_EstimateGroups.l1])
   | succ k3 =>
    have H := HA.out
    clear HA
    simp only [sleuthlaw25_EstimateGroups.l1] at H
    by_cases c55 : 0 ≤ x12_2
    rotate_left
    ·rw [if_neg c55] at H
     exact absurd H (by simp)
    rw [if_pos c55] at H
    have c55b0 : decide (0 ≤ x12_2) = true := decide_eq_true c55
    clear c55
    by_cases c56 : x12_2 < (t359.length : Int)
    rotate_left
    ·rw [if_neg c56] at H
     exact absurd H (by simp)
    rw [if_pos c56] at H
    have c56b0 : decide (x12_2 < (t359.length : Int)) = true := decide_eq_true c56
    clear c56
    by_cases c57 : x13_3 < (((rd_T53 t359 x12_2).f2).length : Int)
    rotate_left
    ·rw [if_neg c57] at H
     have c57b0 : decide (x13_3 < (((rd_T53 t359 x12_2).f2).length : Int)) = false := decide_eq_false c57
     clear c57
     have H' := Aside0.mk H
     clear H
     have p379 : 0 ≤ (x12_2 : Int) := of_decide_eq_true qgsleuthlaw25estimategroups_5
     have q379 : x12_2 < (t359.length : Int) := of_decide_eq_true qgsleuthlaw25estimategroups_5
     obtain ⟨ad379, A379_2, c379_2, e379, hx379_0, hx379_1, hx379_2, hl379_2, hi379_2⟩ := at_T53 (Kd.N_reads' HO_7.out).2.2 x12_2 p379 q379
     cases e379
     obtain ⟨ce379, hce379, hMe379, hcc379⟩ := Kd.N_get HO_7.out z53 x12_2 p379 (by first | exact q379 | exact of_decide_eq_true qgsleuthlaw25estimategroups_5 | (have e_ := (Kd.N_reads' HO_7.out).1; omega))
     obtain ⟨ua379_2, uc379_2, rfl, ul379_2, ge379_2⟩ := k53_openF hMe379
     have hv379_2 := hcc379 2 _ rfl
     rw [add_field _ _ 2 (by omega)] at hv379_2
     replace hv379_2 := Option.some.inj (hv379_2.symm.trans hx379_2)
     injection hv379_2 with hva_ hvn_ hvc_
     rw [hva_] at ge379_2
     rw [hvc_] at ul379_2
     have HL379_2 := Aside0.mk (show Kd.V k58 58 _ w.heap.size _ _ ((rd_T53 t359 x12_2).f2) from Kd.V_mk ul379_2 ge379_2)
     clear hva_ hvn_ hvc_ ge379_2 ul379_2
     clear hcc379 hce379
     have HR379_2 := Aside0.mk hi379_2
     have HC379_2 := Aside0.mk hl379_2
     clear hi379_2 hl379_2
     replace p379 := eq_true p379
     replace q379 := eq_true q379
     go_wp2
     go_roundg k3
     case measure => have := HJ6.out; have := HK2.out; have := HK3.out; omega
     case rel => exact ⟨(wrap64 (x12_2 + 1)), (by first | rfl | (simp; done) | (simp [*]; done)), H', ⟨by have := HJ6.out; have := HK2.out; have := HK3.out; omega⟩, ⟨qgsleuthlaw25estimategroups_3⟩, ⟨qgsleuthlaw25estimategroups_1⟩, ⟨qgsleuthlaw25estimategroups_2⟩, ⟨qgsleuthlaw25estimategroups_0⟩⟩
    rw [if_pos c57] at H
    have c57b0 : decide (x13_3 < (((rd_T53 t359 x12_2).f2).length : Int)) = true := decide_eq_true c57
    clear c57
    by_cases c58 : 0 ≤ x13_3
    rotate_left
    ·rw [if_neg c58] at H
     exact absurd H (by simp)
    rw [if_pos c58] at H
    have c58b0 : decide (0 ≤ x13_3) = true := decide_eq_true c58
    clear c58
    replace H := Option.bind_eq_some_iff.mp H
    obtain ⟨⟨t382, t383, t384, t385⟩, A590, H⟩ := H
    replace H : (if t385 = 0 then ((sleuthlaw25_group.f ((rd_T58 ((rd_T53 t359 x12_2).f2) x13_3).f0) ((rd_T58 ((rd_T53 t359 x12_2).f2) x13_3).f1) ((rd_T58 ((rd_T53 t359 x12_2).f2) x13_3).f2) ((rd_T58 ((rd_T53 t359 x12_2).f2) x13_3).f3) ((rd_T58 ((rd_T53 t359 x12_2).f2) x13_3).f4) ((rd_T58 ((rd_T53 t359 x12_2).f2) x13_3).f5) ((rd_T58 ((rd_T53 t359 x12_2).f2) x13_3).f6) ((rd_T58 ((rd_T53 t359 x12_2).f2) x13_3).f7) ((rd_T58 ((rd_T53 t359 x12_2).f2) x13_3).f8) ((rd_T58 ((rd_T53 t359 x12_2).f2) x13_3).f9) ((rd_T58 ((rd_T53 t359 x12_2).f2) x13_3).f10) ((rd_T58 ((rd_T53 t359 x12_2).f2) x13_3).f11) ((rd_T58 ((rd_T53 t359 x12_2).f2) x13_3).f12) ((rd_T58 ((rd_T53 t359 x12_2).f2) x13_3).f13) a2).bind fun bt389 => (if (!(t382.toList == bt389.1.toList) || (!(t383.toList == bt389.2.1.toList) || (!(t384.toList == bt389.2.2.toList)))) = true then (none) else (sleuthlaw25_EstimateGroups.l1 k3 a2 t359 x12_2 (wrap64 (x13_3 + 1))))) else (none)) = some r := H
    have A59 := Aside0.mk A590
    clear A590
    by_cases c60 : t385 = 0
    rotate_left
    ·rw [if_neg c60] at H
     have c60b0 : (t385 == 0) = false := beq_eq_false_iff_ne.mpr c60
     have c60b1 : (t385 != 0) = true := bne_iff_ne.mpr c60
     exact absurd H (by simp)
    rw [if_pos c60] at H
    have c60b0 : (t385 == 0) = true := beq_iff_eq.mpr c60
    have c60b1 : (t385 != 0) = false := bne_eq_false_iff_eq.mpr c60
    clear c60
    replace H := Option.bind_eq_some_iff.mp H
    obtain ⟨⟨t389, t390, t391⟩, A610, H⟩ := H
    replace H : (if (!(t382.toList == t389.toList) || (!(t383.toList == t390.toList) || (!(t384.toList == t391.toList)))) = true then (none) else (sleuthlaw25_EstimateGroups.l1 k3 a2 t359 x12_2 (wrap64 (x13_3 + 1)))) = some r := H
    have A61 := Aside0.mk A610
    clear A610
    by_cases c62 : (!(t382.toList == t389.toList) || (!(t383.toList == t390.toList) || (!(t384.toList == t391.toList)))) = true
    ·rw [if_pos c62] at H
     have c62b0 : (!(t382.toList == t389.toList) || (!(t383.toList == t390.toList) || (!(t384.toList == t391.toList)))) = true := c62
     clear c62
     exact absurd H (by simp)
    rw [if_neg c62] at H
    have c62b0 : (!(t382.toList == t389.toList) || (!(t383.toList == t390.toList) || (!(t384.toList == t391.toList)))) = false := by simpa using c62
    clear c62
    have H' := Aside0.mk H
    clear H
    have p379 : 0 ≤ (x12_2 : Int) := of_decide_eq_true qgsleuthlaw25estimategroups_5
    have q379 : x12_2 < (t359.length : Int) := of_decide_eq_true qgsleuthlaw25estimategroups_5
    obtain ⟨ad379, A379_2, c379_2, e379, hx379_0, hx379_1, hx379_2, hl379_2, hi379_2⟩ := at_T53 (Kd.N_reads' HO_7.out).2.2 x12_2 p379 q379
    cases e379
    obtain ⟨ce379, hce379, hMe379, hcc379⟩ := Kd.N_get HO_7.out z53 x12_2 p379 (by first | exact q379 | exact of_decide_eq_true qgsleuthlaw25estimategroups_5 | (have e_ := (Kd.N_reads' HO_7.out).1; omega))
    obtain ⟨ua379_2, uc379_2, rfl, ul379_2, ge379_2⟩ := k53_openF hMe379
    have hv379_2 := hcc379 2 _ rfl
    rw [add_field _ _ 2 (by omega)] at hv379_2
    replace hv379_2 := Option.some.inj (hv379_2.symm.trans hx379_2)
    injection hv379_2 with hva_ hvn_ hvc_
    rw [hva_] at ge379_2
    rw [hvc_] at ul379_2
    have HL379_2 := Aside0.mk (show Kd.V k58 58 _ w.heap.size _ _ ((rd_T53 t359 x12_2).f2) from Kd.V_mk ul379_2 ge379_2)
    clear hva_ hvn_ hvc_ ge379_2 ul379_2
    clear hcc379 hce379
    have HR379_2 := Aside0.mk hi379_2
    have HC379_2 := Aside0.mk hl379_2
    clear hi379_2 hl379_2
    replace p379 := eq_true p379
    replace q379 := eq_true q379
    have p380 : 0 ≤ (x12_2 : Int) := of_decide_eq_true qgsleuthlaw25estimategroups_5
    have q380 : x12_2 < (t359.length : Int) := of_decide_eq_true qgsleuthlaw25estimategroups_5
    obtain ⟨ad380, A380_2, c380_2, e380, hx380_0, hx380_1, hx380_2, hl380_2, hi380_2⟩ := at_T53 (Kd.N_reads' HO_7.out).2.2 x12_2 p380 q380
    obtain rfl : ad379 = ad380 := (by injection e380)
    obtain ⟨ce380, hce380, hMe380, hcc380⟩ := Kd.N_get HO_7.out z53 x12_2 p380 (by first | exact q380 | exact of_decide_eq_true qgsleuthlaw25estimategroups_5 | (have e_ := (Kd.N_reads' HO_7.out).1; omega))
    obtain ⟨ua380_2, uc380_2, rfl, ul380_2, ge380_2⟩ := k53_openF hMe380
    have hv380_2 := hcc380 2 _ rfl
    rw [add_field _ _ 2 (by omega)] at hv380_2
    replace hv380_2 := Option.some.inj (hv380_2.symm.trans hx380_2)
    injection hv380_2 with hva_ hvn_ hvc_
    rw [hva_] at ge380_2
    rw [hvc_] at ul380_2
    have HL380_2 := Aside0.mk (show Kd.V k58 58 _ w.heap.size _ _ ((rd_T53 t359 x12_2).f2) from Kd.V_mk ul380_2 ge380_2)
    clear hva_ hvn_ hvc_ ge380_2 ul380_2
    clear hcc380 hce380
    have HR380_2 := Aside0.mk hi380_2
    have HC380_2 := Aside0.mk hl380_2
    clear hi380_2 hl380_2
    replace p380 := eq_true p380
    replace q380 := eq_true q380
    have ea_ := Option.some.inj (hx379_2.symm.trans hx380_2)
    injection ea_ with ea_ en_ ec_
    subst ea_
    subst ec_
    clear en_
    have p381 : 0 ≤ (x13_3 : Int) := of_decide_eq_true qgsleuthlaw25estimategroups_5
    have q381 : x13_3 < (((rd_T53 t359 x12_2).f2).length : Int) := of_decide_eq_true qgsleuthlaw25estimategroups_5
    obtain ⟨ad381, A381_12, c381_12, A381_13, c381_13, e381, hx381_0, hx381_1, hx381_2, hx381_3, hx381_4, hx381_5, hx381_6, hx381_7, hx381_8, hx381_9, hx381_10, hx381_11, hx381_12, hx381_13, hl381_12, hi381_12, hl381_13, hi381_13⟩ := at_T58 qgsleuthlaw25estimategroups_9 x13_3 p381 q381
    cases e381
    obtain ⟨ce381, hce381, hMe381, hcc381⟩ := Kd.V_get HL380_2.out z58 x13_3 p381 (by first | exact q381 | exact of_decide_eq_true qgsleuthlaw25estimategroups_5 | (have e_ := (Kd.V_reads' HL380_2.out).1; omega))
    obtain ⟨ua381_12, uc381_12, ua381_13, uc381_13, rfl, ul381_12, ge381_12, ul381_13, ge381_13⟩ := k58_openF hMe381
    have hv381_12 := hcc381 12 _ rfl
    rw [add_field _ _ 12 (by omega)] at hv381_12
    replace hv381_12 := Option.some.inj (hv381_12.symm.trans hx381_12)
    injection hv381_12 with hva_ hvn_ hvc_
    rw [hva_] at ge381_12
    rw [hvc_] at ul381_12
    have HL381_12 := Aside0.mk (show Kd.V k141 141 _ w.heap.size _ _ ((rd_T58 ((rd_T53 t359 x12_2).f2) x13_3).f12) from Kd.V_mk ul381_12 ge381_12)
    clear hva_ hvn_ hvc_ ge381_12 ul381_12
    have hv381_13 := hcc381 13 _ rfl
    rw [add_field _ _ 13 (by omega)] at hv381_13
    replace hv381_13 := Option.some.inj (hv381_13.symm.trans hx381_13)
    injection hv381_13 with hva_ hvn_ hvc_
    rw [hva_] at ge381_13
    rw [hvc_] at ul381_13
    have HL381_13 := Aside0.mk (show Kd.V k146 146 _ w.heap.size _ _ ((rd_T58 ((rd_T53 t359 x12_2).f2) x13_3).f13) from Kd.V_mk ul381_13 ge381_13)
    clear hva_ hvn_ hvc_ ge381_13 ul381_13
    clear hcc381 hce381
    have HR381_12 := Aside0.mk hi381_12
    have HC381_12 := Aside0.mk hl381_12
    clear hi381_12 hl381_12
    have HR381_13 := Aside0.mk hi381_13
    have HC381_13 := Aside0.mk hl381_13
    clear hi381_13 hl381_13
    replace p381 := eq_true p381
    replace q381 := eq_true q381
    try go_wp2_with (first | ((with_reducible refine gate_callee (f := 20) rfl ?_); refine goesL_ (some 83) rfl rfl Try.func20 (by kernel_rfl) rfl #[.agg #[.int .i64 ((rd_T58 ((rd_T53 t359 x12_2).f2) x13_3).f0), .int .i64 ((rd_T58 ((rd_T53 t359 x12_2).f2) x13_3).f1), .int .i64 ((rd_T58 ((rd_T53 t359 x12_2).f2) x13_3).f2), .int .i64 ((rd_T58 ((rd_T53 t359 x12_2).f2) x13_3).f3), .int .i64 ((rd_T58 ((rd_T53 t359 x12_2).f2) x13_3).f4), .int .i64 ((rd_T58 ((rd_T53 t359 x12_2).f2) x13_3).f5), .string ((rd_T58 ((rd_T53 t359 x12_2).f2) x13_3).f6), .string ((rd_T58 ((rd_T53 t359 x12_2).f2) x13_3).f7), .string ((rd_T58 ((rd_T53 t359 x12_2).f2) x13_3).f8), .int .i64 ((rd_T58 ((rd_T53 t359 x12_2).f2) x13_3).f9), .int .i64 ((rd_T58 ((rd_T53 t359 x12_2).f2) x13_3).f10), .bool ((rd_T58 ((rd_T53 t359 x12_2).f2) x13_3).f11), .slice A381_12 ((rd_T58 ((rd_T53 t359 x12_2).f2) x13_3).f12).length c381_12, .slice A381_13 ((rd_T58 ((rd_T53 t359 x12_2).f2) x13_3).f13).length c381_13], .int .i64 a2] rfl qgsleuthlaw25estimategroups_4 ?_; (with_reducible refine (estimate_GroupOf.calls ((rd_T58 ((rd_T53 t359 x12_2).f2) x13_3).f0) ((rd_T58 ((rd_T53 t359 x12_2).f2) x13_3).f1) ((rd_T58 ((rd_T53 t359 x12_2).f2) x13_3).f2) ((rd_T58 ((rd_T53 t359 x12_2).f2) x13_3).f3) ((rd_T58 ((rd_T53 t359 x12_2).f2) x13_3).f4) ((rd_T58 ((rd_T53 t359 x12_2).f2) x13_3).f5) ((rd_T58 ((rd_T53 t359 x12_2).f2) x13_3).f6) ((rd_T58 ((rd_T53 t359 x12_2).f2) x13_3).f7) ((rd_T58 ((rd_T53 t359 x12_2).f2) x13_3).f8) ((rd_T58 ((rd_T53 t359 x12_2).f2) x13_3).f9) ((rd_T58 ((rd_T53 t359 x12_2).f2) x13_3).f10) ((rd_T58 ((rd_T53 t359 x12_2).f2) x13_3).f11) _ _ ((rd_T58 ((rd_T53 t359 x12_2).f2) x13_3).f12) _ _ ((rd_T58 ((rd_T53 t359 x12_2).f2) x13_3).f13) a2 t382 t383 t384 t385 _ ?side1 ?side2 ?side3 ?side4 A59.out).mono ?_); (case side1 => repeat (first | exact qgsleuthlaw25estimategroups_7 | (with_reducible refine Kd.C_alloc ?_ _) | (with_reducible refine Kd.C_drewN ?_ _) | (with_reducible refine Kd.C_drew ?_))); (case side2 => exact HC381_12.out); (case side3 => repeat (first | exact qgsleuthlaw25estimategroups_8 | (with_reducible refine Kd.C_alloc ?_ _) | (with_reducible refine Kd.C_drewN ?_ _) | (with_reducible refine Kd.C_drew ?_))); (case side4 => exact HC381_13.out); rintro e w71 ⟨rfl, hb⟩; refine ⟨_, rfl, ?_⟩; have n0_ := Aside0.mk (Kd.N_below qgsleuthlaw25estimategroups_3 hb); have n1_ := Aside0.mk (Kd.V_below (by (with_reducible repeat (first | apply Kd.V_alloc | apply Kd.V_drewN | apply Kd.V_drew)); exact HL379_2.out) hb); have n2_ := Aside0.mk (Kd.V_below (by (with_reducible repeat (first | apply Kd.V_alloc | apply Kd.V_drewN | apply Kd.V_drew)); exact HL380_2.out) hb); have n3_ := Aside0.mk (Kd.V_below (by (with_reducible repeat (first | apply Kd.V_alloc | apply Kd.V_drewN | apply Kd.V_drew)); exact HL381_12.out) hb); have n4_ := Aside0.mk (Kd.V_below (by (with_reducible repeat (first | apply Kd.V_alloc | apply Kd.V_drewN | apply Kd.V_drew)); exact HL381_13.out) hb); have n5_ := Aside0.mk (blk_below (g := gb356) (o := .cells #[.slice A0_0 l0_0.length c0_0, .int .i8 a0_1, .int .i8 a0_2, .int .i8 a0_3, .int .i8 a0_4, .slice A0_5 l0_5.length c0_5, .int .u8 a0_6] 27 (0, 0)) qgsleuthlaw25estimategroups_1 hb); have n6_ := Aside0.mk (blk_below (g := gb357) (o := .cells #[.int .u8 a1_0, .int .u8 a1_1, .int .u8 a1_2] 28 (0, 0)) qgsleuthlaw25estimategroups_2 hb); have n7_ := Aside0.mk (Kd.C_below (by repeat (first | (with_reducible exact HR379_2.out) | (with_reducible refine Kd.C_alloc ?_ _) | (with_reducible refine Kd.C_drewN ?_ _) | (with_reducible refine Kd.C_drew ?_) | exact HR379_2.out)) hb); have n8_ := Aside0.mk (Kd.C_below qgsleuthlaw25estimategroups_9 hb); have n9_ := Aside0.mk (Kd.C_below qgsleuthlaw25estimategroups_7 hb); have n10_ := Aside0.mk (Kd.C_below qgsleuthlaw25estimategroups_8 hb); have n11_ := Aside0.mk (below_step qgsleuthlaw25estimategroups_0 hb); clear HO_7; clear HL379_2; clear HL380_2; clear HL381_12; clear HL381_13; clear BK356; clear BK357; clear HR379_2; clear HR380_2; clear HR381_12; clear HR381_13; clear HB; have HO_7 := n0_; have HL379_2 := n1_; have HL380_2 := n2_; have HL381_12 := n3_; have HL381_13 := n4_; have BK356 := n5_; have BK357 := n6_; have HR379_2 := n7_; have HR380_2 := n8_; have HR381_12 := n9_; have HR381_13 := n10_; have HB := n11_; clear n0_ n1_ n2_ n3_ n4_ n5_ n6_ n7_ n8_ n9_ n10_ n11_; (try clear hb); (try clear hb2); (try clear hk); (try clear hi)) | ((with_reducible refine gate_dst (N := 14) rfl ?_); (try (refine gate_guard (by rfl) ?_; dsimp only)); refine box_event ?hg (N := 14) ?hd (cs := #[.string (⟨#[]⟩ : ByteArray), .string (⟨#[]⟩ : ByteArray), .string (⟨#[]⟩ : ByteArray)]) (t := 39) ?hr ?_; (case hd => rfl); (case hg => rfl); (case hr => first | (go_simp; done) | (go_simp; rfl)); intro gb386 hg w72 hbox hb; have n0_ := Aside0.mk (Kd.N_below (Kd.N_elderB qgsleuthlaw25estimategroups_3 gb386 (Nat.le_of_eq hg.symm)) hb); have n1_ := Aside0.mk (Kd.V_below (Kd.V_elderB (by (with_reducible repeat (first | apply Kd.V_alloc | apply Kd.V_drewN | apply Kd.V_drew)); exact HL379_2.out) gb386 (Nat.le_of_eq hg.symm)) hb); have n2_ := Aside0.mk (Kd.V_below (Kd.V_elderB (by (with_reducible repeat (first | apply Kd.V_alloc | apply Kd.V_drewN | apply Kd.V_drew)); exact HL380_2.out) gb386 (Nat.le_of_eq hg.symm)) hb); have n3_ := Aside0.mk (Kd.V_below (Kd.V_elderB (by (with_reducible repeat (first | apply Kd.V_alloc | apply Kd.V_drewN | apply Kd.V_drew)); exact HL381_12.out) gb386 (Nat.le_of_eq hg.symm)) hb); have n4_ := Aside0.mk (Kd.V_below (Kd.V_elderB (by (with_reducible repeat (first | apply Kd.V_alloc | apply Kd.V_drewN | apply Kd.V_drew)); exact HL381_13.out) gb386 (Nat.le_of_eq hg.symm)) hb); have n5_ := Aside0.mk (blk_below (g := gb356) (o := .cells #[.slice A0_0 l0_0.length c0_0, .int .i8 a0_1, .int .i8 a0_2, .int .i8 a0_3, .int .i8 a0_4, .slice A0_5 l0_5.length c0_5, .int .u8 a0_6] 27 (0, 0)) qgsleuthlaw25estimategroups_1 hb); have n6_ := Aside0.mk (blk_below (g := gb357) (o := .cells #[.int .u8 a1_0, .int .u8 a1_1, .int .u8 a1_2] 28 (0, 0)) qgsleuthlaw25estimategroups_2 hb); have n7_ := Aside0.mk (Kd.C_below (by repeat (first | (with_reducible exact HR379_2.out) | (with_reducible refine Kd.C_alloc ?_ _) | (with_reducible refine Kd.C_drewN ?_ _) | (with_reducible refine Kd.C_drew ?_) | exact HR379_2.out)) hb); have n8_ := Aside0.mk (Kd.C_below qgsleuthlaw25estimategroups_9 hb); have n9_ := Aside0.mk (Kd.C_below qgsleuthlaw25estimategroups_7 hb); have n10_ := Aside0.mk (Kd.C_below qgsleuthlaw25estimategroups_8 hb); have n11_ := Aside0.mk (below_step qgsleuthlaw25estimategroups_0 hb); have n12_ := Aside0.mk (hbox); have n13_ := Aside0.mk ((by rw [hg]; exact (below_size qgsleuthlaw25estimategroups_0) : w.heap.size ≤ gb386)); have n14_ := Aside0.mk ((by rw [hg]; exact (below_size qgsleuthlaw25estimategroups_0) : w.heap.size ≤ gb386)); have n15_ := Aside0.mk ((by rw [hg]; exact Nat.ne_of_lt (blk_lt (g := gb356) (o := .cells #[.slice A0_0 l0_0.length c0_0, .int .i8 a0_1, .int .i8 a0_2, .int .i8 a0_3, .int .i8 a0_4, .slice A0_5 l0_5.length c0_5, .int .u8 a0_6] 27 (0, 0)) qgsleuthlaw25estimategroups_1) : gb356 ≠ gb386)); have n16_ := Aside0.mk ((by rw [hg]; exact Nat.ne_of_gt (blk_lt (g := gb356) (o := .cells #[.slice A0_0 l0_0.length c0_0, .int .i8 a0_1, .int .i8 a0_2, .int .i8 a0_3, .int .i8 a0_4, .slice A0_5 l0_5.length c0_5, .int .u8 a0_6] 27 (0, 0)) qgsleuthlaw25estimategroups_1) : gb386 ≠ gb356)); have n17_ := Aside0.mk ((by rw [hg]; exact Nat.ne_of_lt (blk_lt (g := gb357) (o := .cells #[.int .u8 a1_0, .int .u8 a1_1, .int .u8 a1_2] 28 (0, 0)) qgsleuthlaw25estimategroups_2) : gb357 ≠ gb386)); have n18_ := Aside0.mk ((by rw [hg]; exact Nat.ne_of_gt (blk_lt (g := gb357) (o := .cells #[.int .u8 a1_0, .int .u8 a1_1, .int .u8 a1_2] 28 (0, 0)) qgsleuthlaw25estimategroups_2) : gb386 ≠ gb357)); clear HO_7; clear HL379_2; clear HL380_2; clear HL381_12; clear HL381_13; clear BK356; clear BK357; clear HR379_2; clear HR380_2; clear HR381_12; clear HR381_13; clear HB; have HO_7 := n0_; have HL379_2 := n1_; have HL380_2 := n2_; have HL381_12 := n3_; have HL381_13 := n4_; have BK356 := n5_; have BK357 := n6_; have HR379_2 := n7_; have HR380_2 := n8_; have HR381_12 := n9_; have HR381_13 := n10_; have HB := n11_; have BK386 := n12_; have GW386 := n13_; have GE386 := n14_; have NB356_386 := n15_; have NB386_356 := n16_; have NB357_386 := n17_; have NB386_357 := n18_; clear n0_ n1_ n2_ n3_ n4_ n5_ n6_ n7_ n8_ n9_ n10_ n11_ n12_ n13_ n14_ n15_ n16_ n17_ n18_; clear hb hbox hg; have hnb73 := NB386_356.out; have hnc73 := NB356_386.out; have hnb74 := NB386_357.out; have hnc74 := NB357_386.out; have hcz75_0 : w72.cell? ⟨gb386, 0, none⟩ = some (.string (⟨#[]⟩ : ByteArray)) := (blk_cell BK386.out 0).trans rfl; have hcz75_1 : w72.cell? ⟨gb386, 1, none⟩ = some (.string (⟨#[]⟩ : ByteArray)) := (blk_cell BK386.out 1).trans rfl; have hcz75_2 : w72.cell? ⟨gb386, 2, none⟩ = some (.string (⟨#[]⟩ : ByteArray)) := (blk_cell BK386.out 2).trans rfl; have hfz75_0 := blk_frozen BK386.out 0; have hfz75_1 := blk_frozen BK386.out 1; have hfz75_2 := blk_frozen BK386.out 2))
    have n0_ : Aside0 (Kd.N k53 53 (((w72.setCell ⟨gb386, 0, none⟩ (.string t382)).setCell ⟨gb386, 1, none⟩ (.string t383)).setCell ⟨gb386, 2, none⟩ (.string t384)) w.heap.size (fun k_ => k_ ≠ gb356 ∧ k_ ≠ gb357 ∧ k_ ≠ gb386) (.slice (some ad379) t359.length co54) t359) := ⟨by (with_reducible repeat (first | apply Kd.N_alloc | apply Kd.N_drewN | apply Kd.N_drew)); exact Kd.N_mono (Kd.N_far (p := ⟨gb386, 2, none⟩) (Kd.N_far (p := ⟨gb386, 1, none⟩) (Kd.N_far (p := ⟨gb386, 0, none⟩) (Kd.N_mono HO_7.out (fun k_ hk => (⟨hk, hk.2⟩ : _ ∧ k_ ≠ gb386))) (fun _ hk => hk.2) (.string t382)) (fun _ hk => hk.2) (.string t383)) (fun _ hk => hk.2) (.string t384)) (fun _ hk => ⟨hk.1.1.1, ⟨hk.1.1.2, hk.1.2⟩⟩)⟩
    have n1_ : Aside0 (Kd.V k58 58 (((w72.setCell ⟨gb386, 0, none⟩ (.string t382)).setCell ⟨gb386, 1, none⟩ (.string t383)).setCell ⟨gb386, 2, none⟩ (.string t384)) w.heap.size (fun k_ => some k_ ≠ (.slice (some ad379) t359.length co54 : Value).ownBlock ∧ k_ ≠ gb356 ∧ k_ ≠ gb357 ∧ k_ ≠ gb386) (.slice (some ad381) ((rd_T53 t359 x12_2).f2).length c379_2) ((rd_T53 t359 x12_2).f2)) := ⟨by (with_reducible repeat (first | apply Kd.V_alloc | apply Kd.V_drewN | apply Kd.V_drew)); exact Kd.V_mono (Kd.V_far (p := ⟨gb386, 2, none⟩) (Kd.V_far (p := ⟨gb386, 1, none⟩) (Kd.V_far (p := ⟨gb386, 0, none⟩) (Kd.V_mono HL379_2.out (fun k_ hk => (⟨hk, hk.2⟩ : _ ∧ k_ ≠ gb386))) (fun _ hk => hk.2) (.string t382)) (fun _ hk => hk.2) (.string t383)) (fun _ hk => hk.2) (.string t384)) (fun _ hk => ⟨hk.1.1.2, ⟨hk.1.1.1.1, ⟨hk.1.1.1.2, hk.1.2⟩⟩⟩)⟩
    have n2_ : Aside0 (Kd.V k58 58 (((w72.setCell ⟨gb386, 0, none⟩ (.string t382)).setCell ⟨gb386, 1, none⟩ (.string t383)).setCell ⟨gb386, 2, none⟩ (.string t384)) w.heap.size (fun k_ => some k_ ≠ (.slice (some ad379) t359.length co54 : Value).ownBlock ∧ k_ ≠ gb356 ∧ k_ ≠ gb357 ∧ k_ ≠ gb386) (.slice (some ad381) ((rd_T53 t359 x12_2).f2).length c379_2) ((rd_T53 t359 x12_2).f2)) := ⟨by (with_reducible repeat (first | apply Kd.V_alloc | apply Kd.V_drewN | apply Kd.V_drew)); exact Kd.V_mono (Kd.V_far (p := ⟨gb386, 2, none⟩) (Kd.V_far (p := ⟨gb386, 1, none⟩) (Kd.V_far (p := ⟨gb386, 0, none⟩) (Kd.V_mono HL380_2.out (fun k_ hk => (⟨hk, hk.2⟩ : _ ∧ k_ ≠ gb386))) (fun _ hk => hk.2) (.string t382)) (fun _ hk => hk.2) (.string t383)) (fun _ hk => hk.2) (.string t384)) (fun _ hk => ⟨hk.1.1.2, ⟨hk.1.1.1.1, ⟨hk.1.1.1.2, hk.1.2⟩⟩⟩)⟩
    have n3_ : Aside0 (Kd.V k141 141 (((w72.setCell ⟨gb386, 0, none⟩ (.string t382)).setCell ⟨gb386, 1, none⟩ (.string t383)).setCell ⟨gb386, 2, none⟩ (.string t384)) w.heap.size (fun k_ => some k_ ≠ (.slice (some ad379) t359.length co54 : Value).ownBlock ∧ k_ ≠ gb356 ∧ k_ ≠ gb357 ∧ k_ ≠ gb386) (.slice A381_12 ((rd_T58 ((rd_T53 t359 x12_2).f2) x13_3).f12).length c381_12) ((rd_T58 ((rd_T53 t359 x12_2).f2) x13_3).f12)) := ⟨by (with_reducible repeat (first | apply Kd.V_alloc | apply Kd.V_drewN | apply Kd.V_drew)); exact Kd.V_mono (Kd.V_far (p := ⟨gb386, 2, none⟩) (Kd.V_far (p := ⟨gb386, 1, none⟩) (Kd.V_far (p := ⟨gb386, 0, none⟩) (Kd.V_mono HL381_12.out (fun k_ hk => (⟨hk, hk.2⟩ : _ ∧ k_ ≠ gb386))) (fun _ hk => hk.2) (.string t382)) (fun _ hk => hk.2) (.string t383)) (fun _ hk => hk.2) (.string t384)) (fun _ hk => ⟨hk.1.1.2, ⟨hk.1.1.1.1, ⟨hk.1.1.1.2, hk.1.2⟩⟩⟩)⟩
    have n4_ : Aside0 (Kd.V k146 146 (((w72.setCell ⟨gb386, 0, none⟩ (.string t382)).setCell ⟨gb386, 1, none⟩ (.string t383)).setCell ⟨gb386, 2, none⟩ (.string t384)) w.heap.size (fun k_ => some k_ ≠ (.slice (some ad379) t359.length co54 : Value).ownBlock ∧ k_ ≠ gb356 ∧ k_ ≠ gb357 ∧ k_ ≠ gb386) (.slice A381_13 ((rd_T58 ((rd_T53 t359 x12_2).f2) x13_3).f13).length c381_13) ((rd_T58 ((rd_T53 t359 x12_2).f2) x13_3).f13)) := ⟨by (with_reducible repeat (first | apply Kd.V_alloc | apply Kd.V_drewN | apply Kd.V_drew)); exact Kd.V_mono (Kd.V_far (p := ⟨gb386, 2, none⟩) (Kd.V_far (p := ⟨gb386, 1, none⟩) (Kd.V_far (p := ⟨gb386, 0, none⟩) (Kd.V_mono HL381_13.out (fun k_ hk => (⟨hk, hk.2⟩ : _ ∧ k_ ≠ gb386))) (fun _ hk => hk.2) (.string t382)) (fun _ hk => hk.2) (.string t383)) (fun _ hk => hk.2) (.string t384)) (fun _ hk => ⟨hk.1.1.2, ⟨hk.1.1.1.1, ⟨hk.1.1.1.2, hk.1.2⟩⟩⟩)⟩
    have n5_ : Aside0 ((((w72.setCell ⟨gb386, 0, none⟩ (.string t382)).setCell ⟨gb386, 1, none⟩ (.string t383)).setCell ⟨gb386, 2, none⟩ (.string t384)).heap[gb356]? = some (.cells #[.slice A0_0 l0_0.length c0_0, .int .i8 a0_1, .int .i8 a0_2, .int .i8 a0_3, .int .i8 a0_4, .slice A0_5 l0_5.length c0_5, .int .u8 a0_6] 27 (0, 0))) := ⟨by (with_reducible repeat (first | refine blk_drewN ?_ _ | refine blk_drew ?_ | refine blk_alloc ?_ _)); refine blk_far ?_ NB356_386.out _; (with_reducible repeat (first | refine blk_drewN ?_ _ | refine blk_drew ?_ | refine blk_alloc ?_ _)); refine blk_far ?_ NB356_386.out _; (with_reducible repeat (first | refine blk_drewN ?_ _ | refine blk_drew ?_ | refine blk_alloc ?_ _)); refine blk_far ?_ NB356_386.out _; (with_reducible repeat (first | refine blk_drewN ?_ _ | refine blk_drew ?_ | refine blk_alloc ?_ _)); exact BK356.out⟩
    have n6_ : Aside0 ((((w72.setCell ⟨gb386, 0, none⟩ (.string t382)).setCell ⟨gb386, 1, none⟩ (.string t383)).setCell ⟨gb386, 2, none⟩ (.string t384)).heap[gb357]? = some (.cells #[.int .u8 a1_0, .int .u8 a1_1, .int .u8 a1_2] 28 (0, 0))) := ⟨by (with_reducible repeat (first | refine blk_drewN ?_ _ | refine blk_drew ?_ | refine blk_alloc ?_ _)); refine blk_far ?_ NB357_386.out _; (with_reducible repeat (first | refine blk_drewN ?_ _ | refine blk_drew ?_ | refine blk_alloc ?_ _)); refine blk_far ?_ NB357_386.out _; (with_reducible repeat (first | refine blk_drewN ?_ _ | refine blk_drew ?_ | refine blk_alloc ?_ _)); refine blk_far ?_ NB357_386.out _; (with_reducible repeat (first | refine blk_drewN ?_ _ | refine blk_drew ?_ | refine blk_alloc ?_ _)); exact BK357.out⟩
    have n7_ : Aside0 ((((w72.setCell ⟨gb386, 0, none⟩ (.string t382)).setCell ⟨gb386, 1, none⟩ (.string t383)).setCell ⟨gb386, 2, none⟩ (.string t384)).heap[gb386]? = some (.cells #[.string t382, .string t383, .string t384] 39 (0, 0))) := ⟨by (with_reducible repeat (first | refine blk_drewN ?_ _ | refine blk_drew ?_ | refine blk_alloc ?_ _)); refine blk_put (cs := #[.string t382, .string t383, .string (⟨#[]⟩ : ByteArray)]) ?_ 2 _ rfl; (with_reducible repeat (first | refine blk_drewN ?_ _ | refine blk_drew ?_ | refine blk_alloc ?_ _)); refine blk_put (cs := #[.string t382, .string (⟨#[]⟩ : ByteArray), .string (⟨#[]⟩ : ByteArray)]) ?_ 1 _ rfl; (with_reducible repeat (first | refine blk_drewN ?_ _ | refine blk_drew ?_ | refine blk_alloc ?_ _)); refine blk_put (cs := #[.string (⟨#[]⟩ : ByteArray), .string (⟨#[]⟩ : ByteArray), .string (⟨#[]⟩ : ByteArray)]) ?_ 0 _ rfl; (with_reducible repeat (first | refine blk_drewN ?_ _ | refine blk_drew ?_ | refine blk_alloc ?_ _)); exact BK386.out⟩
    have n8_ : Aside0 (Below w.heap.size w (((w72.setCell ⟨gb386, 0, none⟩ (.string t382)).setCell ⟨gb386, 1, none⟩ (.string t383)).setCell ⟨gb386, 2, none⟩ (.string t384))) := ⟨qgsleuthlaw25estimategroups_6⟩
    (try clear HO_7)
    (try clear HL379_2)
    (try clear HL380_2)
    (try clear HL381_12)
    (try clear HL381_13)
    (try clear BK356)
    (try clear BK357)
    (try clear BK386)
    (try clear HB)
    generalize (((w72.setCell ⟨gb386, 0, none⟩ (.string t382)).setCell ⟨gb386, 1, none⟩ (.string t383)).setCell ⟨gb386, 2, none⟩ (.string t384)) = w76 at n0_ n1_ n2_ n3_ n4_ n5_ n6_ n7_ n8_ ⊢
    have HO_7 := n0_
    have HL379_2 := n1_
    have HL380_2 := n2_
    have HL381_12 := n3_
    have HL381_13 := n4_
    have BK356 := n5_
    have BK357 := n6_
    have BK386 := n7_
    have HB := n8_
    clear n0_ n1_ n2_ n3_ n4_ n5_ n6_ n7_ n8_
    have n0_ := Aside0.mk (Kd.N_drew HO_7.out)
    have n1_ := Aside0.mk (Kd.V_drew HL379_2.out)
    have n2_ := Aside0.mk (Kd.V_drew HL380_2.out)
    have n3_ := Aside0.mk (Kd.V_drew HL381_12.out)
    have n4_ := Aside0.mk (Kd.V_drew HL381_13.out)
    have n5_ := Aside0.mk (blk_drew BK356.out)
    have n6_ := Aside0.mk (blk_drew BK357.out)
    have n7_ := Aside0.mk (blk_drew BK386.out)
    have n8_ := Aside0.mk (below_drew1 HB.out)
    clear HO_7
    clear HL379_2
    clear HL380_2
    clear HL381_12
    clear HL381_13
    clear BK356
    clear BK357
    clear BK386
    clear HB
    have HO_7 := n0_
    have HL379_2 := n1_
    have HL380_2 := n2_
    have HL381_12 := n3_
    have HL381_13 := n4_
    have BK356 := n5_
    have BK357 := n6_
    have BK386 := n7_
    have HB := n8_
    clear n0_ n1_ n2_ n3_ n4_ n5_ n6_ n7_ n8_
    have p387 : 0 ≤ (x12_2 : Int) := of_decide_eq_true qgsleuthlaw25estimategroups_5
    have q387 : x12_2 < (t359.length : Int) := of_decide_eq_true qgsleuthlaw25estimategroups_5
    obtain ⟨ad387, A387_2, c387_2, e387, hx387_0, hx387_1, hx387_2, hl387_2, hi387_2⟩ := at_T53 (Kd.N_reads' HO_7.out).2.2 x12_2 p387 q387
    obtain rfl : ad379 = ad387 := (by injection e387)
    obtain ⟨ce387, hce387, hMe387, hcc387⟩ := Kd.N_get HO_7.out z53 x12_2 p387 (by first | exact q387 | exact of_decide_eq_true qgsleuthlaw25estimategroups_5 | (have e_ := (Kd.N_reads' HO_7.out).1; omega))
    obtain ⟨ua387_2, uc387_2, rfl, ul387_2, ge387_2⟩ := k53_openF hMe387
    have hv387_2 := hcc387 2 _ rfl
    rw [add_field _ _ 2 (by omega)] at hv387_2
    replace hv387_2 := Option.some.inj (hv387_2.symm.trans hx387_2)
    injection hv387_2 with hva_ hvn_ hvc_
    rw [hva_] at ge387_2
    rw [hvc_] at ul387_2
    have HL387_2 := Aside0.mk (show Kd.V k58 58 _ w.heap.size _ _ ((rd_T53 t359 x12_2).f2) from Kd.V_mk ul387_2 ge387_2)
    clear hva_ hvn_ hvc_ ge387_2 ul387_2
    clear hcc387 hce387
    have HR387_2 := Aside0.mk hi387_2
    have HC387_2 := Aside0.mk hl387_2
    clear hi387_2 hl387_2
    replace p387 := eq_true p387
    replace q387 := eq_true q387
    have p388 : 0 ≤ (x13_3 : Int) := of_decide_eq_true qgsleuthlaw25estimategroups_5
    have q388 : x13_3 < (((rd_T53 t359 x12_2).f2).length : Int) := of_decide_eq_true qgsleuthlaw25estimategroups_5
    obtain ⟨ad388, A388_12, c388_12, A388_13, c388_13, e388, hx388_0, hx388_1, hx388_2, hx388_3, hx388_4, hx388_5, hx388_6, hx388_7, hx388_8, hx388_9, hx388_10, hx388_11, hx388_12, hx388_13, hl388_12, hi388_12, hl388_13, hi388_13⟩ := at_T58 (by repeat (first | (with_reducible exact HR387_2.out) | (with_reducible refine Kd.C_alloc ?_ _) | (with_reducible refine Kd.C_drewN ?_ _) | (with_reducible refine Kd.C_drew ?_) | exact HR387_2.out)) x13_3 p388 q388
    cases e388
    obtain ⟨ce388, hce388, hMe388, hcc388⟩ := Kd.V_get HL387_2.out z58 x13_3 p388 (by first | exact q388 | exact of_decide_eq_true qgsleuthlaw25estimategroups_5 | (have e_ := (Kd.V_reads' HL387_2.out).1; omega))
    obtain ⟨ua388_12, uc388_12, ua388_13, uc388_13, rfl, ul388_12, ge388_12, ul388_13, ge388_13⟩ := k58_openF hMe388
    have hv388_12 := hcc388 12 _ rfl
    rw [add_field _ _ 12 (by omega)] at hv388_12
    replace hv388_12 := Option.some.inj (hv388_12.symm.trans hx388_12)
    injection hv388_12 with hva_ hvn_ hvc_
    rw [hva_] at ge388_12
    rw [hvc_] at ul388_12
    have HL388_12 := Aside0.mk (show Kd.V k141 141 _ w.heap.size _ _ ((rd_T58 ((rd_T53 t359 x12_2).f2) x13_3).f12) from Kd.V_mk ul388_12 ge388_12)
    clear hva_ hvn_ hvc_ ge388_12 ul388_12
    have hv388_13 := hcc388 13 _ rfl
    rw [add_field _ _ 13 (by omega)] at hv388_13
    replace hv388_13 := Option.some.inj (hv388_13.symm.trans hx388_13)
    injection hv388_13 with hva_ hvn_ hvc_
    rw [hva_] at ge388_13
    rw [hvc_] at ul388_13
    have HL388_13 := Aside0.mk (show Kd.V k146 146 _ w.heap.size _ _ ((rd_T58 ((rd_T53 t359 x12_2).f2) x13_3).f13) from Kd.V_mk ul388_13 ge388_13)
    clear hva_ hvn_ hvc_ ge388_13 ul388_13
    clear hcc388 hce388
    have HR388_12 := Aside0.mk hi388_12
    have HC388_12 := Aside0.mk hl388_12
    clear hi388_12 hl388_12
    have HR388_13 := Aside0.mk hi388_13
    have HC388_13 := Aside0.mk hl388_13
    clear hi388_13 hl388_13
    replace p388 := eq_true p388
    replace q388 := eq_true q388
    refine start_ (n := 16) (S := fun w' => w'.cell? ⟨gb386, 0, none⟩ = some (.string t382) ∧ w'.cell? ⟨gb386, 1, none⟩ = some (.string t383) ∧ w'.cell? ⟨gb386, 2, none⟩ = some (.string t384) ∧ w'.cell? (ad379.add ((x12_2).toNat * 3)) = some (.int .i64 ((rd_T53 t359 x12_2).f0)) ∧ w'.cell? ⟨(ad379.add ((x12_2).toNat * 3)).block, (ad379.add ((x12_2).toNat * 3)).off + 1, none⟩ = some (.int .i64 ((rd_T53 t359 x12_2).f1)) ∧ w'.cell? ⟨(ad379.add ((x12_2).toNat * 3)).block, (ad379.add ((x12_2).toNat * 3)).off + 2, none⟩ = some (.slice (some ad388) ((rd_T53 t359 x12_2).f2).length c387_2) ∧ w'.cell? (ad388.add ((x13_3).toNat * 14)) = some (.int .i64 ((rd_T58 ((rd_T53 t359 x12_2).f2) x13_3).f0)) ∧ w'.cell? ⟨(ad388.add ((x13_3).toNat * 14)).block, (ad388.add ((x13_3).toNat * 14)).off + 1, none⟩ = some (.int .i64 ((rd_T58 ((rd_T53 t359 x12_2).f2) x13_3).f1)) ∧ w'.cell? ⟨(ad388.add ((x13_3).toNat * 14)).block, (ad388.add ((x13_3).toNat * 14)).off + 2, none⟩ = some (.int .i64 ((rd_T58 ((rd_T53 t359 x12_2).f2) x13_3).f2)) ∧ w'.cell? ⟨(ad388.add ((x13_3).toNat * 14)).block, (ad388.add ((x13_3).toNat * 14)).off + 3, none⟩ = some (.int .i64 ((rd_T58 ((rd_T53 t359 x12_2).f2) x13_3).f3)) ∧ w'.cell? ⟨(ad388.add ((x13_3).toNat * 14)).block, (ad388.add ((x13_3).toNat * 14)).off + 4, none⟩ = some (.int .i64 ((rd_T58 ((rd_T53 t359 x12_2).f2) x13_3).f4)) ∧ w'.cell? ⟨(ad388.add ((x13_3).toNat * 14)).block, (ad388.add ((x13_3).toNat * 14)).off + 5, none⟩ = some (.int .i64 ((rd_T58 ((rd_T53 t359 x12_2).f2) x13_3).f5)) ∧ w'.cell? ⟨(ad388.add ((x13_3).toNat * 14)).block, (ad388.add ((x13_3).toNat * 14)).off + 6, none⟩ = some (.string ((rd_T58 ((rd_T53 t359 x12_2).f2) x13_3).f6)) ∧ w'.cell? ⟨(ad388.add ((x13_3).toNat * 14)).block, (ad388.add ((x13_3).toNat * 14)).off + 7, none⟩ = some (.string ((rd_T58 ((rd_T53 t359 x12_2).f2) x13_3).f7)) ∧ w'.cell? ⟨(ad388.add ((x13_3).toNat * 14)).block, (ad388.add ((x13_3).toNat * 14)).off + 8, none⟩ = some (.string ((rd_T58 ((rd_T53 t359 x12_2).f2) x13_3).f8)) ∧ w'.cell? ⟨(ad388.add ((x13_3).toNat * 14)).block, (ad388.add ((x13_3).toNat * 14)).off + 9, none⟩ = some (.int .i64 ((rd_T58 ((rd_T53 t359 x12_2).f2) x13_3).f9)) ∧ w'.cell? ⟨(ad388.add ((x13_3).toNat * 14)).block, (ad388.add ((x13_3).toNat * 14)).off + 10, none⟩ = some (.int .i64 ((rd_T58 ((rd_T53 t359 x12_2).f2) x13_3).f10)) ∧ w'.cell? ⟨(ad388.add ((x13_3).toNat * 14)).block, (ad388.add ((x13_3).toNat * 14)).off + 11, none⟩ = some (.bool ((rd_T58 ((rd_T53 t359 x12_2).f2) x13_3).f11)) ∧ w'.cell? ⟨(ad388.add ((x13_3).toNat * 14)).block, (ad388.add ((x13_3).toNat * 14)).off + 12, none⟩ = some (.slice A388_12 ((rd_T58 ((rd_T53 t359 x12_2).f2) x13_3).f12).length c388_12) ∧ w'.cell? ⟨(ad388.add ((x13_3).toNat * 14)).block, (ad388.add ((x13_3).toNat * 14)).off + 13, none⟩ = some (.slice A388_13 ((rd_T58 ((rd_T53 t359 x12_2).f2) x13_3).f13).length c388_13)) (ds := []) #[F18983, F18983, F18983, F18983, F18983, F18983, F18983, F18983, F18983, F18983, F18983, F18983, F18983, F18983, F18983, F18983] (by kernel_rfl) rfl rfl ⟨(blk_cell BK386.out 0).trans rfl, (blk_cell BK386.out 1).trans rfl, (blk_cell BK386.out 2).trans rfl, hx387_0, hx387_1, hx387_2, hx388_0, hx388_1, hx388_2, hx388_3, hx388_4, hx388_5, hx388_6, hx388_7, hx388_8, hx388_9, hx388_10, hx388_11, hx388_12, hx388_13⟩ (fun hHeld => ?_); refine with_tabW sleuthlaw25_EstimateGroups.tab15 sleuthlaw25_EstimateGroups.bits15 (fun HT_ HW_ => ?_)
    generalize w76.drew = w77 at HO_7 HL379_2 HL380_2 HL381_12 HL381_13 BK356 BK357 BK386 HB HL387_2 HL388_12 HL388_13 HR387_2 HR388_12 HR388_13 hx387_0 hx387_1 hx387_2 hx388_0 hx388_1 hx388_10 hx388_11 hx388_12 hx388_13 hx388_2 hx388_3 hx388_4 hx388_5 hx388_6 hx388_7 hx388_8 hx388_9 hHeld ⊢
    refine pure_ (i := 0) (N := some 86) (v := ?_) (a' := ?_) #[T18983, F18983, F18983, F18983, F18983, F18983, F18983, F18983, F18983, F18983, F18983, F18983, F18983, F18983, F18983, F18983] rfl rfl (any_of HT_.out (by kernel_rfl)) (fun _ _ _ h => h) (Or.inl ⟨by rfl, ?_⟩) ?_ ?_
    rotate_left
    ·intro w'
     go_simp
     with_reducible rfl
    rotate_left
    ·simp only [Act.put, List.setIfInBounds_toArray, List.set_cons_zero, List.set_cons_succ, i64_w, i32_w]
     rfl
    refine pure_ (i := 1) (N := some 87) (v := ?_) (a' := ?_) #[T18983, T18983, F18983, F18983, F18983, F18983, F18983, F18983, F18983, F18983, F18983, F18983, F18983, F18983, F18983, F18983] rfl rfl (any_of HT_.out (by kernel_rfl)) (fun _ _ _ h => h) (Or.inl ⟨by rfl, ?_⟩) ?_ ?_
    rotate_left
    ·intro w'
     go_simp
     with_reducible rfl
    rotate_left
    ·simp only [Act.put, List.setIfInBounds_toArray, List.set_cons_zero, List.set_cons_succ, i64_w, i32_w]
     rfl
    refine pure_ (i := 2) (N := some 88) (v := ?_) (a' := ?_) #[T18983, T18983, T18983, F18983, F18983, F18983, F18983, F18983, F18983, F18983, F18983, F18983, F18983, F18983, F18983, F18983] rfl rfl (any_of HT_.out (by kernel_rfl)) (fun _ _ _ h => h) (Or.inl ⟨by rfl, ?_⟩) ?_ ?_
    rotate_left
    ·intro w'
     go_simp
     with_reducible rfl
    rotate_left
    ·simp only [Act.put, List.setIfInBounds_toArray, List.set_cons_zero, List.set_cons_succ, i64_w, i32_w]
     rfl
    refine pure_ (i := 4) (N := some 90) (v := ?_) (a' := ?_) #[T18983, T18983, T18983, F18983, T18983, F18983, F18983, F18983, F18983, F18983, F18983, F18983, F18983, F18983, F18983, F18983] rfl rfl (any_of HT_.out (by kernel_rfl)) (fun _ _ _ h => h) (Or.inl ⟨by rfl, ?_⟩) ?_ ?_
    rotate_left
    ·intro w'
     go_simp
     with_reducible rfl
    rotate_left
    ·simp only [Act.put, List.setIfInBounds_toArray, List.set_cons_zero, List.set_cons_succ, i64_w, i32_w]
     rfl
    refine pure_ (i := 5) (N := some 91) (v := ?_) (a' := ?_) #[T18983, T18983, T18983, F18983, T18983, T18983, F18983, F18983, F18983, F18983, F18983, F18983, F18983, F18983, F18983, F18983] rfl rfl (any_of HT_.out (by kernel_rfl)) (fun _ _ _ h => h) (Or.inl ⟨by rfl, ?_⟩) ?_ ?_
    rotate_left
    ·intro w'
     go_simp
     with_reducible rfl
    rotate_left
    ·simp only [Act.put, List.setIfInBounds_toArray, List.set_cons_zero, List.set_cons_succ, i64_w, i32_w]
     rfl
    refine pure_ (i := 6) (N := some 92) (v := ?_) (a' := ?_) #[T18983, T18983, T18983, F18983, T18983, T18983, T18983, F18983, F18983, F18983, F18983, F18983, F18983, F18983, F18983, F18983] rfl rfl (any_of HT_.out (by kernel_rfl)) (fun _ _ _ h => h) (Or.inl ⟨by rfl, ?_⟩) ?_ ?_
    rotate_left
    ·intro w'
     go_simp
     with_reducible rfl
    rotate_left
    ·simp only [Act.put, List.setIfInBounds_toArray, List.set_cons_zero, List.set_cons_succ, i64_w, i32_w]
     rfl
    refine pure_ (i := 7) (N := some 93) (v := ?_) (a' := ?_) #[T18983, T18983, T18983, F18983, T18983, T18983, T18983, T18983, F18983, F18983, F18983, F18983, F18983, F18983, F18983, F18983] rfl rfl (any_of HT_.out (by kernel_rfl)) (fun _ _ _ h => h) (Or.inl ⟨by rfl, ?_⟩) ?_ ?_
    rotate_left
    ·intro w'
     go_simp
     with_reducible rfl
    rotate_left
    ·simp only [Act.put, List.setIfInBounds_toArray, List.set_cons_zero, List.set_cons_succ, i64_w, i32_w]
     rfl
    refine pure_ (i := 9) (N := some 95) (v := ?_) (a' := ?_) #[T18983, T18983, T18983, F18983, T18983, T18983, T18983, T18983, F18983, T18983, F18983, F18983, F18983, F18983, F18983, F18983] rfl rfl (any_of HT_.out (by kernel_rfl)) (fun _ _ _ h => h) (Or.inl ⟨by rfl, ?_⟩) ?_ ?_
    rotate_left
    ·intro w'
     go_simp
     with_reducible rfl
    rotate_left
    ·simp only [Act.put, List.setIfInBounds_toArray, List.set_cons_zero, List.set_cons_succ, i64_w, i32_w]
     rfl
    refine pure_ (i := 12) (N := some 98) (v := ?_) (a' := ?_) #[T18983, T18983, T18983, F18983, T18983, T18983, T18983, T18983, F18983, T18983, F18983, F18983, T18983, F18983, F18983, F18983] rfl rfl (any_of HT_.out (by kernel_rfl)) (fun _ _ _ h => h) (Or.inl ⟨by rfl, ?_⟩) ?_ ?_
    rotate_left
    ·intro w'
     go_simp
     with_reducible rfl
    rotate_left
    ·simp only [Act.put, List.setIfInBounds_toArray, List.set_cons_zero, List.set_cons_succ, i64_w, i32_w]
     rfl
    refine take_ (i := 3) (N := some 89) (v := ?_) (a' := ?_) #[T18983, T18983, T18983, T18983, T18983, T18983, T18983, T18983, F18983, T18983, F18983, F18983, T18983, F18983, F18983, F18983] rfl rfl (take_ofW HT_.out HW_.out (by kernel_rfl)) (fun _ _ _ h => h) (Or.inl ⟨by rfl, ?_⟩) hHeld ?_ ?_
    rotate_left
    ·rintro w' ⟨s0, s1, s2, s3, s4, s5, s6, s7, s8, s9, s10, s11, s12, s13, s14, s15, s16, s17, s18, s19⟩
     go_simp
     with_reducible rfl
    rotate_left
    ·simp only [Act.put, List.setIfInBounds_toArray, List.set_cons_zero, List.set_cons_succ, i64_w, i32_w]
     rfl
    refine take_ (i := 8) (N := some 94) (v := ?_) (a' := ?_) #[T18983, T18983, T18983, T18983, T18983, T18983, T18983, T18983, T18983, T18983, F18983, F18983, T18983, F18983, F18983, F18983] rfl rfl (take_ofW HT_.out HW_.out (by kernel_rfl)) (fun _ _ _ h => h) (Or.inl ⟨by rfl, ?_⟩) hHeld ?_ ?_
    rotate_left
    ·rintro w' ⟨s0, s1, s2, s3, s4, s5, s6, s7, s8, s9, s10, s11, s12, s13, s14, s15, s16, s17, s18, s19⟩
     go_simp
     with_reducible rfl
    rotate_left
    ·simp only [Act.put, List.setIfInBounds_toArray, List.set_cons_zero, List.set_cons_succ, i64_w, i32_w]
     rfl
    refine pure_ (i := 10) (N := some 96) (v := ?_) (a' := ?_) #[T18983, T18983, T18983, T18983, T18983, T18983, T18983, T18983, T18983, T18983, T18983, F18983, T18983, F18983, F18983, F18983] rfl rfl (any_of HT_.out (by kernel_rfl)) (fun _ _ _ h => h) (Or.inl ⟨by rfl, ?_⟩) ?_ ?_
    rotate_left
    ·intro w'
     go_simp
     with_reducible rfl
    rotate_left
    ·simp only [Act.put, List.setIfInBounds_toArray, List.set_cons_zero, List.set_cons_succ, i64_w, i32_w]
     rfl
    refine take_ (i := 11) (N := some 97) (v := ?_) (a' := ?_) #[T18983, T18983, T18983, T18983, T18983, T18983, T18983, T18983, T18983, T18983, T18983, T18983, T18983, F18983, F18983, F18983] rfl rfl (take_ofW HT_.out HW_.out (by kernel_rfl)) (fun _ _ _ h => h) (Or.inl ⟨by rfl, ?_⟩) hHeld ?_ ?_
    rotate_left
    ·rintro w' ⟨s0, s1, s2, s3, s4, s5, s6, s7, s8, s9, s10, s11, s12, s13, s14, s15, s16, s17, s18, s19⟩
     go_simp
     with_reducible rfl
    rotate_left
    ·simp only [Act.put, List.setIfInBounds_toArray, List.set_cons_zero, List.set_cons_succ, i64_w, i32_w]
     rfl
    refine one_ (i := 13) (N := some 99) #[T18983, T18983, T18983, T18983, T18983, T18983, T18983, T18983, T18983, T18983, T18983, T18983, T18983, T18983, F18983, F18983] rfl rfl (one_of HT_.out (by kernel_rfl)) (by decide) (fun K hK => ?_)
    refine goes_ Try.func21 (by kernel_rfl) rfl #[.agg #[.int .i64 ((rd_T58 ((rd_T53 t359 x12_2).f2) x13_3).f0), .int .i64 ((rd_T58 ((rd_T53 t359 x12_2).f2) x13_3).f1), .int .i64 ((rd_T58 ((rd_T53 t359 x12_2).f2) x13_3).f2), .int .i64 ((rd_T58 ((rd_T53 t359 x12_2).f2) x13_3).f3), .int .i64 ((rd_T58 ((rd_T53 t359 x12_2).f2) x13_3).f4), .int .i64 ((rd_T58 ((rd_T53 t359 x12_2).f2) x13_3).f5), .string ((rd_T58 ((rd_T53 t359 x12_2).f2) x13_3).f6), .string ((rd_T58 ((rd_T53 t359 x12_2).f2) x13_3).f7), .string ((rd_T58 ((rd_T53 t359 x12_2).f2) x13_3).f8), .int .i64 ((rd_T58 ((rd_T53 t359 x12_2).f2) x13_3).f9), .int .i64 ((rd_T58 ((rd_T53 t359 x12_2).f2) x13_3).f10), .bool ((rd_T58 ((rd_T53 t359 x12_2).f2) x13_3).f11), .slice A388_12 ((rd_T58 ((rd_T53 t359 x12_2).f2) x13_3).f12).length c388_12, .slice A388_13 ((rd_T58 ((rd_T53 t359 x12_2).f2) x13_3).f13).length c388_13], .int .i64 a2] (by rfl) rfl rfl qgsleuthlaw25estimategroups_4 ?_
    with_reducible refine (sleuthlaw25_group.calls ((rd_T58 ((rd_T53 t359 x12_2).f2) x13_3).f0) ((rd_T58 ((rd_T53 t359 x12_2).f2) x13_3).f1) ((rd_T58 ((rd_T53 t359 x12_2).f2) x13_3).f2) ((rd_T58 ((rd_T53 t359 x12_2).f2) x13_3).f3) ((rd_T58 ((rd_T53 t359 x12_2).f2) x13_3).f4) ((rd_T58 ((rd_T53 t359 x12_2).f2) x13_3).f5) ((rd_T58 ((rd_T53 t359 x12_2).f2) x13_3).f6) ((rd_T58 ((rd_T53 t359 x12_2).f2) x13_3).f7) ((rd_T58 ((rd_T53 t359 x12_2).f2) x13_3).f8) ((rd_T58 ((rd_T53 t359 x12_2).f2) x13_3).f9) ((rd_T58 ((rd_T53 t359 x12_2).f2) x13_3).f10) ((rd_T58 ((rd_T53 t359 x12_2).f2) x13_3).f11) _ _ ((rd_T58 ((rd_T53 t359 x12_2).f2) x13_3).f12) _ _ ((rd_T58 ((rd_T53 t359 x12_2).f2) x13_3).f13) a2 t389 t390 t391 _ ?side1 ?side2 ?side3 ?side4 A61.out).mono ?_
    (case side1 => repeat (first | exact (by repeat (first | (with_reducible exact HR388_12.out) | (with_reducible refine Kd.C_alloc ?_ _) | (with_reducible refine Kd.C_drewN ?_ _) | (with_reducible refine Kd.C_drew ?_) | exact HR388_12.out)) | (with_reducible refine Kd.C_alloc ?_ _) | (with_reducible refine Kd.C_drewN ?_ _) | (with_reducible refine Kd.C_drew ?_)))
    (case side2 => exact HC388_12.out)
    (case side3 => repeat (first | exact (by repeat (first | (with_reducible exact HR388_13.out) | (with_reducible refine Kd.C_alloc ?_ _) | (with_reducible refine Kd.C_drewN ?_ _) | (with_reducible refine Kd.C_drew ?_) | exact HR388_13.out)) | (with_reducible refine Kd.C_alloc ?_ _) | (with_reducible refine Kd.C_drewN ?_ _) | (with_reducible refine Kd.C_drew ?_)))
    (case side4 => exact HC388_13.out)
    rintro e w78 ⟨rfl, hb⟩
    have HS3_ := (hb.cell (World.block_lt_of_cell? _ _ (hHeld.2.2.2.1))).trans (hHeld.2.2.2.1)
    have HS4_ := (hb.cell (World.block_lt_of_cell? _ _ (hHeld.2.2.2.2.1))).trans (hHeld.2.2.2.2.1)
    have HS5_ := (hb.cell (World.block_lt_of_cell? _ _ (hHeld.2.2.2.2.2.1))).trans (hHeld.2.2.2.2.2.1)
    have HS6_ := (hb.cell (World.block_lt_of_cell? _ _ (hHeld.2.2.2.2.2.2.1))).trans (hHeld.2.2.2.2.2.2.1)
    have HS7_ := (hb.cell (World.block_lt_of_cell? _ _ (hHeld.2.2.2.2.2.2.2.1))).trans (hHeld.2.2.2.2.2.2.2.1)
    have HS8_ := (hb.cell (World.block_lt_of_cell? _ _ (hHeld.2.2.2.2.2.2.2.2.1))).trans (hHeld.2.2.2.2.2.2.2.2.1)
    have HS9_ := (hb.cell (World.block_lt_of_cell? _ _ (hHeld.2.2.2.2.2.2.2.2.2.1))).trans (hHeld.2.2.2.2.2.2.2.2.2.1)
    have HS10_ := (hb.cell (World.block_lt_of_cell? _ _ (hHeld.2.2.2.2.2.2.2.2.2.2.1))).trans (hHeld.2.2.2.2.2.2.2.2.2.2.1)
    have HS11_ := (hb.cell (World.block_lt_of_cell? _ _ (hHeld.2.2.2.2.2.2.2.2.2.2.2.1))).trans (hHeld.2.2.2.2.2.2.2.2.2.2.2.1)
    have HS12_ := (hb.cell (World.block_lt_of_cell? _ _ (hHeld.2.2.2.2.2.2.2.2.2.2.2.2.1))).trans (hHeld.2.2.2.2.2.2.2.2.2.2.2.2.1)
    have HS13_ := (hb.cell (World.block_lt_of_cell? _ _ (hHeld.2.2.2.2.2.2.2.2.2.2.2.2.2.1))).trans (hHeld.2.2.2.2.2.2.2.2.2.2.2.2.2.1)
    have HS14_ := (hb.cell (World.block_lt_of_cell? _ _ (hHeld.2.2.2.2.2.2.2.2.2.2.2.2.2.2.1))).trans (hHeld.2.2.2.2.2.2.2.2.2.2.2.2.2.2.1)
    have HS15_ := (hb.cell (World.block_lt_of_cell? _ _ (hHeld.2.2.2.2.2.2.2.2.2.2.2.2.2.2.2.1))).trans (hHeld.2.2.2.2.2.2.2.2.2.2.2.2.2.2.2.1)
    have HS16_ := (hb.cell (World.block_lt_of_cell? _ _ (hHeld.2.2.2.2.2.2.2.2.2.2.2.2.2.2.2.2.1))).trans (hHeld.2.2.2.2.2.2.2.2.2.2.2.2.2.2.2.2.1)
    have HS17_ := (hb.cell (World.block_lt_of_cell? _ _ (hHeld.2.2.2.2.2.2.2.2.2.2.2.2.2.2.2.2.2.1))).trans (hHeld.2.2.2.2.2.2.2.2.2.2.2.2.2.2.2.2.2.1)
    have HS18_ := (hb.cell (World.block_lt_of_cell? _ _ (hHeld.2.2.2.2.2.2.2.2.2.2.2.2.2.2.2.2.2.2.1))).trans (hHeld.2.2.2.2.2.2.2.2.2.2.2.2.2.2.2.2.2.2.1)
    have HS19_ := (hb.cell (World.block_lt_of_cell? _ _ (hHeld.2.2.2.2.2.2.2.2.2.2.2.2.2.2.2.2.2.2.2))).trans (hHeld.2.2.2.2.2.2.2.2.2.2.2.2.2.2.2.2.2.2.2)
    refine ⟨_, rfl, ?_⟩
    have n0_ := Aside0.mk (Kd.N_below qgsleuthlaw25estimategroups_3 hb)
    have n1_ := Aside0.mk (Kd.V_below (by (with_reducible repeat (first | apply Kd.V_alloc | apply Kd.V_drewN | apply Kd.V_drew)); exact HL379_2.out) hb)
    have n2_ := Aside0.mk (Kd.V_below (by (with_reducible repeat (first | apply Kd.V_alloc | apply Kd.V_drewN | apply Kd.V_drew)); exact HL380_2.out) hb)
    have n3_ := Aside0.mk (Kd.V_below (by (with_reducible repeat (first | apply Kd.V_alloc | apply Kd.V_drewN | apply Kd.V_drew)); exact HL381_12.out) hb)
    have n4_ := Aside0.mk (Kd.V_below (by (with_reducible repeat (first | apply Kd.V_alloc | apply Kd.V_drewN | apply Kd.V_drew)); exact HL381_13.out) hb)
    have n5_ := Aside0.mk (Kd.V_below (by (with_reducible repeat (first | apply Kd.V_alloc | apply Kd.V_drewN | apply Kd.V_drew)); exact HL387_2.out) hb)
    have n6_ := Aside0.mk (Kd.V_below (by (with_reducible repeat (first | apply Kd.V_alloc | apply Kd.V_drewN | apply Kd.V_drew)); exact HL388_12.out) hb)
    have n7_ := Aside0.mk (Kd.V_below (by (with_reducible repeat (first | apply Kd.V_alloc | apply Kd.V_drewN | apply Kd.V_drew)); exact HL388_13.out) hb)
    have n8_ := Aside0.mk (blk_below (g := gb356) (o := .cells #[.slice A0_0 l0_0.length c0_0, .int .i8 a0_1, .int .i8 a0_2, .int .i8 a0_3, .int .i8 a0_4, .slice A0_5 l0_5.length c0_5, .int .u8 a0_6] 27 (0, 0)) qgsleuthlaw25estimategroups_1 hb)
    have n9_ := Aside0.mk (blk_below (g := gb357) (o := .cells #[.int .u8 a1_0, .int .u8 a1_1, .int .u8 a1_2] 28 (0, 0)) qgsleuthlaw25estimategroups_2 hb)
    have n10_ := Aside0.mk (blk_below (g := gb386) (o := .cells #[.string t382, .string t383, .string t384] 39 (0, 0)) (by (with_reducible repeat (first | refine blk_drewN ?_ _ | refine blk_drew ?_ | refine blk_alloc ?_ _)); exact BK386.out) hb)
    have n11_ := Aside0.mk (Kd.C_below (by repeat (first | (with_reducible exact HR387_2.out) | (with_reducible refine Kd.C_alloc ?_ _) | (with_reducible refine Kd.C_drewN ?_ _) | (with_reducible refine Kd.C_drew ?_) | exact HR387_2.out)) hb)
    have n12_ := Aside0.mk (Kd.C_below (by repeat (first | (with_reducible exact HR388_12.out) | (with_reducible refine Kd.C_alloc ?_ _) | (with_reducible refine Kd.C_drewN ?_ _) | (with_reducible refine Kd.C_drew ?_) | exact HR388_12.out)) hb)
    have n13_ := Aside0.mk (Kd.C_below (by repeat (first | (with_reducible exact HR388_13.out) | (with_reducible refine Kd.C_alloc ?_ _) | (with_reducible refine Kd.C_drewN ?_ _) | (with_reducible refine Kd.C_drew ?_) | exact HR388_13.out)) hb)
    have n14_ := Aside0.mk (below_step qgsleuthlaw25estimategroups_6 hb)
    clear HO_7
    clear HL379_2
    clear HL380_2
    clear HL381_12
    clear HL381_13
    clear HL387_2
    clear HL388_12
    clear HL388_13
    clear BK356
    clear BK357
    clear BK386
    clear HR387_2
    clear HR388_12
    clear HR388_13
    clear HB
    have HO_7 := n0_
    have HL379_2 := n1_
    have HL380_2 := n2_
    have HL381_12 := n3_
    have HL381_13 := n4_
    have HL387_2 := n5_
    have HL388_12 := n6_
    have HL388_13 := n7_
    have BK356 := n8_
    have BK357 := n9_
    have BK386 := n10_
    have HR387_2 := n11_
    have HR388_12 := n12_
    have HR388_13 := n13_
    have HB := n14_
    clear n0_ n1_ n2_ n3_ n4_ n5_ n6_ n7_ n8_ n9_ n10_ n11_ n12_ n13_ n14_
    (try clear hb)
    (try clear hb2)
    (try clear hk)
    (try clear hi)
    refine hK.out _ _ ⟨(blk_cell BK386.out 0).trans rfl, (blk_cell BK386.out 1).trans rfl, (blk_cell BK386.out 2).trans rfl, HS3_, HS4_, HS5_, HS6_, HS7_, HS8_, HS9_, HS10_, HS11_, HS12_, HS13_, HS14_, HS15_, HS16_, HS17_, HS18_, HS19_⟩ (fun hHeld => ?_)
    clear hK K
    refine norm_ (a' := ?_) ?_ ?_
    rotate_left
    ·show Act.put _ (some 99) _ = _
     simp only [Act.put, List.setIfInBounds_toArray, List.set_cons_zero, List.set_cons_succ, i64_w, i32_w]
     rfl
    refine pure_ (i := 14) (N := some 100) (v := ?_) (a' := ?_) #[T18983, T18983, T18983, T18983, T18983, T18983, T18983, T18983, T18983, T18983, T18983, T18983, T18983, T18983, T18983, F18983] rfl rfl (any_of HT_.out (by kernel_rfl)) (fun _ _ _ h => h) (Or.inl ⟨by rfl, ?_⟩) ?_ ?_
    rotate_left
    ·intro w'
     go_simp
     with_reducible rfl
    rotate_left
    ·simp only [Act.put, List.setIfInBounds_toArray, List.set_cons_zero, List.set_cons_succ, i64_w, i32_w]
     rfl
    refine pure_ (i := 15) (N := some 101) (v := ?_) (a' := ?_) #[T18983, T18983, T18983, T18983, T18983, T18983, T18983, T18983, T18983, T18983, T18983, T18983, T18983, T18983, T18983, T18983] rfl rfl (any_of HT_.out (by kernel_rfl)) (fun _ _ _ h => h) (Or.inl ⟨by rfl, ?_⟩) ?_ ?_
    rotate_left
    ·intro w'
     go_simp
     with_reducible rfl
    rotate_left
    ·simp only [Act.put, List.setIfInBounds_toArray, List.set_cons_zero, List.set_cons_succ, i64_w, i32_w]
     rfl
    refine done_ (done_of HT_.out (by kernel_rfl)) ?_
    try go_wp2
    go_roundg k3
    case measure => have := HJ6.out; have := HK2.out; have := HK3.out; omega
    case rel => exact ⟨(wrap64 (x13_3 + 1)), (by first | rfl | (simp; done) | (simp [*]; done)), H', ⟨by have := HJ6.out; have := HK2.out; have := HK3.out; omega⟩, ⟨by (with_reducible repeat (first | apply Kd.N_alloc | apply Kd.N_drewN | apply Kd.N_drew)); exact Kd.N_mono HO_7.out (fun _ hk => ⟨hk.1, hk.2.1⟩)⟩, ⟨qgsleuthlaw25estimategroups_1⟩, ⟨qgsleuthlaw25estimategroups_2⟩, ⟨qgsleuthlaw25estimategroups_6⟩⟩
end Go.Proofs.Ythdifdnjodbdnaa.Q
