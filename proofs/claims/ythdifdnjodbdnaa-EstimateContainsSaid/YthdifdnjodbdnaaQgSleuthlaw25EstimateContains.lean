-- Laid by myprint.py (a program of this session's, over the kit's printer and with functions proved by hand)
import Derived.Test.YthdifdnjodbdnaaTy
import Derived.Test.YthdifdnjodbdnaaQgCnt
import Derived.Test.YthdifdnjodbdnaaQgKnown
import Derived.Test.YthdifdnjodbdnaaQgSh
import Derived.Test.YthdifdnjodbdnaaQgTrs
namespace Go.Proofs.Ythdifdnjodbdnaa.Q
open Go.RowKit Go.Proofs.YthdifdnjodbdnaaW.PrintWords Go.Proofs.YthdifdnjodbdnaaW.PrintLast Go.Proofs.YthdifdnjodbdnaaW.PrintMore
attribute [local go_sem] max2_int min2_int max_two min_two max_three min_three max_four min_four   -- for this text's walks alone
set_option linter.unusedVariables false
set_option linter.unusedSimpArgs false

abbrev T20322 : Bool := true
abbrev F20322 : Bool := false
theorem qgsleuthlaw25estimatecontains_0 {p : Prop} (h : p := by repeat (first | (with_reducible first | exact HB.out | apply below_alloc | apply pw_below_drewN | apply below_drew1 | refine below_set ?_ GE281.out | refine below_set ?_ GE288.out) | exact HB.out)) : p := h
theorem qgsleuthlaw25estimatecontains_1 {p : Prop} (h : p := by (with_reducible repeat (first | refine blk_drewN ?_ _ | refine blk_drew ?_ | refine blk_alloc ?_ _)); exact BK281.out) : p := h
theorem qgsleuthlaw25estimatecontains_2 {p : Prop} (h : p := by (with_reducible repeat (first | refine blk_drewN ?_ _ | refine blk_drew ?_ | refine blk_alloc ?_ _)); exact BK288.out) : p := h
theorem qgsleuthlaw25estimatecontains_3 {p : Prop} (h : p := by (with_reducible repeat (first | apply Kd.R_alloc | apply Kd.R_drewN | apply Kd.R_drew)); exact HO_289002.out) : p := h
theorem qgsleuthlaw25estimatecontains_4 {p : Prop} (h : p := by (with_reducible repeat (first | apply Kd.R_alloc | apply Kd.R_drewN | apply Kd.R_drew)); exact HO_289003.out) : p := h
theorem qgsleuthlaw25estimatecontains_5 {p : Prop} (h : p := by repeat (first | (with_reducible first | exact HB.out | apply below_alloc | apply pw_below_drewN | apply below_drew1 | refine below_set ?_ GE281.out) | exact HB.out)) : p := h
theorem qgsleuthlaw25estimatecontains_6 {p : Prop} (h : p := by (with_reducible repeat (first | apply Kd.N_alloc | apply Kd.N_drewN | apply Kd.N_drew)); exact HO_289000.out) : p := h
theorem qgsleuthlaw25estimatecontains_7 {p : Prop} (h : p := by first | (with_reducible assumption) | assumption) : p := h
theorem qgsleuthlaw25estimatecontains_8 {p : Prop} (h : p := by (with_reducible repeat (first | apply Kd.N_alloc | apply Kd.N_drewN | apply Kd.N_drew)); exact HO_7.out) : p := h
theorem qgsleuthlaw25estimatecontains_9 {p : Prop} (h : p := by (try simp only [List.map_toArray, List.map_cons, List.map_nil]); first | done | rfl | (simp only [List.length_drop, List.length_take]; rfl)) : p := h
theorem qgsleuthlaw25estimatecontains_10 {p : Prop} (h : p := by (with_reducible repeat (first | apply Kd.R_alloc | apply Kd.R_drewN | apply Kd.R_drew)); exact HO_96.out) : p := h
theorem qgsleuthlaw25estimatecontains_11 {p : Prop} (h : p := by first | rfl | (simp; done) | (simp [*]; done)) : p := h
theorem qgsleuthlaw25estimatecontains_12 {p : Prop} (h : p := by (with_reducible repeat (first | refine blk_drewN ?_ _ | refine blk_drew ?_ | refine blk_alloc ?_ _)); refine blk_far ?_ NB281_288.out _; (with_reducible repeat (first | refine blk_drewN ?_ _ | refine blk_drew ?_ | refine blk_alloc ?_ _)); exact BK281.out) : p := h
theorem qgsleuthlaw25estimatecontains_13 {p : Prop} (h : p := by first | exact q308 | exact of_decide_eq_true qgsleuthlaw25estimatecontains_7 | (have e_ := (Kd.N_reads' HO_7.out).1; omega)) : p := h
theorem qgsleuthlaw25estimatecontains_14 {p : Prop} (h : p := by have := HJ3.out; have := HK2.out; have := HK3.out; have := HK4.out; have := HK5.out; first | omega | exact Nat.le_refl _) : p := h
theorem qgsleuthlaw25estimatecontains_15 {p : Prop} (h : p := by have := HJ3.out; have := HK2.out; have := HK3.out; have := HK4.out; have := HK5.out; have := HK6.out; omega) : p := h
theorem qgsleuthlaw25estimatecontains_16 {p : Prop} (h : p := by first | exact Kd.R_nil _ _ _ _ _ | exact Kd.N_nil _ _ _ _ _ | exact Kd.V_nil _ _ _ _ _ | exact Kd.Q_nil _ _ _ _ _ | exact Kd.S_nil _ _ _ _ _) : p := h
theorem qgsleuthlaw25estimatecontains_17 {p : Prop} (h : p := by repeat (first | (with_reducible first | exact HB.out | apply below_alloc | apply pw_below_drewN | apply below_drew1) | exact HB.out)) : p := h
theorem qgsleuthlaw25estimatecontains_18 {p : Prop} (h : p := by first | exact q309 | exact of_decide_eq_true qgsleuthlaw25estimatecontains_7 | (have e_ := (Kd.N_reads' HO_7.out).1; omega)) : p := h
/-! ### sleuthlaw25_EstimateContains: function 4 -/
mutual
def sleuthlaw25_EstimateContains.j0 : Nat → Int → Int → Bool → List (S104) → Int → Int → Int → Int → List (S193) → Int → Option (Bool)
 | 0, _, _, _, _, _, _, _, _, _, _ => none
 | k + 1, x1, x2, x26, x282000, x282001, x282002, x282003, x282004, x282005, x282006 => if x26 = true then ((sleuthlaw25_known.f k).bind fun t284 => (some t284)) else ((sleuthlaw13_Traces.f k x282000 x282001 x282002 x282003 x282004 x282005 x282006).bind fun t285 => (sleuthlaw25_EstimateContains.l0 k x1 x2 t285 0 ([] : List (S53)) ([] : List (S60)) ([] : List (S62))))
def sleuthlaw25_EstimateContains.l0 : Nat → Int → Int → List (S53) → Int → List (S53) → List (S60) → List (S62) → Option (Bool)
 | 0, _, _, _, _, _, _, _ => none
 | k + 1, x1, x2, x7, x9, x289000, x289002, x289003 => if x9 < (x7.length : Int) then (if 0 ≤ x9 then (if (Int.tmod (shr .u8 x1 x9) 2) = 0 then (if x289000.length < 3518437208883 then (sleuthlaw25_EstimateContains.l0 k x1 x2 x7 (wrap64 (x9 + 1)) (x289000 ++ [(⟨(rd_T53 x7 x9).f0, (rd_T53 x7 x9).f1, (rd_T53 x7 x9).f2⟩ : S53)]) x289002 x289003) else (none)) else ((span_Partition.f ((rd_T53 x7 x9).f0)).bind fun t294 => (sleuthlaw25_EstimateContains.l1 k x1 x2 x7 x9 t294 0 x289000 x289002 x289003))) else (none)) else (sleuthlaw25_EstimateContains.l2 k x2 x7 0 x289000 x289002 x289003)
def sleuthlaw25_EstimateContains.l1 : Nat → Int → Int → List (S53) → Int → Int → Int → List (S53) → List (S60) → List (S62) → Option (Bool)
 | 0, _, _, _, _, _, _, _, _, _ => none
 | k + 1, x1, x2, x7, x9, x10, x11, x289000, x289002, x289003 => if 0 ≤ x9 then (if x9 < (x7.length : Int) then (if x11 < (((rd_T53 x7 x9).f2).length : Int) then (if 0 ≤ x11 then (if x289002.length < 3518437208883 then (sleuthlaw25_EstimateContains.l1 k x1 x2 x7 x9 x10 (wrap64 (x11 + 1)) x289000 (x289002 ++ [(⟨x10, (rd_T58 ((rd_T53 x7 x9).f2) x11).f6, 1, 0⟩ : S60)]) x289003) else (none)) else (none)) else (if x289003.length < 8796093022208 then (sleuthlaw25_EstimateContains.l0 k x1 x2 x7 (wrap64 (x9 + 1)) x289000 x289002 (x289003 ++ [(⟨x10, wrap64 (Int.tmod x2 3)⟩ : S62)])) else (none))) else (none)) else (none)
def sleuthlaw25_EstimateContains.l2 : Nat → Int → List (S53) → Int → List (S53) → List (S60) → List (S62) → Option (Bool)
 | 0, _, _, _, _, _, _ => none
 | k + 1, x2, x7, x12, x289000, x289002, x289003 => if x12 < 4 then ((some (([(⟨#[97, 112, 105]⟩ : ByteArray), (⟨#[100, 98]⟩ : ByteArray), (⟨#[119, 101, 98]⟩ : ByteArray), (⟨#[99, 97, 99, 104, 101]⟩ : ByteArray)] : List ByteArray) : List ByteArray)).bind fun y304 => (sleuthlaw25_EstimateContains.l3 k x2 x7 x12 y304 (y304.length : Int) 0 x289000 x289002 x289003)) else (some true)
def sleuthlaw25_EstimateContains.l3 : Nat → Int → List (S53) → Int → List ByteArray → Int → Int → List (S53) → List (S60) → List (S62) → Option (Bool)
 | 0, _, _, _, _, _, _, _, _, _ => none
 | k + 1, x2, x7, x12, x96, x97, x98, x289000, x289002, x289003 => if x98 < x97 then (if 0 ≤ x98 then (if x98 < (x96.length : Int) then (sleuthlaw25_EstimateContains.l4 k x2 x7 x12 (rdOf ByteArray.empty x96 x98) 0 0 x96 x97 x98 x289000 x289002 x289003) else (none)) else (none)) else (sleuthlaw25_EstimateContains.l2 k x2 x7 (wrap64 (x12 + 1)) x289000 x289002 x289003)
def sleuthlaw25_EstimateContains.l4 : Nat → Int → List (S53) → Int → ByteArray → Int → Int → List ByteArray → Int → Int → List (S53) → List (S60) → List (S62) → Option (Bool)
 | 0, _, _, _, _, _, _, _, _, _, _, _, _ => none
 | k + 1, x2, x7, x12, x14, x15, x16, x96, x97, x98, x289000, x289002, x289003 => if x16 < (x7.length : Int) then (sleuthlaw25_EstimateContains.l5 k x2 x7 x12 x14 x15 x16 0 x96 x97 x98 x289000 x289002 x289003) else ((estimate_Count.f k x289000 ([] : List (S195)) x289002 x289003 x12 x14).bind fun bt313 => (if x15 < bt313.1 then (sleuthlaw25_EstimateContains.j7 k x2 x7 x12 x96 x97 x98 true x289000 x289002 x289003) else (if x15 > bt313.2 then (sleuthlaw25_EstimateContains.j7 k x2 x7 x12 x96 x97 x98 true x289000 x289002 x289003) else (if (Int.tmod x2 3) = 0 then (sleuthlaw25_EstimateContains.j7 k x2 x7 x12 x96 x97 x98 (bt313.1 != bt313.2) x289000 x289002 x289003) else (sleuthlaw25_EstimateContains.j7 k x2 x7 x12 x96 x97 x98 false x289000 x289002 x289003)))))
def sleuthlaw25_EstimateContains.l5 : Nat → Int → List (S53) → Int → ByteArray → Int → Int → Int → List ByteArray → Int → Int → List (S53) → List (S60) → List (S62) → Option (Bool)
 | 0, _, _, _, _, _, _, _, _, _, _, _, _, _ => none
 | k + 1, x2, x7, x12, x14, x15, x16, x17, x96, x97, x98, x289000, x289002, x289003 => if 0 ≤ x16 then (if x16 < (x7.length : Int) then (if x17 < (((rd_T53 x7 x16).f2).length : Int) then ((span_Partition.f ((rd_T53 x7 x16).f0)).bind fun t310 => (if t310 = x12 then (if 0 ≤ x17 then (if ((rd_T58 ((rd_T53 x7 x16).f2) x17).f6).toList = x14.toList then (sleuthlaw25_EstimateContains.l5 k x2 x7 x12 x14 (wrap64 (x15 + 1)) x16 (wrap64 (x17 + 1)) x96 x97 x98 x289000 x289002 x289003) else (sleuthlaw25_EstimateContains.l5 k x2 x7 x12 x14 x15 x16 (wrap64 (x17 + 1)) x96 x97 x98 x289000 x289002 x289003)) else (none)) else (sleuthlaw25_EstimateContains.l5 k x2 x7 x12 x14 x15 x16 (wrap64 (x17 + 1)) x96 x97 x98 x289000 x289002 x289003))) else (sleuthlaw25_EstimateContains.l4 k x2 x7 x12 x14 x15 (wrap64 (x16 + 1)) x96 x97 x98 x289000 x289002 x289003)) else (none)) else (none)
def sleuthlaw25_EstimateContains.j7 : Nat → Int → List (S53) → Int → List ByteArray → Int → Int → Bool → List (S53) → List (S60) → List (S62) → Option (Bool)
 | 0, _, _, _, _, _, _, _, _, _, _ => none
 | k + 1, x2, x7, x12, x96, x97, x98, x165, x289000, x289002, x289003 => if x165 = true then (some false) else (sleuthlaw25_EstimateContains.l3 k x2 x7 x12 x96 x97 (wrap64 (x98 + 1)) x289000 x289002 x289003)
end
def sleuthlaw25_EstimateContains.f (k : Nat) (l0_0 : List (S104)) (a0_1 : Int) (a0_2 : Int) (a0_3 : Int) (a0_4 : Int) (l0_5 : List (S193)) (a0_6 : Int) (a1 : Int) (a2 : Int) : Option (Bool) := (sleuthlaw25_known.f k).bind fun t282 => (if t282 = true then ((sleuthlaw13_Short.f k l0_0 a0_1 a0_2 a0_3 a0_4 l0_5 a0_6).bind fun t283 => (sleuthlaw25_EstimateContains.j0 k a1 a2 (!t283) l0_0 a0_1 a0_2 a0_3 a0_4 l0_5 a0_6)) else (sleuthlaw25_EstimateContains.j0 k a1 a2 true l0_0 a0_1 a0_2 a0_3 a0_4 l0_5 a0_6))
theorem sleuthlaw25_EstimateContains.mono_l : ∀ k, (∀ y0 y1 y2 y3 y4 y5 y6 y7 y8 y9, LeO (sleuthlaw25_EstimateContains.j0 k y0 y1 y2 y3 y4 y5 y6 y7 y8 y9) (sleuthlaw25_EstimateContains.j0 (k + 1) y0 y1 y2 y3 y4 y5 y6 y7 y8 y9)) ∧ (∀ y0 y1 y2 y3 y4 y5 y6, LeO (sleuthlaw25_EstimateContains.l0 k y0 y1 y2 y3 y4 y5 y6) (sleuthlaw25_EstimateContains.l0 (k + 1) y0 y1 y2 y3 y4 y5 y6)) ∧ (∀ y0 y1 y2 y3 y4 y5 y6 y7 y8, LeO (sleuthlaw25_EstimateContains.l1 k y0 y1 y2 y3 y4 y5 y6 y7 y8) (sleuthlaw25_EstimateContains.l1 (k + 1) y0 y1 y2 y3 y4 y5 y6 y7 y8)) ∧ (∀ y0 y1 y2 y3 y4 y5, LeO (sleuthlaw25_EstimateContains.l2 k y0 y1 y2 y3 y4 y5) (sleuthlaw25_EstimateContains.l2 (k + 1) y0 y1 y2 y3 y4 y5)) ∧ (∀ y0 y1 y2 y3 y4 y5 y6 y7 y8, LeO (sleuthlaw25_EstimateContains.l3 k y0 y1 y2 y3 y4 y5 y6 y7 y8) (sleuthlaw25_EstimateContains.l3 (k + 1) y0 y1 y2 y3 y4 y5 y6 y7 y8)) ∧ (∀ y0 y1 y2 y3 y4 y5 y6 y7 y8 y9 y10 y11, LeO (sleuthlaw25_EstimateContains.l4 k y0 y1 y2 y3 y4 y5 y6 y7 y8 y9 y10 y11) (sleuthlaw25_EstimateContains.l4 (k + 1) y0 y1 y2 y3 y4 y5 y6 y7 y8 y9 y10 y11)) ∧ (∀ y0 y1 y2 y3 y4 y5 y6 y7 y8 y9 y10 y11 y12, LeO (sleuthlaw25_EstimateContains.l5 k y0 y1 y2 y3 y4 y5 y6 y7 y8 y9 y10 y11 y12) (sleuthlaw25_EstimateContains.l5 (k + 1) y0 y1 y2 y3 y4 y5 y6 y7 y8 y9 y10 y11 y12)) ∧ (∀ y0 y1 y2 y3 y4 y5 y6 y7 y8 y9, LeO (sleuthlaw25_EstimateContains.j7 k y0 y1 y2 y3 y4 y5 y6 y7 y8 y9) (sleuthlaw25_EstimateContains.j7 (k + 1) y0 y1 y2 y3 y4 y5 y6 y7 y8 y9))
 | 0 => ⟨fun _ _ _ _ _ _ _ _ _ _ r h => by simp [sleuthlaw25_EstimateContains.j0] at h, fun _ _ _ _ _ _ _ r h => by simp [sleuthlaw25_EstimateContains.l0] at h, fun _ _ _ _ _ _ _ _ _ r h => by simp [sleuthlaw25_EstimateContains.l1] at h, fun _ _ _ _ _ _ r h => by simp [sleuthlaw25_EstimateContains.l2] at h, fun _ _ _ _ _ _ _ _ _ r h => by simp [sleuthlaw25_EstimateContains.l3] at h, fun _ _ _ _ _ _ _ _ _ _ _ _ r h => by simp [sleuthlaw25_EstimateContains.l4] at h, fun _ _ _ _ _ _ _ _ _ _ _ _ _ r h => by simp [sleuthlaw25_EstimateContains.l5] at h, fun _ _ _ _ _ _ _ _ _ _ r h => by simp [sleuthlaw25_EstimateContains.j7] at h⟩
 | k + 1 => by
  obtain ⟨ih0, ih1, ih2, ih3, ih4, ih5, ih6, ih7⟩ := sleuthlaw25_EstimateContains.mono_l k
  refine ⟨?_, ?_, ?_, ?_, ?_, ?_, ?_, ?_⟩
  ·intro y0 y1 y2 y3 y4 y5 y6 y7 y8 y9
   unfold sleuthlaw25_EstimateContains.j0
   repeat' first
   | (with_reducible exact ih0 _ _ _ _ _ _ _ _ _ _)
   | (with_reducible exact ih1 _ _ _ _ _ _ _)
   | (with_reducible exact ih2 _ _ _ _ _ _ _ _ _)
   | (with_reducible exact ih3 _ _ _ _ _ _)
   | (with_reducible exact ih4 _ _ _ _ _ _ _ _ _)
   | (with_reducible exact ih5 _ _ _ _ _ _ _ _ _ _ _ _)
   | (with_reducible exact ih6 _ _ _ _ _ _ _ _ _ _ _ _ _)
   | (with_reducible exact ih7 _ _ _ _ _ _ _ _ _ _)
   | (with_reducible exact estimate_Count.mono _ _ _ _ _ _ _)
   | (with_reducible exact sleuthlaw13_Short.mono _ _ _ _ _ _ _ _)
   | (with_reducible exact sleuthlaw13_Traces.mono _ _ _ _ _ _ _ _)
   | (with_reducible exact sleuthlaw25_known.mono _)
   | (with_reducible exact LeO.refl _)
   | (with_reducible exact LeO.none _)
   | (with_reducible refine LeO.ite ?_ ?_)
   | (with_reducible refine LeO.bind ?_ (fun _ => ?_))
   | exact ih0 _ _ _ _ _ _ _ _ _ _
   | exact ih1 _ _ _ _ _ _ _
   | exact ih2 _ _ _ _ _ _ _ _ _
   | exact ih3 _ _ _ _ _ _
   | exact ih4 _ _ _ _ _ _ _ _ _
   | exact ih5 _ _ _ _ _ _ _ _ _ _ _ _
   | exact ih6 _ _ _ _ _ _ _ _ _ _ _ _ _
   | exact ih7 _ _ _ _ _ _ _ _ _ _
   | exact estimate_Count.mono _ _ _ _ _ _ _
   | exact sleuthlaw13_Short.mono _ _ _ _ _ _ _ _
   | exact sleuthlaw13_Traces.mono _ _ _ _ _ _ _ _
   | exact sleuthlaw25_known.mono _
   | exact LeO.none _
   | refine LeO.ite ?_ ?_
   | refine LeO.bind ?_ (fun _ => ?_)
  ·intro y0 y1 y2 y3 y4 y5 y6
   unfold sleuthlaw25_EstimateContains.l0
   repeat' first
   | (with_reducible exact ih0 _ _ _ _ _ _ _ _ _ _)
   | (with_reducible exact ih1 _ _ _ _ _ _ _)
   | (with_reducible exact ih2 _ _ _ _ _ _ _ _ _)
   | (with_reducible exact ih3 _ _ _ _ _ _)
   | (with_reducible exact ih4 _ _ _ _ _ _ _ _ _)
   | (with_reducible exact ih5 _ _ _ _ _ _ _ _ _ _ _ _)
   | (with_reducible exact ih6 _ _ _ _ _ _ _ _ _ _ _ _ _)
   | (with_reducible exact ih7 _ _ _ _ _ _ _ _ _ _)
   | (with_reducible exact estimate_Count.mono _ _ _ _ _ _ _)
   | (with_reducible exact sleuthlaw13_Short.mono _ _ _ _ _ _ _ _)
   | (with_reducible exact sleuthlaw13_Traces.mono _ _ _ _ _ _ _ _)
   | (with_reducible exact sleuthlaw25_known.mono _)
   | (with_reducible exact LeO.refl _)
   | (with_reducible exact LeO.none _)
   | (with_reducible refine LeO.ite ?_ ?_)
   | (with_reducible refine LeO.bind ?_ (fun _ => ?_))
   | exact ih0 _ _ _ _ _ _ _ _ _ _
   | exact ih1 _ _ _ _ _ _ _
   | exact ih2 _ _ _ _ _ _ _ _ _
   | exact ih3 _ _ _ _ _ _
   | exact ih4 _ _ _ _ _ _ _ _ _
   | exact ih5 _ _ _ _ _ _ _ _ _ _ _ _
   | exact ih6 _ _ _ _ _ _ _ _ _ _ _ _ _
   | exact ih7 _ _ _ _ _ _ _ _ _ _
   | exact estimate_Count.mono _ _ _ _ _ _ _
   | exact sleuthlaw13_Short.mono _ _ _ _ _ _ _ _
   | exact sleuthlaw13_Traces.mono _ _ _ _ _ _ _ _
   | exact sleuthlaw25_known.mono _
   | exact LeO.none _
   | refine LeO.ite ?_ ?_
   | refine LeO.bind ?_ (fun _ => ?_)
  ·intro y0 y1 y2 y3 y4 y5 y6 y7 y8
   unfold sleuthlaw25_EstimateContains.l1
   repeat' first
   | (with_reducible exact ih0 _ _ _ _ _ _ _ _ _ _)
   | (with_reducible exact ih1 _ _ _ _ _ _ _)
   | (with_reducible exact ih2 _ _ _ _ _ _ _ _ _)
   | (with_reducible exact ih3 _ _ _ _ _ _)
   | (with_reducible exact ih4 _ _ _ _ _ _ _ _ _)
   | (with_reducible exact ih5 _ _ _ _ _ _ _ _ _ _ _ _)
   | (with_reducible exact ih6 _ _ _ _ _ _ _ _ _ _ _ _ _)
   | (with_reducible exact ih7 _ _ _ _ _ _ _ _ _ _)
   | (with_reducible exact estimate_Count.mono _ _ _ _ _ _ _)
   | (with_reducible exact sleuthlaw13_Short.mono _ _ _ _ _ _ _ _)
   | (with_reducible exact sleuthlaw13_Traces.mono _ _ _ _ _ _ _ _)
   | (with_reducible exact sleuthlaw25_known.mono _)
   | (with_reducible exact LeO.refl _)
   | (with_reducible exact LeO.none _)
   | (with_reducible refine LeO.ite ?_ ?_)
   | (with_reducible refine LeO.bind ?_ (fun _ => ?_))
   | exact ih0 _ _ _ _ _ _ _ _ _ _
   | exact ih1 _ _ _ _ _ _ _
   | exact ih2 _ _ _ _ _ _ _ _ _
   | exact ih3 _ _ _ _ _ _
   | exact ih4 _ _ _ _ _ _ _ _ _
   | exact ih5 _ _ _ _ _ _ _ _ _ _ _ _
   | exact ih6 _ _ _ _ _ _ _ _ _ _ _ _ _
   | exact ih7 _ _ _ _ _ _ _ _ _ _
   | exact estimate_Count.mono _ _ _ _ _ _ _
   | exact sleuthlaw13_Short.mono _ _ _ _ _ _ _ _
   | exact sleuthlaw13_Traces.mono _ _ _ _ _ _ _ _
   | exact sleuthlaw25_known.mono _
   | exact LeO.none _
   | refine LeO.ite ?_ ?_
   | refine LeO.bind ?_ (fun _ => ?_)
  ·intro y0 y1 y2 y3 y4 y5
   unfold sleuthlaw25_EstimateContains.l2
   repeat' first
   | (with_reducible exact ih0 _ _ _ _ _ _ _ _ _ _)
   | (with_reducible exact ih1 _ _ _ _ _ _ _)
   | (with_reducible exact ih2 _ _ _ _ _ _ _ _ _)
   | (with_reducible exact ih3 _ _ _ _ _ _)
   | (with_reducible exact ih4 _ _ _ _ _ _ _ _ _)
   | (with_reducible exact ih5 _ _ _ _ _ _ _ _ _ _ _ _)
   | (with_reducible exact ih6 _ _ _ _ _ _ _ _ _ _ _ _ _)
   | (with_reducible exact ih7 _ _ _ _ _ _ _ _ _ _)
   | (with_reducible exact estimate_Count.mono _ _ _ _ _ _ _)
   | (with_reducible exact sleuthlaw13_Short.mono _ _ _ _ _ _ _ _)
   | (with_reducible exact sleuthlaw13_Traces.mono _ _ _ _ _ _ _ _)
   | (with_reducible exact sleuthlaw25_known.mono _)
   | (with_reducible exact LeO.refl _)
   | (with_reducible exact LeO.none _)
   | (with_reducible refine LeO.ite ?_ ?_)
   | (with_reducible refine LeO.bind ?_ (fun _ => ?_))
   | exact ih0 _ _ _ _ _ _ _ _ _ _
   | exact ih1 _ _ _ _ _ _ _
   | exact ih2 _ _ _ _ _ _ _ _ _
   | exact ih3 _ _ _ _ _ _
   | exact ih4 _ _ _ _ _ _ _ _ _
   | exact ih5 _ _ _ _ _ _ _ _ _ _ _ _
   | exact ih6 _ _ _ _ _ _ _ _ _ _ _ _ _
   | exact ih7 _ _ _ _ _ _ _ _ _ _
   | exact estimate_Count.mono _ _ _ _ _ _ _
   | exact sleuthlaw13_Short.mono _ _ _ _ _ _ _ _
   | exact sleuthlaw13_Traces.mono _ _ _ _ _ _ _ _
   | exact sleuthlaw25_known.mono _
   | exact LeO.none _
   | refine LeO.ite ?_ ?_
   | refine LeO.bind ?_ (fun _ => ?_)
  ·intro y0 y1 y2 y3 y4 y5 y6 y7 y8
   unfold sleuthlaw25_EstimateContains.l3
   repeat' first
   | (with_reducible exact ih0 _ _ _ _ _ _ _ _ _ _)
   | (with_reducible exact ih1 _ _ _ _ _ _ _)
   | (with_reducible exact ih2 _ _ _ _ _ _ _ _ _)
   | (with_reducible exact ih3 _ _ _ _ _ _)
   | (with_reducible exact ih4 _ _ _ _ _ _ _ _ _)
   | (with_reducible exact ih5 _ _ _ _ _ _ _ _ _ _ _ _)
   | (with_reducible exact ih6 _ _ _ _ _ _ _ _ _ _ _ _ _)
   | (with_reducible exact ih7 _ _ _ _ _ _ _ _ _ _)
   | (with_reducible exact estimate_Count.mono _ _ _ _ _ _ _)
   | (with_reducible exact sleuthlaw13_Short.mono _ _ _ _ _ _ _ _)
   | (with_reducible exact sleuthlaw13_Traces.mono _ _ _ _ _ _ _ _)
   | (with_reducible exact sleuthlaw25_known.mono _)
   | (with_reducible exact LeO.refl _)
   | (with_reducible exact LeO.none _)
   | (with_reducible refine LeO.ite ?_ ?_)
   | (with_reducible refine LeO.bind ?_ (fun _ => ?_))
   | exact ih0 _ _ _ _ _ _ _ _ _ _
   | exact ih1 _ _ _ _ _ _ _
   | exact ih2 _ _ _ _ _ _ _ _ _
   | exact ih3 _ _ _ _ _ _
   | exact ih4 _ _ _ _ _ _ _ _ _
   | exact ih5 _ _ _ _ _ _ _ _ _ _ _ _
   | exact ih6 _ _ _ _ _ _ _ _ _ _ _ _ _
   | exact ih7 _ _ _ _ _ _ _ _ _ _
   | exact estimate_Count.mono _ _ _ _ _ _ _
   | exact sleuthlaw13_Short.mono _ _ _ _ _ _ _ _
   | exact sleuthlaw13_Traces.mono _ _ _ _ _ _ _ _
   | exact sleuthlaw25_known.mono _
   | exact LeO.none _
   | refine LeO.ite ?_ ?_
   | refine LeO.bind ?_ (fun _ => ?_)
  ·intro y0 y1 y2 y3 y4 y5 y6 y7 y8 y9 y10 y11
   unfold sleuthlaw25_EstimateContains.l4
   repeat' first
   | (with_reducible exact ih0 _ _ _ _ _ _ _ _ _ _)
   | (with_reducible exact ih1 _ _ _ _ _ _ _)
   | (with_reducible exact ih2 _ _ _ _ _ _ _ _ _)
   | (with_reducible exact ih3 _ _ _ _ _ _)
   | (with_reducible exact ih4 _ _ _ _ _ _ _ _ _)
   | (with_reducible exact ih5 _ _ _ _ _ _ _ _ _ _ _ _)
   | (with_reducible exact ih6 _ _ _ _ _ _ _ _ _ _ _ _ _)
   | (with_reducible exact ih7 _ _ _ _ _ _ _ _ _ _)
   | (with_reducible exact estimate_Count.mono _ _ _ _ _ _ _)
   | (with_reducible exact sleuthlaw13_Short.mono _ _ _ _ _ _ _ _)
   | (with_reducible exact sleuthlaw13_Traces.mono _ _ _ _ _ _ _ _)
   | (with_reducible exact sleuthlaw25_known.mono _)
   | (with_reducible exact LeO.refl _)
   | (with_reducible exact LeO.none _)
   | (with_reducible refine LeO.ite ?_ ?_)
   | (with_reducible refine LeO.bind ?_ (fun _ => ?_))
   | exact ih0 _ _ _ _ _ _ _ _ _ _
   | exact ih1 _ _ _ _ _ _ _
   | exact ih2 _ _ _ _ _ _ _ _ _
   | exact ih3 _ _ _ _ _ _
   | exact ih4 _ _ _ _ _ _ _ _ _
   | exact ih5 _ _ _ _ _ _ _ _ _ _ _ _
   | exact ih6 _ _ _ _ _ _ _ _ _ _ _ _ _
   | exact ih7 _ _ _ _ _ _ _ _ _ _
   | exact estimate_Count.mono _ _ _ _ _ _ _
   | exact sleuthlaw13_Short.mono _ _ _ _ _ _ _ _
   | exact sleuthlaw13_Traces.mono _ _ _ _ _ _ _ _
   | exact sleuthlaw25_known.mono _
   | exact LeO.none _
   | refine LeO.ite ?_ ?_
   | refine LeO.bind ?_ (fun _ => ?_)
  ·intro y0 y1 y2 y3 y4 y5 y6 y7 y8 y9 y10 y11 y12
   unfold sleuthlaw25_EstimateContains.l5
   repeat' first
   | (with_reducible exact ih0 _ _ _ _ _ _ _ _ _ _)
   | (with_reducible exact ih1 _ _ _ _ _ _ _)
   | (with_reducible exact ih2 _ _ _ _ _ _ _ _ _)
   | (with_reducible exact ih3 _ _ _ _ _ _)
   | (with_reducible exact ih4 _ _ _ _ _ _ _ _ _)
   | (with_reducible exact ih5 _ _ _ _ _ _ _ _ _ _ _ _)
   | (with_reducible exact ih6 _ _ _ _ _ _ _ _ _ _ _ _ _)
   | (with_reducible exact ih7 _ _ _ _ _ _ _ _ _ _)
   | (with_reducible exact estimate_Count.mono _ _ _ _ _ _ _)
   | (with_reducible exact sleuthlaw13_Short.mono _ _ _ _ _ _ _ _)
   | (with_reducible exact sleuthlaw13_Traces.mono _ _ _ _ _ _ _ _)
   | (with_reducible exact sleuthlaw25_known.mono _)
   | (with_reducible exact LeO.refl _)
   | (with_reducible exact LeO.none _)
   | (with_reducible refine LeO.ite ?_ ?_)
   | (with_reducible refine LeO.bind ?_ (fun _ => ?_))
   | exact ih0 _ _ _ _ _ _ _ _ _ _
   | exact ih1 _ _ _ _ _ _ _
   | exact ih2 _ _ _ _ _ _ _ _ _
   | exact ih3 _ _ _ _ _ _
   | exact ih4 _ _ _ _ _ _ _ _ _
   | exact ih5 _ _ _ _ _ _ _ _ _ _ _ _
   | exact ih6 _ _ _ _ _ _ _ _ _ _ _ _ _
   | exact ih7 _ _ _ _ _ _ _ _ _ _
   | exact estimate_Count.mono _ _ _ _ _ _ _
   | exact sleuthlaw13_Short.mono _ _ _ _ _ _ _ _
   | exact sleuthlaw13_Traces.mono _ _ _ _ _ _ _ _
   | exact sleuthlaw25_known.mono _
   | exact LeO.none _
   | refine LeO.ite ?_ ?_
   | refine LeO.bind ?_ (fun _ => ?_)
  ·intro y0 y1 y2 y3 y4 y5 y6 y7 y8 y9
   unfold sleuthlaw25_EstimateContains.j7
   repeat' first
   | (with_reducible exact ih0 _ _ _ _ _ _ _ _ _ _)
   | (with_reducible exact ih1 _ _ _ _ _ _ _)
   | (with_reducible exact ih2 _ _ _ _ _ _ _ _ _)
   | (with_reducible exact ih3 _ _ _ _ _ _)
   | (with_reducible exact ih4 _ _ _ _ _ _ _ _ _)
   | (with_reducible exact ih5 _ _ _ _ _ _ _ _ _ _ _ _)
   | (with_reducible exact ih6 _ _ _ _ _ _ _ _ _ _ _ _ _)
   | (with_reducible exact ih7 _ _ _ _ _ _ _ _ _ _)
   | (with_reducible exact estimate_Count.mono _ _ _ _ _ _ _)
   | (with_reducible exact sleuthlaw13_Short.mono _ _ _ _ _ _ _ _)
   | (with_reducible exact sleuthlaw13_Traces.mono _ _ _ _ _ _ _ _)
   | (with_reducible exact sleuthlaw25_known.mono _)
   | (with_reducible exact LeO.refl _)
   | (with_reducible exact LeO.none _)
   | (with_reducible refine LeO.ite ?_ ?_)
   | (with_reducible refine LeO.bind ?_ (fun _ => ?_))
   | exact ih0 _ _ _ _ _ _ _ _ _ _
   | exact ih1 _ _ _ _ _ _ _
   | exact ih2 _ _ _ _ _ _ _ _ _
   | exact ih3 _ _ _ _ _ _
   | exact ih4 _ _ _ _ _ _ _ _ _
   | exact ih5 _ _ _ _ _ _ _ _ _ _ _ _
   | exact ih6 _ _ _ _ _ _ _ _ _ _ _ _ _
   | exact ih7 _ _ _ _ _ _ _ _ _ _
   | exact estimate_Count.mono _ _ _ _ _ _ _
   | exact sleuthlaw13_Short.mono _ _ _ _ _ _ _ _
   | exact sleuthlaw13_Traces.mono _ _ _ _ _ _ _ _
   | exact sleuthlaw25_known.mono _
   | exact LeO.none _
   | refine LeO.ite ?_ ?_
   | refine LeO.bind ?_ (fun _ => ?_)
theorem sleuthlaw25_EstimateContains.mono : ∀ a0 a1 a2 a3 a4 a5 a6 a7 a8 k, LeO (sleuthlaw25_EstimateContains.f k a0 a1 a2 a3 a4 a5 a6 a7 a8) (sleuthlaw25_EstimateContains.f (k + 1) a0 a1 a2 a3 a4 a5 a6 a7 a8) := by
 intro a0 a1 a2 a3 a4 a5 a6 a7 a8 k
 obtain ⟨ih0, ih1, ih2, ih3, ih4, ih5, ih6, ih7⟩ := sleuthlaw25_EstimateContains.mono_l k
 unfold sleuthlaw25_EstimateContains.f
 repeat' first
   | (with_reducible exact ih0 _ _ _ _ _ _ _ _ _ _)
   | (with_reducible exact ih1 _ _ _ _ _ _ _)
   | (with_reducible exact ih2 _ _ _ _ _ _ _ _ _)
   | (with_reducible exact ih3 _ _ _ _ _ _)
   | (with_reducible exact ih4 _ _ _ _ _ _ _ _ _)
   | (with_reducible exact ih5 _ _ _ _ _ _ _ _ _ _ _ _)
   | (with_reducible exact ih6 _ _ _ _ _ _ _ _ _ _ _ _ _)
   | (with_reducible exact ih7 _ _ _ _ _ _ _ _ _ _)
   | (with_reducible exact estimate_Count.mono _ _ _ _ _ _ _)
   | (with_reducible exact sleuthlaw13_Short.mono _ _ _ _ _ _ _ _)
   | (with_reducible exact sleuthlaw13_Traces.mono _ _ _ _ _ _ _ _)
   | (with_reducible exact sleuthlaw25_known.mono _)
   | (with_reducible exact LeO.refl _)
   | (with_reducible exact LeO.none _)
   | (with_reducible refine LeO.ite ?_ ?_)
   | (with_reducible refine LeO.bind ?_ (fun _ => ?_))
   | exact ih0 _ _ _ _ _ _ _ _ _ _
   | exact ih1 _ _ _ _ _ _ _
   | exact ih2 _ _ _ _ _ _ _ _ _
   | exact ih3 _ _ _ _ _ _
   | exact ih4 _ _ _ _ _ _ _ _ _
   | exact ih5 _ _ _ _ _ _ _ _ _ _ _ _
   | exact ih6 _ _ _ _ _ _ _ _ _ _ _ _ _
   | exact ih7 _ _ _ _ _ _ _ _ _ _
   | exact estimate_Count.mono _ _ _ _ _ _ _
   | exact sleuthlaw13_Short.mono _ _ _ _ _ _ _ _
   | exact sleuthlaw13_Traces.mono _ _ _ _ _ _ _ _
   | exact sleuthlaw25_known.mono _
   | exact LeO.none _
   | refine LeO.ite ?_ ?_
   | refine LeO.bind ?_ (fun _ => ?_)
def sleuthlaw25_EstimateContains.T9 : Bool × List (List Nat × List Nat) := (true, [([], []), ([0], [0]), ([], []), ([], []), ([2, 3], [2, 3]), ([4], [4]), ([5], [5]), ([1, 6], [1, 6]), ([0, 1, 2, 3, 4, 5, 6, 7], []), ([8, 7, 7, 0, 1, 2, 3, 4, 5, 6, 7], [7, 8])])
def sleuthlaw25_EstimateContains.B9 : List Nat := [0, 1, 0, 0, 12, 28, 60, 127, 255, 511]
theorem sleuthlaw25_EstimateContains.tab9 : rtab .any (opsOf Try.f4 9) = sleuthlaw25_EstimateContains.T9 := by kernel_rfl
theorem sleuthlaw25_EstimateContains.bits9 : waitsOk sleuthlaw25_EstimateContains.T9.2 sleuthlaw25_EstimateContains.B9 = true := by kernel_rfl
def sleuthlaw25_EstimateContains.T14 : Bool × List (List Nat × List Nat) := (true, [([], []), ([0], [0]), ([], []), ([], []), ([], []), ([3, 4], [3, 4]), ([5], [5]), ([6], [6]), ([], []), ([7, 8], [7, 8]), ([9], [9]), ([10], [10]), ([2, 11], [2, 11]), ([12], [12]), ([1, 13], [1, 13]), ([0, 1, 2, 3, 4, 5, 6, 7, 8, 9, 10, 11, 12, 13, 14], []), ([15, 14, 14, 0, 1, 2, 3, 4, 5, 6, 7, 8, 9, 10, 11, 12, 13, 14], [14, 15])])
def sleuthlaw25_EstimateContains.B14 : List Nat := [0, 1, 0, 0, 0, 24, 56, 120, 0, 504, 1016, 2040, 4092, 8188, 16383, 32767, 65535]
theorem sleuthlaw25_EstimateContains.tab14 : rtab .any (opsOf Try.f4 14) = sleuthlaw25_EstimateContains.T14 := by kernel_rfl
theorem sleuthlaw25_EstimateContains.bits14 : waitsOk sleuthlaw25_EstimateContains.T14.2 sleuthlaw25_EstimateContains.B14 = true := by kernel_rfl
set_option maxHeartbeats 8000000 in
set_option maxRecDepth 100000 in
theorem sleuthlaw25_EstimateContains.calls (k : Nat) (A0_0 : Option Addr) (c0_0 : Nat) (l0_0 : List (S104)) (a0_1 : Int) (a0_2 : Int) (a0_3 : Int) (a0_4 : Int) (A0_5 : Option Addr) (c0_5 : Nat) (l0_5 : List (S193)) (a0_6 : Int) (a1 : Int) (a2 : Int) (r : Bool) (w : World) (hr0_0 : Kd.C k104 w A0_0 l0_0.length l0_0) (hc0_0 : l0_0.length ≤ c0_0) (hr0_5 : Kd.C k193 w A0_5 l0_5.length l0_5) (hc0_5 : l0_5.length ≤ c0_5) (h : sleuthlaw25_EstimateContains.f k l0_0 a0_1 a0_2 a0_3 a0_4 l0_5 a0_6 a1 a2 = some r) :
  Calls Try.prog 4 #[.agg #[.slice A0_0 l0_0.length c0_0, .int .i8 a0_1, .int .i8 a0_2, .int .i8 a0_3, .int .i8 a0_4, .slice A0_5 l0_5.length c0_5, .int .u8 a0_6], .int .u8 a1, .int .u8 a2] w fun e w' => e = .returned (.bool r) ∧ Below w.heap.size w w' := by
 have hu27 := Try.underlying27
 have hu50 := Try.underlying50
 have hu53 := Try.underlying53
 have hu60 := Try.underlying60
 have hu62 := Try.underlying62
 have HR0_0 := Aside0.mk hr0_0
 have HC0_0 := Aside0.mk hc0_0
 clear hr0_0 hc0_0
 have HR0_5 := Aside0.mk hr0_5
 have HC0_5 := Aside0.mk hc0_5
 clear hr0_5 hc0_5
 have HB := Aside0.mk (Below.refl w.heap.size w)
 have H : ((sleuthlaw25_known.f k).bind fun t282 => (if t282 = true then ((sleuthlaw13_Short.f k l0_0 a0_1 a0_2 a0_3 a0_4 l0_5 a0_6).bind fun t283 => (sleuthlaw25_EstimateContains.j0 k a1 a2 (!t283) l0_0 a0_1 a0_2 a0_3 a0_4 l0_5 a0_6)) else (sleuthlaw25_EstimateContains.j0 k a1 a2 true l0_0 a0_1 a0_2 a0_3 a0_4 l0_5 a0_6))) = some r := h
 clear h
 have HC4 := Aside0.mk H
 clear H
 go_enter Try.func4, Try.ntmps4
 go_upto_region 1 with (first | ((with_reducible refine gate_dst (N := 3) rfl ?_); refine box_event ?hg (N := 3) ?hd (cs := #[.slice A0_0 l0_0.length c0_0, .int .i8 a0_1, .int .i8 a0_2, .int .i8 a0_3, .int .i8 a0_4, .slice A0_5 l0_5.length c0_5, .int .u8 a0_6]) (t := 27) ?hr ?_; (case hd => rfl); (case hg => rfl); (case hr => first | (go_simp; done) | (go_simp; rfl)); intro gb281 hg w5 hbox hb; have n0_ := Aside0.mk (below_step qgsleuthlaw25estimatecontains_17 hb); have n1_ := Aside0.mk (hbox); have n2_ := Aside0.mk ((by rw [hg]; exact (below_size qgsleuthlaw25estimatecontains_17) : w.heap.size ≤ gb281)); have n3_ := Aside0.mk ((by rw [hg]; exact (below_size qgsleuthlaw25estimatecontains_17) : w.heap.size ≤ gb281)); clear HB; have HB := n0_; have BK281 := n1_; have GW281 := n2_; have GE281 := n3_; clear n0_ n1_ n2_ n3_; clear hb hbox hg))
 (try simp only [Act.put, List.setIfInBounds_toArray, List.set_cons_zero, List.set_cons_succ])
 go_cut [26] (fun v26 wc => ∃ (kq : Nat) (x26_3 : Bool), v26 = .bool x26_3 ∧ Aside0 (sleuthlaw25_EstimateContains.j0 kq a1 a2 x26_3 l0_0 a0_1 a0_2 a0_3 a0_4 l0_5 a0_6 = some r) ∧ Aside0 (kq ≤ k) ∧ Aside0 (wc.heap[gb281]? = some (.cells #[(.slice A0_0 l0_0.length c0_0), .int .i8 a0_1, .int .i8 a0_2, .int .i8 a0_3, .int .i8 a0_4, (.slice A0_5 l0_5.length c0_5), .int .u8 a0_6] 27 (0, 0))) ∧ Aside0 (Below w.heap.size w wc))
 case first =>
  have H := HC4.out
  clear HC4
  replace H := Option.bind_eq_some_iff.mp H
  obtain ⟨t282, A60, H⟩ := H
  replace H : (if t282 = true then ((sleuthlaw13_Short.f k l0_0 a0_1 a0_2 a0_3 a0_4 l0_5 a0_6).bind fun t283 => (sleuthlaw25_EstimateContains.j0 k a1 a2 (!t283) l0_0 a0_1 a0_2 a0_3 a0_4 l0_5 a0_6)) else (sleuthlaw25_EstimateContains.j0 k a1 a2 true l0_0 a0_1 a0_2 a0_3 a0_4 l0_5 a0_6)) = some r := H
  have A6 := Aside0.mk A60
  clear A60
  by_cases c7 : t282 = true
  rotate_left
  ·replace c7 := Bool.eq_false_iff.mpr c7
   subst c7
   have H1 : (sleuthlaw25_EstimateContains.j0 k a1 a2 true l0_0 a0_1 a0_2 a0_3 a0_4 l0_5 a0_6) = some r := by rw [if_neg (show ¬ (false = true) by decide)] at H; exact H
   clear H
   have H := H1
   clear H1
   have H' := Aside0.mk H
   clear H
   go_wp2_with (first | ((with_reducible refine gate_callee (f := 12) rfl ?_); refine goesL_ (some 20) rfl rfl Try.func12 (by kernel_rfl) rfl #[] rfl qgsleuthlaw25estimatecontains_9 ?_; (with_reducible refine (sleuthlaw25_known.calls k  false _ A6.out).mono ?_); rintro e w12 ⟨rfl, hb⟩; refine ⟨_, rfl, ?_⟩; have n0_ := Aside0.mk (blk_below (g := gb281) (o := .cells #[.slice A0_0 l0_0.length c0_0, .int .i8 a0_1, .int .i8 a0_2, .int .i8 a0_3, .int .i8 a0_4, .slice A0_5 l0_5.length c0_5, .int .u8 a0_6] 27 (0, 0)) qgsleuthlaw25estimatecontains_1 hb); have n1_ := Aside0.mk (below_step qgsleuthlaw25estimatecontains_5 hb); clear BK281; clear HB; have BK281 := n0_; have HB := n1_; clear n0_ n1_; (try clear hb); (try clear hb2); (try clear hk); (try clear hi)))
   go_meet
   case rel => exact ⟨_, (true), qgsleuthlaw25estimatecontains_11, H', ⟨by first | omega | exact Nat.le_refl _⟩, ⟨qgsleuthlaw25estimatecontains_1⟩, ⟨qgsleuthlaw25estimatecontains_5⟩⟩
  subst c7
  have H1 : ((sleuthlaw13_Short.f k l0_0 a0_1 a0_2 a0_3 a0_4 l0_5 a0_6).bind fun t283 => (sleuthlaw25_EstimateContains.j0 k a1 a2 (!t283) l0_0 a0_1 a0_2 a0_3 a0_4 l0_5 a0_6)) = some r := by rw [if_pos rfl] at H; exact H
  clear H
  have H := H1
  clear H1
  replace H := Option.bind_eq_some_iff.mp H
  obtain ⟨t283, A80, H⟩ := H
  replace H : (sleuthlaw25_EstimateContains.j0 k a1 a2 (!t283) l0_0 a0_1 a0_2 a0_3 a0_4 l0_5 a0_6) = some r := H
  have A8 := Aside0.mk A80
  clear A80
  have H' := Aside0.mk H
  clear H
  go_wp2_with (first | ((with_reducible refine gate_callee (f := 12) rfl ?_); refine goesL_ (some 20) rfl rfl Try.func12 (by kernel_rfl) rfl #[] rfl qgsleuthlaw25estimatecontains_9 ?_; (with_reducible refine (sleuthlaw25_known.calls k  true _ A6.out).mono ?_); rintro e w9 ⟨rfl, hb⟩; refine ⟨_, rfl, ?_⟩; have n0_ := Aside0.mk (blk_below (g := gb281) (o := .cells #[.slice A0_0 l0_0.length c0_0, .int .i8 a0_1, .int .i8 a0_2, .int .i8 a0_3, .int .i8 a0_4, .slice A0_5 l0_5.length c0_5, .int .u8 a0_6] 27 (0, 0)) qgsleuthlaw25estimatecontains_1 hb); have n1_ := Aside0.mk (below_step qgsleuthlaw25estimatecontains_5 hb); clear BK281; clear HB; have BK281 := n0_; have HB := n1_; clear n0_ n1_; (try clear hb); (try clear hb2); (try clear hk); (try clear hi); have hcz10_0 : w9.cell? ⟨gb281, 0, none⟩ = some (.slice A0_0 l0_0.length c0_0) := (blk_cell BK281.out 0).trans rfl; have hcz10_1 : w9.cell? ⟨gb281, 1, none⟩ = some (.int .i8 a0_1) := (blk_cell BK281.out 1).trans rfl; have hcz10_2 : w9.cell? ⟨gb281, 2, none⟩ = some (.int .i8 a0_2) := (blk_cell BK281.out 2).trans rfl; have hcz10_3 : w9.cell? ⟨gb281, 3, none⟩ = some (.int .i8 a0_3) := (blk_cell BK281.out 3).trans rfl; have hcz10_4 : w9.cell? ⟨gb281, 4, none⟩ = some (.int .i8 a0_4) := (blk_cell BK281.out 4).trans rfl; have hcz10_5 : w9.cell? ⟨gb281, 5, none⟩ = some (.slice A0_5 l0_5.length c0_5) := (blk_cell BK281.out 5).trans rfl; have hcz10_6 : w9.cell? ⟨gb281, 6, none⟩ = some (.int .u8 a0_6) := (blk_cell BK281.out 6).trans rfl; have hfz10_0 := blk_frozen BK281.out 0; have hfz10_1 := blk_frozen BK281.out 1; have hfz10_2 := blk_frozen BK281.out 2; have hfz10_3 := blk_frozen BK281.out 3; have hfz10_4 := blk_frozen BK281.out 4; have hfz10_5 := blk_frozen BK281.out 5; have hfz10_6 := blk_frozen BK281.out 6) | (go_at_call 16; (with_reducible refine (sleuthlaw13_Short.calls k _ _ l0_0 a0_1 a0_2 a0_3 a0_4 _ _ l0_5 a0_6 t283 _ ?side1 ?side2 ?side3 ?side4 A8.out).mono ?_); (case side1 => repeat (first | exact (Kd.C_below HR0_0.out HB.out) | (with_reducible refine Kd.C_alloc ?_ _) | (with_reducible refine Kd.C_drewN ?_ _) | (with_reducible refine Kd.C_drew ?_))); (case side2 => exact HC0_0.out); (case side3 => repeat (first | exact (Kd.C_below HR0_5.out HB.out) | (with_reducible refine Kd.C_alloc ?_ _) | (with_reducible refine Kd.C_drewN ?_ _) | (with_reducible refine Kd.C_drew ?_))); (case side4 => exact HC0_5.out); rintro e w11 ⟨rfl, hb⟩; have n0_ := Aside0.mk (blk_below (g := gb281) (o := .cells #[.slice A0_0 l0_0.length c0_0, .int .i8 a0_1, .int .i8 a0_2, .int .i8 a0_3, .int .i8 a0_4, .slice A0_5 l0_5.length c0_5, .int .u8 a0_6] 27 (0, 0)) qgsleuthlaw25estimatecontains_1 hb); have n1_ := Aside0.mk (below_step qgsleuthlaw25estimatecontains_5 hb); clear BK281; clear HB; have BK281 := n0_; have HB := n1_; clear n0_ n1_; (try clear hb); (try clear hb2); (try clear hk); (try clear hi)))
  go_meet
  case rel => exact ⟨_, (!t283), qgsleuthlaw25estimatecontains_11, H', ⟨by first | omega | exact Nat.le_refl _⟩, ⟨qgsleuthlaw25estimatecontains_1⟩, ⟨qgsleuthlaw25estimatecontains_5⟩⟩
 clear HC4
 try clear c1
 try clear p2
 try clear c4
 try clear c7
 try clear c12
 try clear hcz10_0
 try clear hcz10_1
 try clear hcz10_2
 try clear hcz10_3
 try clear hcz10_4
 try clear hcz10_5
 try clear hcz10_6
 try clear hfz10_0
 try clear hfz10_1
 try clear hfz10_2
 try clear hfz10_3
 try clear hfz10_4
 try clear hfz10_5
 try clear hfz10_6
 obtain ⟨kq, x26_3, rfl, HA, HJ3, BK281, HB⟩ := hcut
 cases kq with
 | zero => exact absurd HA.out (by simp [sleuthlaw25_EstimateContains.j0])
 | succ kj3 =>
  have H := HA.out
  clear HA
  simp only [sleuthlaw25_EstimateContains.j0] at H
  by_cases c13 : x26_3 = true
  ·subst c13
   have H1 : ((sleuthlaw25_known.f kj3).bind fun t284 => (some t284)) = some r := by rw [if_pos rfl] at H; exact H
   clear H
   have H := H1
   clear H1
   replace H := Option.bind_eq_some_iff.mp H
   obtain ⟨t284, A140, H⟩ := H
   replace H : (some t284) = some r := H
   have A14 := Aside0.mk A140
   clear A140
   obtain rfl := Option.some.inj H
   go_wp2_with (first | ((with_reducible refine gate_callee (f := 12) rfl ?_); refine goesL_ (some 27) rfl rfl Try.func12 (by kernel_rfl) rfl #[] rfl qgsleuthlaw25estimatecontains_9 ?_; (with_reducible refine (sleuthlaw25_known.calls kj3  t284 _ A14.out).mono ?_); rintro e w15 ⟨rfl, hb⟩; refine ⟨_, rfl, ?_⟩; have n0_ := Aside0.mk (blk_below (g := gb281) (o := .cells #[.slice A0_0 l0_0.length c0_0, .int .i8 a0_1, .int .i8 a0_2, .int .i8 a0_3, .int .i8 a0_4, .slice A0_5 l0_5.length c0_5, .int .u8 a0_6] 27 (0, 0)) qgsleuthlaw25estimatecontains_1 hb); have n1_ := Aside0.mk (below_step qgsleuthlaw25estimatecontains_5 hb); clear BK281; clear HB; have BK281 := n0_; have HB := n1_; clear n0_ n1_; (try clear hb); (try clear hb2); (try clear hk); (try clear hi)))
   go_ret
   exact ⟨by first | rfl | (simp [errW_none, errW_some] <;> rfl) | (simp [*, errW_none, errW_some] <;> rfl), qgsleuthlaw25estimatecontains_5⟩
  replace c13 := Bool.eq_false_iff.mpr c13
  subst c13
  have H1 : ((sleuthlaw13_Traces.f kj3 l0_0 a0_1 a0_2 a0_3 a0_4 l0_5 a0_6).bind fun t285 => (sleuthlaw25_EstimateContains.l0 kj3 a1 a2 t285 0 ([] : List (S53)) ([] : List (S60)) ([] : List (S62)))) = some r := by rw [if_neg (show ¬ (false = true) by decide)] at H; exact H
  clear H
  have H := H1
  clear H1
  replace H := Option.bind_eq_some_iff.mp H
  obtain ⟨t285, A160, H⟩ := H
  replace H : (sleuthlaw25_EstimateContains.l0 kj3 a1 a2 t285 0 ([] : List (S53)) ([] : List (S60)) ([] : List (S62))) = some r := H
  have A16 := Aside0.mk A160
  clear A160
  have H' := Aside0.mk H
  clear H
  have hcz17_0 : wc.cell? ⟨gb281, 0, none⟩ = some (.slice A0_0 l0_0.length c0_0) := (blk_cell BK281.out 0).trans rfl
  have hcz17_1 : wc.cell? ⟨gb281, 1, none⟩ = some (.int .i8 a0_1) := (blk_cell BK281.out 1).trans rfl
  have hcz17_2 : wc.cell? ⟨gb281, 2, none⟩ = some (.int .i8 a0_2) := (blk_cell BK281.out 2).trans rfl
  have hcz17_3 : wc.cell? ⟨gb281, 3, none⟩ = some (.int .i8 a0_3) := (blk_cell BK281.out 3).trans rfl
  have hcz17_4 : wc.cell? ⟨gb281, 4, none⟩ = some (.int .i8 a0_4) := (blk_cell BK281.out 4).trans rfl
  have hcz17_5 : wc.cell? ⟨gb281, 5, none⟩ = some (.slice A0_5 l0_5.length c0_5) := (blk_cell BK281.out 5).trans rfl
  have hcz17_6 : wc.cell? ⟨gb281, 6, none⟩ = some (.int .u8 a0_6) := (blk_cell BK281.out 6).trans rfl
  have hfz17_0 := blk_frozen BK281.out 0
  have hfz17_1 := blk_frozen BK281.out 1
  have hfz17_2 := blk_frozen BK281.out 2
  have hfz17_3 := blk_frozen BK281.out 3
  have hfz17_4 := blk_frozen BK281.out 4
  have hfz17_5 := blk_frozen BK281.out 5
  have hfz17_6 := blk_frozen BK281.out 6
  go_wp2_with (first | ((with_reducible refine gate_callee (f := 17) rfl ?_); refine goesL_ (some 29) rfl rfl Try.func17 (by kernel_rfl) rfl #[.agg #[.slice A0_0 l0_0.length c0_0, .int .i8 a0_1, .int .i8 a0_2, .int .i8 a0_3, .int .i8 a0_4, .slice A0_5 l0_5.length c0_5, .int .u8 a0_6]] rfl qgsleuthlaw25estimatecontains_9 ?_; (with_reducible refine (sleuthlaw13_Traces.calls kj3 _ _ l0_0 a0_1 a0_2 a0_3 a0_4 _ _ l0_5 a0_6 t285 _ ?side1 ?side2 ?side3 ?side4 A16.out).mono ?_); (case side1 => repeat (first | exact (Kd.C_below HR0_0.out HB.out) | (with_reducible refine Kd.C_alloc ?_ _) | (with_reducible refine Kd.C_drewN ?_ _) | (with_reducible refine Kd.C_drew ?_))); (case side2 => exact HC0_0.out); (case side3 => repeat (first | exact (Kd.C_below HR0_5.out HB.out) | (with_reducible refine Kd.C_alloc ?_ _) | (with_reducible refine Kd.C_drewN ?_ _) | (with_reducible refine Kd.C_drew ?_))); (case side4 => exact HC0_5.out); rintro e w18 ⟨v286, rfl, ho0, hb⟩; refine ⟨_, rfl, ?_⟩; have n0_ := Aside0.mk (Kd.N_lower (Kd.N_mono (ok' := fun k_ => k_ ≠ gb281) ho0 (fun k_ hk_ => (Kd.freshB (g := gb281) (o := .cells #[.slice A0_0 l0_0.length c0_0, .int .i8 a0_1, .int .i8 a0_2, .int .i8 a0_3, .int .i8 a0_4, .slice A0_5 l0_5.length c0_5, .int .u8 a0_6] 27 (0, 0)) qgsleuthlaw25estimatecontains_1 k_ hk_))) (below_size qgsleuthlaw25estimatecontains_5)); have n1_ := Aside0.mk (blk_below (g := gb281) (o := .cells #[.slice A0_0 l0_0.length c0_0, .int .i8 a0_1, .int .i8 a0_2, .int .i8 a0_3, .int .i8 a0_4, .slice A0_5 l0_5.length c0_5, .int .u8 a0_6] 27 (0, 0)) qgsleuthlaw25estimatecontains_1 hb); have n2_ := Aside0.mk (below_step qgsleuthlaw25estimatecontains_5 hb); clear BK281; clear HB; have HO287 := n0_; have BK281 := n1_; have HB := n2_; clear n0_ n1_ n2_; (try clear hb); (try clear hb2); (try clear hk); (try clear hi); (try clear ho0)) | ((with_reducible refine gate_dst (N := 8) rfl ?_); refine box_event ?hg (N := 8) ?hd (cs := #[.slice none 0 0, .slice none 0 0, .slice none 0 0, .slice none 0 0]) (t := 50) ?hr ?_; (case hd => rfl); (case hg => rfl); (case hr => first | (go_simp; done) | (go_simp; rfl)); intro gb288 hg w19 hbox hb; have n0_ := Aside0.mk (Kd.N_below (Kd.N_elderB (by (with_reducible repeat (first | apply Kd.N_alloc | apply Kd.N_drewN | apply Kd.N_drew)); exact HO287.out) gb288 (Nat.le_of_eq hg.symm)) hb); have n1_ := Aside0.mk (blk_below (g := gb281) (o := .cells #[.slice A0_0 l0_0.length c0_0, .int .i8 a0_1, .int .i8 a0_2, .int .i8 a0_3, .int .i8 a0_4, .slice A0_5 l0_5.length c0_5, .int .u8 a0_6] 27 (0, 0)) qgsleuthlaw25estimatecontains_1 hb); have n2_ := Aside0.mk (below_step qgsleuthlaw25estimatecontains_5 hb); have n3_ := Aside0.mk (hbox); have n4_ := Aside0.mk ((by rw [hg]; exact (below_size qgsleuthlaw25estimatecontains_5) : w.heap.size ≤ gb288)); have n5_ := Aside0.mk ((by rw [hg]; exact (below_size qgsleuthlaw25estimatecontains_5) : w.heap.size ≤ gb288)); have n6_ := Aside0.mk ((by rw [hg]; exact Nat.ne_of_lt (blk_lt (g := gb281) (o := .cells #[.slice A0_0 l0_0.length c0_0, .int .i8 a0_1, .int .i8 a0_2, .int .i8 a0_3, .int .i8 a0_4, .slice A0_5 l0_5.length c0_5, .int .u8 a0_6] 27 (0, 0)) qgsleuthlaw25estimatecontains_1) : gb281 ≠ gb288)); have n7_ := Aside0.mk ((by rw [hg]; exact Nat.ne_of_gt (blk_lt (g := gb281) (o := .cells #[.slice A0_0 l0_0.length c0_0, .int .i8 a0_1, .int .i8 a0_2, .int .i8 a0_3, .int .i8 a0_4, .slice A0_5 l0_5.length c0_5, .int .u8 a0_6] 27 (0, 0)) qgsleuthlaw25estimatecontains_1) : gb288 ≠ gb281)); clear HO287; clear BK281; clear HB; have HO287 := n0_; have BK281 := n1_; have HB := n2_; have BK288 := n3_; have GW288 := n4_; have GE288 := n5_; have NB281_288 := n6_; have NB288_281 := n7_; clear n0_ n1_ n2_ n3_ n4_ n5_ n6_ n7_; clear hb hbox hg))
  go_loopg [9] kj3 (fun kq v9 w' => ∃ (x9_2 : Int) (x289000_2 : List (S53)) (x289002_2 : List (S60)) (x289003_2 : List (S62)) (u289000 : Value) (u289002 : Value) (u289003 : Value), v9 = .int .i64 x9_2 ∧ Aside0 (sleuthlaw25_EstimateContains.l0 kq a1 a2 t285 x9_2 x289000_2 x289002_2 x289003_2 = some r) ∧ Aside0 (kq ≤ kj3) ∧ Aside0 (Kd.N k53 53 w' w.heap.size (fun k_ => some k_ ≠ (u289000 : Value).ownBlock ∧ some k_ ≠ (u289002 : Value).ownBlock ∧ some k_ ≠ (u289003 : Value).ownBlock ∧ k_ ≠ gb281 ∧ k_ ≠ gb288) v286 t285) ∧ Aside0 (Kd.N k53 53 w' w.heap.size (fun k_ => some k_ ≠ (v286 : Value).ownBlock ∧ some k_ ≠ (u289002 : Value).ownBlock ∧ some k_ ≠ (u289003 : Value).ownBlock ∧ k_ ≠ gb281 ∧ k_ ≠ gb288) u289000 x289000_2) ∧ Aside0 (Kd.R k60 60 w' w.heap.size (fun _ => True) u289002 x289002_2) ∧ Aside0 (Kd.R k62 62 w' w.heap.size (fun _ => True) u289003 x289003_2) ∧ Aside0 (w'.heap[gb281]? = some (.cells #[(.slice A0_0 l0_0.length c0_0), .int .i8 a0_1, .int .i8 a0_2, .int .i8 a0_3, .int .i8 a0_4, (.slice A0_5 l0_5.length c0_5), .int .u8 a0_6] 27 (0, 0))) ∧ Aside0 (w'.heap[gb288]? = some (.cells #[u289000, (.slice none 0 0), u289002, u289003] 50 (0, 0))) ∧ Aside0 (Below w.heap.size w w'))
  case atStart => exact ⟨(0), (([] : List (S53))), (([] : List (S60))), (([] : List (S62))), (.slice none 0 0), (.slice none 0 0), (.slice none 0 0), qgsleuthlaw25estimatecontains_11, H', ⟨Nat.le_refl _⟩, ⟨by (with_reducible repeat (first | apply Kd.N_alloc | apply Kd.N_drewN | apply Kd.N_drew)); exact Kd.N_mono HO287.out (fun _ hk => ⟨(by simp [Value.ownBlock]), ⟨(by simp [Value.ownBlock]), ⟨(by simp [Value.ownBlock]), ⟨hk.1, hk.2⟩⟩⟩⟩)⟩, ⟨qgsleuthlaw25estimatecontains_16⟩, ⟨qgsleuthlaw25estimatecontains_16⟩, ⟨qgsleuthlaw25estimatecontains_16⟩, ⟨qgsleuthlaw25estimatecontains_1⟩, ⟨qgsleuthlaw25estimatecontains_2⟩, ⟨qgsleuthlaw25estimatecontains_0⟩⟩
  clear H'
  try clear c1
  try clear p2
  try clear c4
  try clear c7
  try clear c12
  try clear c13
  try clear c17
  try clear hcz10_0
  try clear hcz10_1
  try clear hcz10_2
  try clear hcz10_3
  try clear hcz10_4
  try clear hcz10_5
  try clear hcz10_6
  try clear hcz17_0
  try clear hcz17_1
  try clear hcz17_2
  try clear hcz17_3
  try clear hcz17_4
  try clear hcz17_5
  try clear hcz17_6
  try clear hfz10_0
  try clear hfz10_1
  try clear hfz10_2
  try clear hfz10_3
  try clear hfz10_4
  try clear hfz10_5
  try clear hfz10_6
  try clear hfz17_0
  try clear hfz17_1
  try clear hfz17_2
  try clear hfz17_3
  try clear hfz17_4
  try clear hfz17_5
  try clear hfz17_6
  try clear p2
  obtain ⟨x9_2, x289000_2, x289002_2, x289003_2, u289000, u289002, u289003, rfl, HA, HK2, HO_7, HO_289000, HO_289002, HO_289003, BK281, BK288, HB⟩ := hrel
  cases gk with
  | zero => exact absurd HA.out (by simp [sleuthlaw25_EstimateContains.l0])
  | succ k2 =>
   have H := HA.out
   clear HA
   simp only [sleuthlaw25_EstimateContains.l0] at H
   by_cases c20 : x9_2 < (t285.length : Int)
   ·rw [if_pos c20] at H
    have c20b0 : decide (x9_2 < (t285.length : Int)) = true := decide_eq_true c20
    clear c20
    by_cases c21 : 0 ≤ x9_2
    rotate_left
    ·rw [if_neg c21] at H
     exact absurd H (by simp)
    rw [if_pos c21] at H
    have c21b0 := eq_true c21
    have c21b1 : decide (0 ≤ x9_2) = true := decide_eq_true c21
    clear c21
    obtain ⟨ji22, hji22⟩ : ∃ j_ : Int, (shr .u8 a1 x9_2) = j_ := ⟨_, rfl⟩
    replace H : (if (Int.tmod (ji22) 2) = 0 then (if x289000_2.length < 3518437208883 then (sleuthlaw25_EstimateContains.l0 k2 a1 a2 t285 (wrap64 (x9_2 + 1)) (x289000_2 ++ [(⟨(rd_T53 t285 x9_2).f0, (rd_T53 t285 x9_2).f1, (rd_T53 t285 x9_2).f2⟩ : S53)]) x289002_2 x289003_2) else (none)) else ((span_Partition.f ((rd_T53 t285 x9_2).f0)).bind fun t294 => (sleuthlaw25_EstimateContains.l1 k2 a1 a2 t285 x9_2 t294 0 x289000_2 x289002_2 x289003_2))) = some r := by first | (rw [hji22] at H; exact H) | (simp only [hji22] at H ⊢; exact H)
    have hji22_ : (a1 / 2 ^ min x9_2.toNat 8) = ji22 := hji22
    have hji22z : x9_2 ≤ 8 → (a1 / 2 ^ x9_2.toNat) = ji22 := shr_small hji22
    by_cases c23 : (Int.tmod (ji22) 2) = 0
    ·rw [if_pos c23] at H
     have c23b0 : ((Int.tmod (ji22) 2) == 0) = true := beq_iff_eq.mpr c23
     have c23b1 : ((Int.tmod (ji22) 2) != 0) = false := bne_eq_false_iff_eq.mpr c23
     clear c23
     by_cases c24 : x289000_2.length < 3518437208883
     rotate_left
     ·rw [if_neg c24] at H
      exact absurd H (by simp)
     rw [if_pos c24] at H
     have LMc24 := Aside0.mk c24
     clear c24
     obtain ⟨y290, hy290⟩ : ∃ y_ : List (S53), y_ = (x289000_2 ++ [(⟨(rd_T53 t285 x9_2).f0, (rd_T53 t285 x9_2).f1, (rd_T53 t285 x9_2).f2⟩ : S53)]) := ⟨_, rfl⟩
     replace H : (sleuthlaw25_EstimateContains.l0 k2 a1 a2 t285 (wrap64 (x9_2 + 1)) y290 x289002_2 x289003_2) = some r := by first | (rw [hy290]; with_reducible exact H) | (have H2_ := (Option.bind_some _ _).symm.trans H; rw [hy290]; with_reducible exact H2_) | (have H2_ := (Option.bind_some _ _).symm.trans H; with_reducible exact H2_) | with_reducible exact H | (rw [hy290]; exact H) | exact H
     have Ny290 := Aside0.mk hy290
     clear hy290
     have H' := Aside0.mk H
     clear H
     obtain ⟨Ao25, co25, eo25⟩ := Kd.N_slice HO_7.out
     subst eo25
     try go_wp2
     have n0_ := Aside0.mk (Kd.N_drew HO_7.out)
     have n1_ := Aside0.mk (Kd.N_drew HO_289000.out)
     have n2_ := Aside0.mk (Kd.R_drew HO_289002.out)
     have n3_ := Aside0.mk (Kd.R_drew HO_289003.out)
     have n4_ := Aside0.mk (blk_drew BK281.out)
     have n5_ := Aside0.mk (blk_drew BK288.out)
     have n6_ := Aside0.mk (below_drew1 HB.out)
     clear HO_7
     clear HO_289000
     clear HO_289002
     clear HO_289003
     clear BK281
     clear BK288
     clear HB
     have HO_7 := n0_
     have HO_289000 := n1_
     have HO_289002 := n2_
     have HO_289003 := n3_
     have BK281 := n4_
     have BK288 := n5_
     have HB := n6_
     clear n0_ n1_ n2_ n3_ n4_ n5_ n6_
     have p289 : 0 ≤ (x9_2 : Int) := of_decide_eq_true qgsleuthlaw25estimatecontains_7
     have q289 : x9_2 < (t285.length : Int) := of_decide_eq_true qgsleuthlaw25estimatecontains_7
     obtain ⟨ad289, A289_2, c289_2, e289, hx289_0, hx289_1, hx289_2, hl289_2, hi289_2⟩ := at_T53 (Kd.N_reads' HO_7.out).2.2 x9_2 p289 q289
     cases e289
     obtain ⟨ce289, hce289, hMe289, hcc289⟩ := Kd.N_get HO_7.out z53 x9_2 p289 (by first | exact q289 | exact of_decide_eq_true qgsleuthlaw25estimatecontains_7 | (have e_ := (Kd.N_reads' HO_7.out).1; omega))
     obtain ⟨ua289_2, uc289_2, rfl, ul289_2, ge289_2⟩ := k53_openF hMe289
     have hv289_2 := hcc289 2 _ rfl
     rw [add_field _ _ 2 (by omega)] at hv289_2
     replace hv289_2 := Option.some.inj (hv289_2.symm.trans hx289_2)
     injection hv289_2 with hva_ hvn_ hvc_
     rw [hva_] at ge289_2
     rw [hvc_] at ul289_2
     have HL289_2 := Aside0.mk (show Kd.V k58 58 _ w.heap.size _ _ ((rd_T53 t285 x9_2).f2) from Kd.V_mk ul289_2 ge289_2)
     clear hva_ hvn_ hvc_ ge289_2 ul289_2
     clear hcc289 hce289
     have HR289_2 := Aside0.mk hi289_2
     have HC289_2 := Aside0.mk hl289_2
     clear hi289_2 hl289_2
     replace p289 := eq_true p289
     replace q289 := eq_true q289
     refine start_ (n := 10) (S := fun w' => w'.cell? ⟨gb288, 0, none⟩ = some (u289000) ∧ w'.cell? ⟨gb288, 1, none⟩ = some (.slice none 0 0) ∧ w'.cell? ⟨gb288, 2, none⟩ = some (u289002) ∧ w'.cell? ⟨gb288, 3, none⟩ = some (u289003) ∧ w'.cell? (ad289.add ((x9_2).toNat * 3)) = some (.int .i64 ((rd_T53 t285 x9_2).f0)) ∧ w'.cell? ⟨(ad289.add ((x9_2).toNat * 3)).block, (ad289.add ((x9_2).toNat * 3)).off + 1, none⟩ = some (.int .i64 ((rd_T53 t285 x9_2).f1)) ∧ w'.cell? ⟨(ad289.add ((x9_2).toNat * 3)).block, (ad289.add ((x9_2).toNat * 3)).off + 2, none⟩ = some (.slice A289_2 ((rd_T53 t285 x9_2).f2).length c289_2)) (ds := [7, 9]) #[F20322, F20322, F20322, F20322, F20322, F20322, F20322, F20322, F20322, F20322] (by kernel_rfl) rfl rfl ⟨(blk_cell BK288.out 0).trans rfl, (blk_cell BK288.out 1).trans rfl, (blk_cell BK288.out 2).trans rfl, (blk_cell BK288.out 3).trans rfl, hx289_0, hx289_1, hx289_2⟩ (fun hHeld => ?_); refine with_tabW sleuthlaw25_EstimateContains.tab9 sleuthlaw25_EstimateContains.bits9 (fun HT_ HW_ => ?_)
     generalize wr.drew = w26 at HO_7 HO_289000 HO_289002 HO_289003 BK281 BK288 HB HL289_2 HR289_2 hx289_0 hx289_1 hx289_2 hHeld ⊢
     refine pure_ (i := 0) (N := some 41) (v := ?_) (a' := ?_) #[T20322, F20322, F20322, F20322, F20322, F20322, F20322, F20322, F20322, F20322] rfl rfl (any_of HT_.out (by kernel_rfl)) (fun _ _ _ h => h) (Or.inl ⟨by rfl, ?_⟩) ?_ ?_
     rotate_left
     ·intro w'
      go_simp
      with_reducible rfl
     rotate_left
     ·simp only [Act.put, List.setIfInBounds_toArray, List.set_cons_zero, List.set_cons_succ, i64_w, i32_w]
      rfl
     refine pure_ (i := 2) (N := some 43) (v := ?_) (a' := ?_) #[T20322, F20322, T20322, F20322, F20322, F20322, F20322, F20322, F20322, F20322] rfl rfl (any_of HT_.out (by kernel_rfl)) (fun _ _ _ h => h) (Or.inl ⟨by rfl, ?_⟩) ?_ ?_
     rotate_left
     ·intro w'
      go_simp
      with_reducible rfl
     rotate_left
     ·simp only [Act.put, List.setIfInBounds_toArray, List.set_cons_zero, List.set_cons_succ, i64_w, i32_w]
      rfl
     refine pure_ (i := 3) (N := some 44) (v := ?_) (a' := ?_) #[T20322, F20322, T20322, T20322, F20322, F20322, F20322, F20322, F20322, F20322] rfl rfl (any_of HT_.out (by kernel_rfl)) (fun _ _ _ h => h) (Or.inl ⟨by rfl, ?_⟩) ?_ ?_
     rotate_left
     ·intro w'
      go_simp
      with_reducible rfl
     rotate_left
     ·simp only [Act.put, List.setIfInBounds_toArray, List.set_cons_zero, List.set_cons_succ, i64_w, i32_w]
      rfl
     refine pure_ (i := 4) (N := some 45) (v := ?_) (a' := ?_) #[T20322, F20322, T20322, T20322, T20322, F20322, F20322, F20322, F20322, F20322] rfl rfl (any_of HT_.out (by kernel_rfl)) (fun _ _ _ h => h) (Or.inl ⟨by rfl, ?_⟩) ?_ ?_
     rotate_left
     ·intro w'
      go_simp
      with_reducible rfl
     rotate_left
     ·simp only [Act.put, List.setIfInBounds_toArray, List.set_cons_zero, List.set_cons_succ, i64_w, i32_w]
      rfl
     refine take_ (i := 1) (N := some 42) (v := ?_) (a' := ?_) #[T20322, T20322, T20322, T20322, T20322, F20322, F20322, F20322, F20322, F20322] rfl rfl (take_ofW HT_.out HW_.out (by kernel_rfl)) (fun _ _ _ h => h) (Or.inl ⟨by rfl, ?_⟩) hHeld ?_ ?_
     rotate_left
     ·rintro w' ⟨s0, s1, s2, s3, s4, s5, s6⟩
      go_simp
      with_reducible rfl
     rotate_left
     ·simp only [Act.put, List.setIfInBounds_toArray, List.set_cons_zero, List.set_cons_succ, i64_w, i32_w]
      rfl
     refine take_ (i := 5) (N := some 46) (v := ?_) (a' := ?_) #[T20322, T20322, T20322, T20322, T20322, T20322, F20322, F20322, F20322, F20322] rfl rfl (take_ofW HT_.out HW_.out (by kernel_rfl)) (fun _ _ _ h => h) (Or.inl ⟨by rfl, ?_⟩) hHeld ?_ ?_
     rotate_left
     ·rintro w' ⟨s0, s1, s2, s3, s4, s5, s6⟩
      go_simp
      with_reducible rfl
     rotate_left
     ·simp only [Act.put, List.setIfInBounds_toArray, List.set_cons_zero, List.set_cons_succ, i64_w, i32_w]
      rfl
     refine one_ (i := 6) (N := some 47) #[T20322, T20322, T20322, T20322, T20322, T20322, T20322, F20322, F20322, F20322] rfl rfl (one_of HT_.out (by kernel_rfl)) (by decide) (fun K hK => ?_)
     refine value_ (w1 := ?_) (v := ?_) (by rfl) rfl ?_ ?_
     rotate_left 2
     ·go_simp
      constructor
      ·rfl
      ·rfl
     refine hK.out _ _ ⟨(blk_cell (blk_alloc BK288.out _) 0).trans rfl, (blk_cell (blk_alloc BK288.out _) 1).trans rfl, (blk_cell (blk_alloc BK288.out _) 2).trans rfl, (blk_cell (blk_alloc BK288.out _) 3).trans rfl, (World.cell?_alloc_lt _ _ _ (World.block_lt_of_cell? _ _ (hHeld.2.2.2.2.1))).trans (hHeld.2.2.2.2.1), (World.cell?_alloc_lt _ _ _ (World.block_lt_of_cell? _ _ (hHeld.2.2.2.2.2.1))).trans (hHeld.2.2.2.2.2.1), (World.cell?_alloc_lt _ _ _ (World.block_lt_of_cell? _ _ (hHeld.2.2.2.2.2.2))).trans (hHeld.2.2.2.2.2.2)⟩ (fun hHeld => ?_)
     clear hK K
     refine norm_ (a' := ?_) ?_ ?_
     rotate_left
     ·show Act.put _ (some 47) _ = _
      simp only [Act.put, List.setIfInBounds_toArray, List.set_cons_zero, List.set_cons_succ, i64_w, i32_w]
      rfl
     refine last_ (i := 7) (N := some 48) #[T20322, T20322, T20322, T20322, T20322, T20322, T20322, T20322, F20322, F20322] rfl rfl (one_of HT_.out (by kernel_rfl)) (by decide) (fun K hK => ?_)
     refine Kd.N_append_step k53 (w0 := w) w.heap.size (by rfl) (.tmp 42) (.tmp 47) 30 53 (.agg #[(.int .i64 0), (.int .i64 0), (.slice none 0 0)]) 40 rfl Try.underlying30 info53 rfl (by decide) (by omega) u289000 x289000_2 (⟨(rd_T53 t285 x9_2).f0, (rd_T53 t285 x9_2).f1, (rd_T53 t285 x9_2).f2⟩ : S53) [.int .i64 ((rd_T53 t285 x9_2).f0), .int .i64 ((rd_T53 t285 x9_2).f1), .slice A289_2 ((rd_T53 t285 x9_2).f2).length c289_2] (fun k_ => some k_ ≠ (.slice (some ad289) t285.length co25 : Value).ownBlock ∧ some k_ ≠ (u289002 : Value).ownBlock ∧ some k_ ≠ (u289003 : Value).ownBlock ∧ k_ ≠ gb281 ∧ k_ ≠ gb288) (fun k_ => ((fun k_ => some k_ ≠ (.slice (some ad289) t285.length co25 : Value).ownBlock ∧ some k_ ≠ (u289002 : Value).ownBlock ∧ some k_ ≠ (u289003 : Value).ownBlock ∧ k_ ≠ gb281 ∧ k_ ≠ gb288)) k_ ∧ some k_ ≠ (u289000 : Value).ownBlock) rfl rfl ?aP (fun _ hk => hk) ?aF ?aO ?aB ?aS ?aL ?_
     (case aP => exact (k53_mkF _ _ (⟨(rd_T53 t285 x9_2).f0, (rd_T53 t285 x9_2).f1, (rd_T53 t285 x9_2).f2⟩ : S53) (Kd.V_reads' (Kd.V_mono (ok' := (fun k_ => ((fun k_ => some k_ ≠ (.slice (some ad289) t285.length co25 : Value).ownBlock ∧ some k_ ≠ (u289002 : Value).ownBlock ∧ some k_ ≠ (u289003 : Value).ownBlock ∧ k_ ≠ gb281 ∧ k_ ≠ gb288)) k_ ∧ some k_ ≠ (u289000 : Value).ownBlock)) (HL289_2.out) (fun k_ hk => ⟨⟨hk.2, ⟨hk.1.2.1, ⟨hk.1.2.2.1, ⟨hk.1.2.2.2.1, hk.1.2.2.2.2⟩⟩⟩⟩, hk.1.1⟩))).2.1 (Kd.V_F (Kd.V_mono (ok' := (fun k_ => ((fun k_ => some k_ ≠ (.slice (some ad289) t285.length co25 : Value).ownBlock ∧ some k_ ≠ (u289002 : Value).ownBlock ∧ some k_ ≠ (u289003 : Value).ownBlock ∧ k_ ≠ gb281 ∧ k_ ≠ gb288)) k_ ∧ some k_ ≠ (u289000 : Value).ownBlock)) (HL289_2.out) (fun k_ hk => ⟨⟨hk.2, ⟨hk.1.2.1, ⟨hk.1.2.2.1, ⟨hk.1.2.2.2.1, hk.1.2.2.2.2⟩⟩⟩⟩, hk.1.1⟩)))))
     (case aB => exact qgsleuthlaw25estimatecontains_0)
     (case aF => exact (fun k_ hk => ⟨Kd.fresh' (Kd.N_lt qgsleuthlaw25estimatecontains_8) k_ hk, Kd.fresh' (Kd.R_lt qgsleuthlaw25estimatecontains_3) k_ hk, Kd.fresh' (Kd.R_lt qgsleuthlaw25estimatecontains_4) k_ hk, Kd.freshB (g := gb281) (o := .cells #[.slice A0_0 l0_0.length c0_0, .int .i8 a0_1, .int .i8 a0_2, .int .i8 a0_3, .int .i8 a0_4, .slice A0_5 l0_5.length c0_5, .int .u8 a0_6] 27 (0, 0)) qgsleuthlaw25estimatecontains_1 k_ hk, Kd.freshB (g := gb288) (o := .cells #[u289000, .slice none 0 0, u289002, u289003] 50 (0, 0)) qgsleuthlaw25estimatecontains_2 k_ hk⟩))
     (case aO => exact qgsleuthlaw25estimatecontains_6)
     (case aS => exact (below_size qgsleuthlaw25estimatecontains_0))
     (case aL => have := LMc24.out; omega)
     intro v291 w27 ho hb hg hat
     rw [← Ny290.out] at ho
     have n0_ := Aside0.mk (Kd.N_afterv (ok := (fun k_ => some k_ ≠ (u289002 : Value).ownBlock ∧ some k_ ≠ (u289003 : Value).ownBlock ∧ k_ ≠ gb281 ∧ k_ ≠ gb288)) (by (with_reducible repeat (first | apply Kd.N_alloc | apply Kd.N_drewN | apply Kd.N_drew)); exact Kd.N_mono HO_7.out (fun _ hk => ⟨⟨hk.2.1, ⟨hk.2.2.1, ⟨hk.2.2.2.1, hk.2.2.2.2⟩⟩⟩, hk.1⟩)) hg hat)
     have n1_ := Aside0.mk (Kd.R_over' qgsleuthlaw25estimatecontains_3 (Kd.N_typed qgsleuthlaw25estimatecontains_6) (by decide) hg)
     have n2_ := Aside0.mk (Kd.R_over' qgsleuthlaw25estimatecontains_4 (Kd.N_typed qgsleuthlaw25estimatecontains_6) (by decide) hg)
     have n3_ := Aside0.mk (blk_grown (g := gb281) (o := .cells #[.slice A0_0 l0_0.length c0_0, .int .i8 a0_1, .int .i8 a0_2, .int .i8 a0_3, .int .i8 a0_4, .slice A0_5 l0_5.length c0_5, .int .u8 a0_6] 27 (0, 0)) qgsleuthlaw25estimatecontains_1 hg (Kd.N_ne HO_289000.out BK281.out (by decide)))
     have n4_ := Aside0.mk (blk_grown (g := gb288) (o := .cells #[u289000, .slice none 0 0, u289002, u289003] 50 (0, 0)) qgsleuthlaw25estimatecontains_2 hg (Kd.N_ne HO_289000.out BK288.out (by decide)))
     have n5_ := Aside0.mk (Kd.V_afterv (ok := (fun k_ => some k_ ≠ (.slice (some ad289) t285.length co25 : Value).ownBlock ∧ some k_ ≠ (u289002 : Value).ownBlock ∧ some k_ ≠ (u289003 : Value).ownBlock ∧ k_ ≠ gb281 ∧ k_ ≠ gb288)) (by (with_reducible repeat (first | apply Kd.V_alloc | apply Kd.V_drewN | apply Kd.V_drew)); exact Kd.V_mono HL289_2.out (fun _ hk => ⟨⟨hk.2, ⟨hk.1.2.1, ⟨hk.1.2.2.1, ⟨hk.1.2.2.2.1, hk.1.2.2.2.2⟩⟩⟩⟩, hk.1.1⟩)) hg hat)
     have n6_ := Aside0.mk (hb)
     have n7_ := Aside0.mk (ho)
     clear HO_7
     clear HO_289002
     clear HO_289003
     clear BK281
     clear BK288
     clear HL289_2
     clear HB
     clear HO_289000
     have HO_7 := n0_
     have HO_289002 := n1_
     have HO_289003 := n2_
     have BK281 := n3_
     have BK288 := n4_
     have HL289_2 := n5_
     have HB := n6_
     have HO292 := n7_
     clear n0_ n1_ n2_ n3_ n4_ n5_ n6_ n7_
     clear ho hb hg hat
     obtain ⟨Ao28, co28, eo28⟩ := Kd.N_slice HO292.out
     (first | subst eo28 | (injection eo28 with f1_ f2_ f3_; have f4_ := f1_.symm; have f5_ := f3_.symm; clear f1_ f2_ f3_; subst f4_; subst f5_))
     refine hK.out _ _ ?_
     clear hK K
     refine norm_ (a' := ?_) ?_ ?_
     rotate_left
     ·show Act.put _ (some 48) _ = _
      simp only [Act.put, List.setIfInBounds_toArray, List.set_cons_zero, List.set_cons_succ, i64_w, i32_w]
      rfl
     refine pure_ (i := 8) (N := some 49) (v := ?_) (a' := ?_) #[T20322, T20322, T20322, T20322, T20322, T20322, T20322, T20322, T20322, F20322] rfl rfl (any_of HT_.out (by kernel_rfl)) (fun _ _ _ h => h) (Or.inl ⟨by rfl, ?_⟩) ?_ ?_
     rotate_left
     ·intro w'
      go_simp
      with_reducible rfl
     rotate_left
     ·simp only [Act.put, List.setIfInBounds_toArray, List.set_cons_zero, List.set_cons_succ, i64_w, i32_w]
      rfl
     refine last_ (i := 9) (N := none) #[T20322, T20322, T20322, T20322, T20322, T20322, T20322, T20322, T20322, T20322] rfl rfl (one_of HT_.out (by kernel_rfl)) (by decide) (fun K hK => ?_)
     have hs29 : w27.cell? ⟨gb288, 0, none⟩ = some (u289000) := (blk_cell BK288.out 0).trans rfl
     have hfs29 := blk_frozen BK288.out 0
     have hns29_0 := NB281_288.out
     have hms29_0 := NB288_281.out
     refine skip_ (w1 := ?_) (by rfl) rfl ?_ ?_
     rotate_left
     ·go_simp
      rfl
     refine hK.out _ _ ?_
     clear hK K
     refine done_ (done_of HT_.out (by kernel_rfl)) ?_
     try go_wp2
     go_roundg k2
     case measure => have := HJ3.out; have := HK2.out; omega
     case rel => exact ⟨(wrap64 (x9_2 + 1)), (y290), (x289002_2), (x289003_2), (.slice Ao28 y290.length co28), (u289002), (u289003), qgsleuthlaw25estimatecontains_11, H', ⟨by have := HJ3.out; have := HK2.out; omega⟩, ⟨by (with_reducible repeat (first | apply Kd.N_alloc | apply Kd.N_drewN | apply Kd.N_drew)); exact Kd.N_mono (Kd.N_far (p := ⟨gb288, 0, none⟩) (Kd.N_mono HO_7.out (fun k_ hk => (⟨hk, hk.1.2.2.2⟩ : _ ∧ k_ ≠ gb288))) (fun _ hk => hk.2) (.slice Ao28 y290.length co28)) (fun _ hk => ⟨hk.1.2, ⟨hk.1.1.1, ⟨hk.1.1.2.1, ⟨hk.1.1.2.2.1, hk.1.1.2.2.2⟩⟩⟩⟩)⟩, ⟨by (with_reducible repeat (first | apply Kd.N_alloc | apply Kd.N_drewN | apply Kd.N_drew)); exact Kd.N_mono (Kd.N_far (p := ⟨gb288, 0, none⟩) (Kd.N_mono HO292.out (fun k_ hk => (⟨hk, hk.2.2.2.2⟩ : _ ∧ k_ ≠ gb288))) (fun _ hk => hk.2) (.slice Ao28 y290.length co28)) (fun _ hk => ⟨hk.1.1, ⟨hk.1.2.1, ⟨hk.1.2.2.1, ⟨hk.1.2.2.2.1, hk.1.2.2.2.2⟩⟩⟩⟩)⟩, ⟨by (with_reducible repeat (first | apply Kd.R_alloc | apply Kd.R_drewN | apply Kd.R_drew)); exact Kd.R_mono (Kd.R_far (p := ⟨gb288, 0, none⟩) (Kd.R_types HO_289002.out BK288.out (by decide)) (fun _ hk => hk.2) (.slice Ao28 y290.length co28)) (fun _ hk => trivial)⟩, ⟨by (with_reducible repeat (first | apply Kd.R_alloc | apply Kd.R_drewN | apply Kd.R_drew)); exact Kd.R_mono (Kd.R_far (p := ⟨gb288, 0, none⟩) (Kd.R_types HO_289003.out BK288.out (by decide)) (fun _ hk => hk.2) (.slice Ao28 y290.length co28)) (fun _ hk => trivial)⟩, ⟨qgsleuthlaw25estimatecontains_12⟩, ⟨by (with_reducible repeat (first | refine blk_drewN ?_ _ | refine blk_drew ?_ | refine blk_alloc ?_ _)); refine blk_put (cs := #[u289000, .slice none 0 0, u289002, u289003]) ?_ 0 _ rfl; (with_reducible repeat (first | refine blk_drewN ?_ _ | refine blk_drew ?_ | refine blk_alloc ?_ _)); exact BK288.out⟩, ⟨qgsleuthlaw25estimatecontains_0⟩⟩
    rw [if_neg c23] at H
    have c23b0 : ((Int.tmod (ji22) 2) == 0) = false := beq_eq_false_iff_ne.mpr c23
    have c23b1 : ((Int.tmod (ji22) 2) != 0) = true := bne_iff_ne.mpr c23
    replace H := Option.bind_eq_some_iff.mp H
    obtain ⟨t294, A300, H⟩ := H
    replace H : (sleuthlaw25_EstimateContains.l1 k2 a1 a2 t285 x9_2 t294 0 x289000_2 x289002_2 x289003_2) = some r := H
    have A30 := Aside0.mk A300
    clear A300
    have H' := Aside0.mk H
    clear H
    obtain ⟨Ao31, co31, eo31⟩ := Kd.N_slice HO_7.out
    subst eo31
    have p293 : 0 ≤ (x9_2 : Int) := of_decide_eq_true qgsleuthlaw25estimatecontains_7
    have q293 : x9_2 < (t285.length : Int) := of_decide_eq_true qgsleuthlaw25estimatecontains_7
    obtain ⟨ad293, A293_2, c293_2, e293, hx293_0, hx293_1, hx293_2, hl293_2, hi293_2⟩ := at_T53 (Kd.N_reads' HO_7.out).2.2 x9_2 p293 q293
    cases e293
    obtain ⟨ce293, hce293, hMe293, hcc293⟩ := Kd.N_get HO_7.out z53 x9_2 p293 (by first | exact q293 | exact of_decide_eq_true qgsleuthlaw25estimatecontains_7 | (have e_ := (Kd.N_reads' HO_7.out).1; omega))
    obtain ⟨ua293_2, uc293_2, rfl, ul293_2, ge293_2⟩ := k53_openF hMe293
    have hv293_2 := hcc293 2 _ rfl
    rw [add_field _ _ 2 (by omega)] at hv293_2
    replace hv293_2 := Option.some.inj (hv293_2.symm.trans hx293_2)
    injection hv293_2 with hva_ hvn_ hvc_
    rw [hva_] at ge293_2
    rw [hvc_] at ul293_2
    have HL293_2 := Aside0.mk (show Kd.V k58 58 _ w.heap.size _ _ ((rd_T53 t285 x9_2).f2) from Kd.V_mk ul293_2 ge293_2)
    clear hva_ hvn_ hvc_ ge293_2 ul293_2
    clear hcc293 hce293
    have HR293_2 := Aside0.mk hi293_2
    have HC293_2 := Aside0.mk hl293_2
    clear hi293_2 hl293_2
    replace p293 := eq_true p293
    replace q293 := eq_true q293
    go_wp2_with (first | ((with_reducible refine gate_callee (f := 18) rfl ?_); refine goesL_ (some 55) rfl rfl Try.func18 (by kernel_rfl) rfl #[.int .i64 ((rd_T53 t285 x9_2).f0)] rfl qgsleuthlaw25estimatecontains_9 ?_; (with_reducible refine (span_Partition.calls ((rd_T53 t285 x9_2).f0) t294 _ A30.out).mono ?_); rintro e w' ⟨rfl, ⟨nd, rfl⟩⟩; refine ⟨_, rfl, ?_⟩))
    go_loopg [11] k2 (fun kq v11 w' => ∃ (x11_3 : Int) (x289002_3 : List (S60)) (u289002 : Value), v11 = .int .i64 x11_3 ∧ Aside0 (sleuthlaw25_EstimateContains.l1 kq a1 a2 t285 x9_2 t294 x11_3 x289000_2 x289002_3 x289003_2 = some r) ∧ Aside0 (kq ≤ k2) ∧ Aside0 (Kd.N k53 53 w' w.heap.size (fun k_ => some k_ ≠ (u289000 : Value).ownBlock ∧ some k_ ≠ (u289002 : Value).ownBlock ∧ some k_ ≠ (u289003 : Value).ownBlock ∧ k_ ≠ gb281 ∧ k_ ≠ gb288) (.slice (some ad293) t285.length co31) t285) ∧ Aside0 (Kd.N k53 53 w' w.heap.size (fun k_ => some k_ ≠ ((.slice (some ad293) t285.length co31) : Value).ownBlock ∧ some k_ ≠ (u289002 : Value).ownBlock ∧ some k_ ≠ (u289003 : Value).ownBlock ∧ k_ ≠ gb281 ∧ k_ ≠ gb288) u289000 x289000_2) ∧ Aside0 (Kd.R k60 60 w' w.heap.size (fun _ => True) u289002 x289002_3) ∧ Aside0 (Kd.R k62 62 w' w.heap.size (fun _ => True) u289003 x289003_2) ∧ Aside0 (w'.heap[gb281]? = some (.cells #[(.slice A0_0 l0_0.length c0_0), .int .i8 a0_1, .int .i8 a0_2, .int .i8 a0_3, .int .i8 a0_4, (.slice A0_5 l0_5.length c0_5), .int .u8 a0_6] 27 (0, 0))) ∧ Aside0 (w'.heap[gb288]? = some (.cells #[u289000, (.slice none 0 0), u289002, u289003] 50 (0, 0))) ∧ Aside0 (Below w.heap.size w w'))
    case atStart => exact ⟨(0), (x289002_2), (u289002), qgsleuthlaw25estimatecontains_11, H', ⟨Nat.le_refl _⟩, ⟨qgsleuthlaw25estimatecontains_8⟩, ⟨qgsleuthlaw25estimatecontains_6⟩, ⟨qgsleuthlaw25estimatecontains_3⟩, ⟨qgsleuthlaw25estimatecontains_4⟩, ⟨qgsleuthlaw25estimatecontains_1⟩, ⟨qgsleuthlaw25estimatecontains_2⟩, ⟨qgsleuthlaw25estimatecontains_0⟩⟩
    clear H'
    try clear c1
    try clear c2
    try clear p2
    try clear q2
    try clear hx2
    try clear c4
    try clear p6
    try clear c7
    try clear c12
    try clear c13
    try clear c17
    try clear c18
    try clear c20
    try clear c20b0
    try clear c21
    try clear c21b0
    try clear c21b1
    try clear c23
    try clear c23b0
    try clear c23b1
    try clear c24
    try clear c28
    try clear p28
    try clear q28
    try clear hx28
    try clear c29
    try clear p29
    try clear q29
    try clear hx29
    try clear hcz10_0
    try clear hcz10_1
    try clear hcz10_2
    try clear hcz10_3
    try clear hcz10_4
    try clear hcz10_5
    try clear hcz10_6
    try clear hcz17_0
    try clear hcz17_1
    try clear hcz17_2
    try clear hcz17_3
    try clear hcz17_4
    try clear hcz17_5
    try clear hcz17_6
    try clear hfz10_0
    try clear hfz10_1
    try clear hfz10_2
    try clear hfz10_3
    try clear hfz10_4
    try clear hfz10_5
    try clear hfz10_6
    try clear hfz17_0
    try clear hfz17_1
    try clear hfz17_2
    try clear hfz17_3
    try clear hfz17_4
    try clear hfz17_5
    try clear hfz17_6
    try clear hx289_0
    try clear hx289_1
    try clear hx289_2
    try clear hx293_0
    try clear hx293_1
    try clear hx293_2
    try clear p2
    try clear p289
    try clear p293
    try clear q289
    try clear q293
    obtain ⟨x11_3, x289002_3, u289002, rfl, HA, HK3, HO_7, HO_289000, HO_289002, HO_289003, BK281, BK288, HB⟩ := hrel
    cases gk with
    | zero => exact absurd HA.out (by simp [sleuthlaw25_EstimateContains.l1])
    | succ k3 =>
     have H := HA.out
     clear HA
     simp only [sleuthlaw25_EstimateContains.l1] at H
     by_cases c32 : 0 ≤ x9_2
     rotate_left
     ·rw [if_neg c32] at H
      exact absurd H (by simp)
     rw [if_pos c32] at H
     have c32b0 : decide (0 ≤ x9_2) = true := decide_eq_true c32
     clear c32
     by_cases c33 : x9_2 < (t285.length : Int)
     rotate_left
     ·rw [if_neg c33] at H
      exact absurd H (by simp)
     rw [if_pos c33] at H
     have c33b0 : decide (x9_2 < (t285.length : Int)) = true := decide_eq_true c33
     clear c33
     by_cases c34 : x11_3 < (((rd_T53 t285 x9_2).f2).length : Int)
     rotate_left
     ·rw [if_neg c34] at H
      have c34b0 : decide (x11_3 < (((rd_T53 t285 x9_2).f2).length : Int)) = false := decide_eq_false c34
      clear c34
      by_cases c41 : x289003_2.length < 8796093022208
      rotate_left
      ·rw [if_neg c41] at H
       exact absurd H (by simp)
      rw [if_pos c41] at H
      have LMc41 := Aside0.mk c41
      clear c41
      obtain ⟨y301, hy301⟩ : ∃ y_ : List (S62), y_ = (x289003_2 ++ [(⟨t294, wrap64 (Int.tmod a2 3)⟩ : S62)]) := ⟨_, rfl⟩
      replace H : (sleuthlaw25_EstimateContains.l0 k3 a1 a2 t285 (wrap64 (x9_2 + 1)) x289000_2 x289002_3 y301) = some r := by first | (rw [hy301]; with_reducible exact H) | (have H2_ := (Option.bind_some _ _).symm.trans H; rw [hy301]; with_reducible exact H2_) | (have H2_ := (Option.bind_some _ _).symm.trans H; with_reducible exact H2_) | with_reducible exact H | (rw [hy301]; exact H) | exact H
      have Ny301 := Aside0.mk hy301
      clear hy301
      have H' := Aside0.mk H
      clear H
      have p295 : 0 ≤ (x9_2 : Int) := of_decide_eq_true qgsleuthlaw25estimatecontains_7
      have q295 : x9_2 < (t285.length : Int) := of_decide_eq_true qgsleuthlaw25estimatecontains_7
      obtain ⟨ad295, A295_2, c295_2, e295, hx295_0, hx295_1, hx295_2, hl295_2, hi295_2⟩ := at_T53 (Kd.N_reads' HO_7.out).2.2 x9_2 p295 q295
      obtain rfl : ad293 = ad295 := (by injection e295)
      obtain ⟨ce295, hce295, hMe295, hcc295⟩ := Kd.N_get HO_7.out z53 x9_2 p295 (by first | exact q295 | exact of_decide_eq_true qgsleuthlaw25estimatecontains_7 | (have e_ := (Kd.N_reads' HO_7.out).1; omega))
      obtain ⟨ua295_2, uc295_2, rfl, ul295_2, ge295_2⟩ := k53_openF hMe295
      have hv295_2 := hcc295 2 _ rfl
      rw [add_field _ _ 2 (by omega)] at hv295_2
      replace hv295_2 := Option.some.inj (hv295_2.symm.trans hx295_2)
      injection hv295_2 with hva_ hvn_ hvc_
      rw [hva_] at ge295_2
      rw [hvc_] at ul295_2
      have HL295_2 := Aside0.mk (show Kd.V k58 58 _ w.heap.size _ _ ((rd_T53 t285 x9_2).f2) from Kd.V_mk ul295_2 ge295_2)
      clear hva_ hvn_ hvc_ ge295_2 ul295_2
      clear hcc295 hce295
      have HR295_2 := Aside0.mk hi295_2
      have HC295_2 := Aside0.mk hl295_2
      clear hi295_2 hl295_2
      replace p295 := eq_true p295
      replace q295 := eq_true q295
      have hnb42 := NB288_281.out
      have hnc42 := NB281_288.out
      have hcz43_0 : wr.cell? ⟨gb288, 0, none⟩ = some (u289000) := (blk_cell BK288.out 0).trans rfl
      have hcz43_1 : wr.cell? ⟨gb288, 1, none⟩ = some (.slice none 0 0) := (blk_cell BK288.out 1).trans rfl
      have hcz43_2 : wr.cell? ⟨gb288, 2, none⟩ = some (u289002) := (blk_cell BK288.out 2).trans rfl
      have hcz43_3 : wr.cell? ⟨gb288, 3, none⟩ = some (u289003) := (blk_cell BK288.out 3).trans rfl
      have hfz43_0 := blk_frozen BK288.out 0
      have hfz43_1 := blk_frozen BK288.out 1
      have hfz43_2 := blk_frozen BK288.out 2
      have hfz43_3 := blk_frozen BK288.out 3
      go_wp2_with (first | ((with_reducible refine gate_builtin (b := .append) (xs := #[.tmp 83, .tmp 89]) rfl ?_); at_builtin; refine Kd.R_append k62 (w0 := w) w.heap.size rfl (.tmp 83) (.tmp 89) 48 62 (.agg #[(.int .i64 0), (.int .i64 0)]) 16 rfl Try.underlying48 info62 rfl (by decide) (by omega) u289003 x289003_2 (⟨t294, wrap64 (Int.tmod a2 3)⟩ : S62) [.int .i64 t294, .int .i64 (wrap64 (Int.tmod a2 3))] (fun _ => True) (fun _ => False) rfl rfl ?aP (fun _ hk => hk.elim) ?aF ?aO ?aB ?aS ?aL ?_; (case aP => exact k62_mkM _ _ _ (⟨t294, wrap64 (Int.tmod a2 3)⟩ : S62)); (case aB => exact qgsleuthlaw25estimatecontains_0); (case aF => exact (fun _ _ => trivial)); (case aO => exact qgsleuthlaw25estimatecontains_4); (case aS => exact (below_size qgsleuthlaw25estimatecontains_0)); (case aL => have := LMc41.out; omega); intro v302 w44 ho hb hg hat; rw [← Ny301.out] at ho; have n0_ := Aside0.mk (Kd.N_afterv (ok := (fun k_ => some k_ ≠ (u289000 : Value).ownBlock ∧ some k_ ≠ (u289002 : Value).ownBlock ∧ k_ ≠ gb281 ∧ k_ ≠ gb288)) (by (with_reducible repeat (first | apply Kd.N_alloc | apply Kd.N_drewN | apply Kd.N_drew)); exact Kd.N_mono HO_7.out (fun _ hk => ⟨⟨hk.1, ⟨hk.2.1, ⟨hk.2.2.2.1, hk.2.2.2.2⟩⟩⟩, hk.2.2.1⟩)) hg hat); have n1_ := Aside0.mk (Kd.N_afterv (ok := (fun k_ => some k_ ≠ (.slice (some ad293) t285.length co31 : Value).ownBlock ∧ some k_ ≠ (u289002 : Value).ownBlock ∧ k_ ≠ gb281 ∧ k_ ≠ gb288)) (by (with_reducible repeat (first | apply Kd.N_alloc | apply Kd.N_drewN | apply Kd.N_drew)); exact Kd.N_mono HO_289000.out (fun _ hk => ⟨⟨hk.1, ⟨hk.2.1, ⟨hk.2.2.2.1, hk.2.2.2.2⟩⟩⟩, hk.2.2.1⟩)) hg hat); have n2_ := Aside0.mk (Kd.R_over' qgsleuthlaw25estimatecontains_3 (Kd.R_typed qgsleuthlaw25estimatecontains_4) (by decide) hg); have n3_ := Aside0.mk (blk_grown (g := gb281) (o := .cells #[.slice A0_0 l0_0.length c0_0, .int .i8 a0_1, .int .i8 a0_2, .int .i8 a0_3, .int .i8 a0_4, .slice A0_5 l0_5.length c0_5, .int .u8 a0_6] 27 (0, 0)) qgsleuthlaw25estimatecontains_1 hg (Kd.R_ne HO_289003.out BK281.out (by decide))); have n4_ := Aside0.mk (blk_grown (g := gb288) (o := .cells #[u289000, .slice none 0 0, u289002, u289003] 50 (0, 0)) qgsleuthlaw25estimatecontains_2 hg (Kd.R_ne HO_289003.out BK288.out (by decide))); have n5_ := Aside0.mk (Kd.V_afterv (ok := (fun k_ => some k_ ≠ (.slice (some ad293) t285.length co31 : Value).ownBlock ∧ some k_ ≠ (u289000 : Value).ownBlock ∧ some k_ ≠ (u289002 : Value).ownBlock ∧ k_ ≠ gb281 ∧ k_ ≠ gb288)) (by (with_reducible repeat (first | apply Kd.V_alloc | apply Kd.V_drewN | apply Kd.V_drew)); exact Kd.V_mono HL295_2.out (fun _ hk => ⟨⟨hk.2, ⟨hk.1.1, ⟨hk.1.2.1, ⟨hk.1.2.2.2.1, hk.1.2.2.2.2⟩⟩⟩⟩, hk.1.2.2.1⟩)) hg hat); have n6_ := Aside0.mk (hb); have n7_ := Aside0.mk (ho); clear HO_7; clear HO_289000; clear HO_289002; clear BK281; clear BK288; clear HL295_2; clear HB; clear HO_289003; have HO_7 := n0_; have HO_289000 := n1_; have HO_289002 := n2_; have BK281 := n3_; have BK288 := n4_; have HL295_2 := n5_; have HB := n6_; have HO303 := n7_; clear n0_ n1_ n2_ n3_ n4_ n5_ n6_ n7_; clear ho hb hg hat; obtain ⟨Ao45, co45, eo45⟩ := Kd.R_slice HO303.out; subst eo45; have hcz46_0 : w44.cell? ⟨gb288, 0, none⟩ = some (u289000) := (blk_cell BK288.out 0).trans rfl; have hcz46_1 : w44.cell? ⟨gb288, 1, none⟩ = some (.slice none 0 0) := (blk_cell BK288.out 1).trans rfl; have hcz46_2 : w44.cell? ⟨gb288, 2, none⟩ = some (u289002) := (blk_cell BK288.out 2).trans rfl; have hcz46_3 : w44.cell? ⟨gb288, 3, none⟩ = some (u289003) := (blk_cell BK288.out 3).trans rfl; have hfz46_0 := blk_frozen BK288.out 0; have hfz46_1 := blk_frozen BK288.out 1; have hfz46_2 := blk_frozen BK288.out 2; have hfz46_3 := blk_frozen BK288.out 3))
      go_roundg k3
      case measure => have := HJ3.out; have := HK2.out; have := HK3.out; omega
      case rel => exact ⟨(wrap64 (x9_2 + 1)), (x289000_2), (x289002_3), (y301), (u289000), (u289002), (.slice Ao45 y301.length co45), qgsleuthlaw25estimatecontains_11, H', ⟨by have := HJ3.out; have := HK2.out; have := HK3.out; omega⟩, ⟨by (with_reducible repeat (first | apply Kd.N_alloc | apply Kd.N_drewN | apply Kd.N_drew)); exact Kd.N_mono (Kd.N_far (p := ⟨gb288, 3, none⟩) (Kd.N_mono HO_7.out (fun k_ hk => (⟨hk, hk.1.2.2.2⟩ : _ ∧ k_ ≠ gb288))) (fun _ hk => hk.2) (.slice Ao45 y301.length co45)) (fun _ hk => ⟨hk.1.1.1, ⟨hk.1.1.2.1, ⟨hk.1.2, ⟨hk.1.1.2.2.1, hk.1.1.2.2.2⟩⟩⟩⟩)⟩, ⟨by (with_reducible repeat (first | apply Kd.N_alloc | apply Kd.N_drewN | apply Kd.N_drew)); exact Kd.N_mono (Kd.N_far (p := ⟨gb288, 3, none⟩) (Kd.N_mono HO_289000.out (fun k_ hk => (⟨hk, hk.1.2.2.2⟩ : _ ∧ k_ ≠ gb288))) (fun _ hk => hk.2) (.slice Ao45 y301.length co45)) (fun _ hk => ⟨hk.1.1.1, ⟨hk.1.1.2.1, ⟨hk.1.2, ⟨hk.1.1.2.2.1, hk.1.1.2.2.2⟩⟩⟩⟩)⟩, ⟨by (with_reducible repeat (first | apply Kd.R_alloc | apply Kd.R_drewN | apply Kd.R_drew)); exact Kd.R_mono (Kd.R_far (p := ⟨gb288, 3, none⟩) (Kd.R_types HO_289002.out BK288.out (by decide)) (fun _ hk => hk.2) (.slice Ao45 y301.length co45)) (fun _ hk => trivial)⟩, ⟨by (with_reducible repeat (first | apply Kd.R_alloc | apply Kd.R_drewN | apply Kd.R_drew)); exact Kd.R_mono (Kd.R_far (p := ⟨gb288, 3, none⟩) (Kd.R_types HO303.out BK288.out (by decide)) (fun _ hk => hk.2) (.slice Ao45 y301.length co45)) (fun _ hk => trivial)⟩, ⟨qgsleuthlaw25estimatecontains_12⟩, ⟨by (with_reducible repeat (first | refine blk_drewN ?_ _ | refine blk_drew ?_ | refine blk_alloc ?_ _)); refine blk_put (cs := #[u289000, .slice none 0 0, u289002, u289003]) ?_ 3 _ rfl; (with_reducible repeat (first | refine blk_drewN ?_ _ | refine blk_drew ?_ | refine blk_alloc ?_ _)); exact BK288.out⟩, ⟨qgsleuthlaw25estimatecontains_0⟩⟩
     rw [if_pos c34] at H
     have c34b0 : decide (x11_3 < (((rd_T53 t285 x9_2).f2).length : Int)) = true := decide_eq_true c34
     clear c34
     by_cases c35 : 0 ≤ x11_3
     rotate_left
     ·rw [if_neg c35] at H
      exact absurd H (by simp)
     rw [if_pos c35] at H
     have c35b0 : decide (0 ≤ x11_3) = true := decide_eq_true c35
     clear c35
     by_cases c36 : x289002_3.length < 3518437208883
     rotate_left
     ·rw [if_neg c36] at H
      exact absurd H (by simp)
     rw [if_pos c36] at H
     have LMc36 := Aside0.mk c36
     clear c36
     obtain ⟨y298, hy298⟩ : ∃ y_ : List (S60), y_ = (x289002_3 ++ [(⟨t294, (rd_T58 ((rd_T53 t285 x9_2).f2) x11_3).f6, 1, 0⟩ : S60)]) := ⟨_, rfl⟩
     replace H : (sleuthlaw25_EstimateContains.l1 k3 a1 a2 t285 x9_2 t294 (wrap64 (x11_3 + 1)) x289000_2 y298 x289003_2) = some r := by first | (rw [hy298]; with_reducible exact H) | (have H2_ := (Option.bind_some _ _).symm.trans H; rw [hy298]; with_reducible exact H2_) | (have H2_ := (Option.bind_some _ _).symm.trans H; with_reducible exact H2_) | with_reducible exact H | (rw [hy298]; exact H) | exact H
     have Ny298 := Aside0.mk hy298
     clear hy298
     have H' := Aside0.mk H
     clear H
     have p295 : 0 ≤ (x9_2 : Int) := of_decide_eq_true qgsleuthlaw25estimatecontains_7
     have q295 : x9_2 < (t285.length : Int) := of_decide_eq_true qgsleuthlaw25estimatecontains_7
     obtain ⟨ad295, A295_2, c295_2, e295, hx295_0, hx295_1, hx295_2, hl295_2, hi295_2⟩ := at_T53 (Kd.N_reads' HO_7.out).2.2 x9_2 p295 q295
     obtain rfl : ad293 = ad295 := (by injection e295)
     obtain ⟨ce295, hce295, hMe295, hcc295⟩ := Kd.N_get HO_7.out z53 x9_2 p295 (by first | exact q295 | exact of_decide_eq_true qgsleuthlaw25estimatecontains_7 | (have e_ := (Kd.N_reads' HO_7.out).1; omega))
     obtain ⟨ua295_2, uc295_2, rfl, ul295_2, ge295_2⟩ := k53_openF hMe295
     have hv295_2 := hcc295 2 _ rfl
     rw [add_field _ _ 2 (by omega)] at hv295_2
     replace hv295_2 := Option.some.inj (hv295_2.symm.trans hx295_2)
     injection hv295_2 with hva_ hvn_ hvc_
     rw [hva_] at ge295_2
     rw [hvc_] at ul295_2
     have HL295_2 := Aside0.mk (show Kd.V k58 58 _ w.heap.size _ _ ((rd_T53 t285 x9_2).f2) from Kd.V_mk ul295_2 ge295_2)
     clear hva_ hvn_ hvc_ ge295_2 ul295_2
     clear hcc295 hce295
     have HR295_2 := Aside0.mk hi295_2
     have HC295_2 := Aside0.mk hl295_2
     clear hi295_2 hl295_2
     replace p295 := eq_true p295
     replace q295 := eq_true q295
     try go_wp2
     have n0_ := Aside0.mk (Kd.N_drew HO_7.out)
     have n1_ := Aside0.mk (Kd.N_drew HO_289000.out)
     have n2_ := Aside0.mk (Kd.R_drew HO_289002.out)
     have n3_ := Aside0.mk (Kd.R_drew HO_289003.out)
     have n4_ := Aside0.mk (Kd.V_drew HL295_2.out)
     have n5_ := Aside0.mk (blk_drew BK281.out)
     have n6_ := Aside0.mk (blk_drew BK288.out)
     have n7_ := Aside0.mk (Kd.C_drew HR295_2.out)
     have n8_ := Aside0.mk (below_drew1 HB.out)
     clear HO_7
     clear HO_289000
     clear HO_289002
     clear HO_289003
     clear HL295_2
     clear BK281
     clear BK288
     clear HR295_2
     clear HB
     have HO_7 := n0_
     have HO_289000 := n1_
     have HO_289002 := n2_
     have HO_289003 := n3_
     have HL295_2 := n4_
     have BK281 := n5_
     have BK288 := n6_
     have HR295_2 := n7_
     have HB := n8_
     clear n0_ n1_ n2_ n3_ n4_ n5_ n6_ n7_ n8_
     have p296 : 0 ≤ (x9_2 : Int) := of_decide_eq_true qgsleuthlaw25estimatecontains_7
     have q296 : x9_2 < (t285.length : Int) := of_decide_eq_true qgsleuthlaw25estimatecontains_7
     obtain ⟨ad296, A296_2, c296_2, e296, hx296_0, hx296_1, hx296_2, hl296_2, hi296_2⟩ := at_T53 (Kd.N_reads' HO_7.out).2.2 x9_2 p296 q296
     obtain rfl : ad293 = ad296 := (by injection e296)
     obtain ⟨ce296, hce296, hMe296, hcc296⟩ := Kd.N_get HO_7.out z53 x9_2 p296 (by first | exact q296 | exact of_decide_eq_true qgsleuthlaw25estimatecontains_7 | (have e_ := (Kd.N_reads' HO_7.out).1; omega))
     obtain ⟨ua296_2, uc296_2, rfl, ul296_2, ge296_2⟩ := k53_openF hMe296
     have hv296_2 := hcc296 2 _ rfl
     rw [add_field _ _ 2 (by omega)] at hv296_2
     replace hv296_2 := Option.some.inj (hv296_2.symm.trans hx296_2)
     injection hv296_2 with hva_ hvn_ hvc_
     rw [hva_] at ge296_2
     rw [hvc_] at ul296_2
     have HL296_2 := Aside0.mk (show Kd.V k58 58 _ w.heap.size _ _ ((rd_T53 t285 x9_2).f2) from Kd.V_mk ul296_2 ge296_2)
     clear hva_ hvn_ hvc_ ge296_2 ul296_2
     clear hcc296 hce296
     have HR296_2 := Aside0.mk hi296_2
     have HC296_2 := Aside0.mk hl296_2
     clear hi296_2 hl296_2
     replace p296 := eq_true p296
     replace q296 := eq_true q296
     have p297 : 0 ≤ (x11_3 : Int) := of_decide_eq_true qgsleuthlaw25estimatecontains_7
     have q297 : x11_3 < (((rd_T53 t285 x9_2).f2).length : Int) := of_decide_eq_true qgsleuthlaw25estimatecontains_7
     obtain ⟨ad297, A297_12, c297_12, A297_13, c297_13, e297, hx297_0, hx297_1, hx297_2, hx297_3, hx297_4, hx297_5, hx297_6, hx297_7, hx297_8, hx297_9, hx297_10, hx297_11, hx297_12, hx297_13, hl297_12, hi297_12, hl297_13, hi297_13⟩ := at_T58 (by repeat (first | (with_reducible exact HR296_2.out) | (with_reducible refine Kd.C_alloc ?_ _) | (with_reducible refine Kd.C_drewN ?_ _) | (with_reducible refine Kd.C_drew ?_) | exact HR296_2.out)) x11_3 p297 q297
     cases e297
     obtain ⟨ce297, hce297, hMe297, hcc297⟩ := Kd.V_get HL296_2.out z58 x11_3 p297 (by first | exact q297 | exact of_decide_eq_true qgsleuthlaw25estimatecontains_7 | (have e_ := (Kd.V_reads' HL296_2.out).1; omega))
     obtain ⟨ua297_12, uc297_12, ua297_13, uc297_13, rfl, ul297_12, ge297_12, ul297_13, ge297_13⟩ := k58_openF hMe297
     have hv297_12 := hcc297 12 _ rfl
     rw [add_field _ _ 12 (by omega)] at hv297_12
     replace hv297_12 := Option.some.inj (hv297_12.symm.trans hx297_12)
     injection hv297_12 with hva_ hvn_ hvc_
     rw [hva_] at ge297_12
     rw [hvc_] at ul297_12
     have HL297_12 := Aside0.mk (show Kd.V k141 141 _ w.heap.size _ _ ((rd_T58 ((rd_T53 t285 x9_2).f2) x11_3).f12) from Kd.V_mk ul297_12 ge297_12)
     clear hva_ hvn_ hvc_ ge297_12 ul297_12
     have hv297_13 := hcc297 13 _ rfl
     rw [add_field _ _ 13 (by omega)] at hv297_13
     replace hv297_13 := Option.some.inj (hv297_13.symm.trans hx297_13)
     injection hv297_13 with hva_ hvn_ hvc_
     rw [hva_] at ge297_13
     rw [hvc_] at ul297_13
     have HL297_13 := Aside0.mk (show Kd.V k146 146 _ w.heap.size _ _ ((rd_T58 ((rd_T53 t285 x9_2).f2) x11_3).f13) from Kd.V_mk ul297_13 ge297_13)
     clear hva_ hvn_ hvc_ ge297_13 ul297_13
     clear hcc297 hce297
     have HR297_12 := Aside0.mk hi297_12
     have HC297_12 := Aside0.mk hl297_12
     clear hi297_12 hl297_12
     have HR297_13 := Aside0.mk hi297_13
     have HC297_13 := Aside0.mk hl297_13
     clear hi297_13 hl297_13
     replace p297 := eq_true p297
     replace q297 := eq_true q297
     refine start_ (n := 17) (S := fun w' => w'.cell? ⟨gb288, 0, none⟩ = some (u289000) ∧ w'.cell? ⟨gb288, 1, none⟩ = some (.slice none 0 0) ∧ w'.cell? ⟨gb288, 2, none⟩ = some (u289002) ∧ w'.cell? ⟨gb288, 3, none⟩ = some (u289003) ∧ w'.cell? (ad293.add ((x9_2).toNat * 3)) = some (.int .i64 ((rd_T53 t285 x9_2).f0)) ∧ w'.cell? ⟨(ad293.add ((x9_2).toNat * 3)).block, (ad293.add ((x9_2).toNat * 3)).off + 1, none⟩ = some (.int .i64 ((rd_T53 t285 x9_2).f1)) ∧ w'.cell? ⟨(ad293.add ((x9_2).toNat * 3)).block, (ad293.add ((x9_2).toNat * 3)).off + 2, none⟩ = some (.slice (some ad297) ((rd_T53 t285 x9_2).f2).length c296_2) ∧ w'.cell? (ad297.add ((x11_3).toNat * 14)) = some (.int .i64 ((rd_T58 ((rd_T53 t285 x9_2).f2) x11_3).f0)) ∧ w'.cell? ⟨(ad297.add ((x11_3).toNat * 14)).block, (ad297.add ((x11_3).toNat * 14)).off + 1, none⟩ = some (.int .i64 ((rd_T58 ((rd_T53 t285 x9_2).f2) x11_3).f1)) ∧ w'.cell? ⟨(ad297.add ((x11_3).toNat * 14)).block, (ad297.add ((x11_3).toNat * 14)).off + 2, none⟩ = some (.int .i64 ((rd_T58 ((rd_T53 t285 x9_2).f2) x11_3).f2)) ∧ w'.cell? ⟨(ad297.add ((x11_3).toNat * 14)).block, (ad297.add ((x11_3).toNat * 14)).off + 3, none⟩ = some (.int .i64 ((rd_T58 ((rd_T53 t285 x9_2).f2) x11_3).f3)) ∧ w'.cell? ⟨(ad297.add ((x11_3).toNat * 14)).block, (ad297.add ((x11_3).toNat * 14)).off + 4, none⟩ = some (.int .i64 ((rd_T58 ((rd_T53 t285 x9_2).f2) x11_3).f4)) ∧ w'.cell? ⟨(ad297.add ((x11_3).toNat * 14)).block, (ad297.add ((x11_3).toNat * 14)).off + 5, none⟩ = some (.int .i64 ((rd_T58 ((rd_T53 t285 x9_2).f2) x11_3).f5)) ∧ w'.cell? ⟨(ad297.add ((x11_3).toNat * 14)).block, (ad297.add ((x11_3).toNat * 14)).off + 6, none⟩ = some (.string ((rd_T58 ((rd_T53 t285 x9_2).f2) x11_3).f6)) ∧ w'.cell? ⟨(ad297.add ((x11_3).toNat * 14)).block, (ad297.add ((x11_3).toNat * 14)).off + 7, none⟩ = some (.string ((rd_T58 ((rd_T53 t285 x9_2).f2) x11_3).f7)) ∧ w'.cell? ⟨(ad297.add ((x11_3).toNat * 14)).block, (ad297.add ((x11_3).toNat * 14)).off + 8, none⟩ = some (.string ((rd_T58 ((rd_T53 t285 x9_2).f2) x11_3).f8)) ∧ w'.cell? ⟨(ad297.add ((x11_3).toNat * 14)).block, (ad297.add ((x11_3).toNat * 14)).off + 9, none⟩ = some (.int .i64 ((rd_T58 ((rd_T53 t285 x9_2).f2) x11_3).f9)) ∧ w'.cell? ⟨(ad297.add ((x11_3).toNat * 14)).block, (ad297.add ((x11_3).toNat * 14)).off + 10, none⟩ = some (.int .i64 ((rd_T58 ((rd_T53 t285 x9_2).f2) x11_3).f10)) ∧ w'.cell? ⟨(ad297.add ((x11_3).toNat * 14)).block, (ad297.add ((x11_3).toNat * 14)).off + 11, none⟩ = some (.bool ((rd_T58 ((rd_T53 t285 x9_2).f2) x11_3).f11)) ∧ w'.cell? ⟨(ad297.add ((x11_3).toNat * 14)).block, (ad297.add ((x11_3).toNat * 14)).off + 12, none⟩ = some (.slice A297_12 ((rd_T58 ((rd_T53 t285 x9_2).f2) x11_3).f12).length c297_12) ∧ w'.cell? ⟨(ad297.add ((x11_3).toNat * 14)).block, (ad297.add ((x11_3).toNat * 14)).off + 13, none⟩ = some (.slice A297_13 ((rd_T58 ((rd_T53 t285 x9_2).f2) x11_3).f13).length c297_13)) (ds := [14, 16]) #[F20322, F20322, F20322, F20322, F20322, F20322, F20322, F20322, F20322, F20322, F20322, F20322, F20322, F20322, F20322, F20322, F20322] (by kernel_rfl) rfl rfl ⟨(blk_cell BK288.out 0).trans rfl, (blk_cell BK288.out 1).trans rfl, (blk_cell BK288.out 2).trans rfl, (blk_cell BK288.out 3).trans rfl, hx296_0, hx296_1, hx296_2, hx297_0, hx297_1, hx297_2, hx297_3, hx297_4, hx297_5, hx297_6, hx297_7, hx297_8, hx297_9, hx297_10, hx297_11, hx297_12, hx297_13⟩ (fun hHeld => ?_); refine with_tabW sleuthlaw25_EstimateContains.tab14 sleuthlaw25_EstimateContains.bits14 (fun HT_ HW_ => ?_)
     generalize wr.drew = w37 at HO_7 HO_289000 HO_289002 HO_289003 HL295_2 BK281 BK288 HR295_2 HB HL296_2 HL297_12 HL297_13 HR296_2 HR297_12 HR297_13 hx296_0 hx296_1 hx296_2 hx297_0 hx297_1 hx297_10 hx297_11 hx297_12 hx297_13 hx297_2 hx297_3 hx297_4 hx297_5 hx297_6 hx297_7 hx297_8 hx297_9 hHeld ⊢
     refine pure_ (i := 0) (N := some 66) (v := ?_) (a' := ?_) #[T20322, F20322, F20322, F20322, F20322, F20322, F20322, F20322, F20322, F20322, F20322, F20322, F20322, F20322, F20322, F20322, F20322] rfl rfl (any_of HT_.out (by kernel_rfl)) (fun _ _ _ h => h) (Or.inl ⟨by rfl, ?_⟩) ?_ ?_
     rotate_left
     ·intro w'
      go_simp
      with_reducible rfl
     rotate_left
     ·simp only [Act.put, List.setIfInBounds_toArray, List.set_cons_zero, List.set_cons_succ, i64_w, i32_w]
      rfl
     refine pure_ (i := 2) (N := some 68) (v := ?_) (a' := ?_) #[T20322, F20322, T20322, F20322, F20322, F20322, F20322, F20322, F20322, F20322, F20322, F20322, F20322, F20322, F20322, F20322, F20322] rfl rfl (any_of HT_.out (by kernel_rfl)) (fun _ _ _ h => h) (Or.inl ⟨by rfl, ?_⟩) ?_ ?_
     rotate_left
     ·intro w'
      go_simp
      with_reducible rfl
     rotate_left
     ·simp only [Act.put, List.setIfInBounds_toArray, List.set_cons_zero, List.set_cons_succ, i64_w, i32_w]
      rfl
     refine pure_ (i := 3) (N := some 69) (v := ?_) (a' := ?_) #[T20322, F20322, T20322, T20322, F20322, F20322, F20322, F20322, F20322, F20322, F20322, F20322, F20322, F20322, F20322, F20322, F20322] rfl rfl (any_of HT_.out (by kernel_rfl)) (fun _ _ _ h => h) (Or.inl ⟨by rfl, ?_⟩) ?_ ?_
     rotate_left
     ·intro w'
      go_simp
      with_reducible rfl
     rotate_left
     ·simp only [Act.put, List.setIfInBounds_toArray, List.set_cons_zero, List.set_cons_succ, i64_w, i32_w]
      rfl
     refine pure_ (i := 4) (N := some 70) (v := ?_) (a' := ?_) #[T20322, F20322, T20322, T20322, T20322, F20322, F20322, F20322, F20322, F20322, F20322, F20322, F20322, F20322, F20322, F20322, F20322] rfl rfl (any_of HT_.out (by kernel_rfl)) (fun _ _ _ h => h) (Or.inl ⟨by rfl, ?_⟩) ?_ ?_
     rotate_left
     ·intro w'
      go_simp
      with_reducible rfl
     rotate_left
     ·simp only [Act.put, List.setIfInBounds_toArray, List.set_cons_zero, List.set_cons_succ, i64_w, i32_w]
      rfl
     refine pure_ (i := 5) (N := some 71) (v := ?_) (a' := ?_) #[T20322, F20322, T20322, T20322, T20322, T20322, F20322, F20322, F20322, F20322, F20322, F20322, F20322, F20322, F20322, F20322, F20322] rfl rfl (any_of HT_.out (by kernel_rfl)) (fun _ _ _ h => h) (Or.inl ⟨by rfl, ?_⟩) ?_ ?_
     rotate_left
     ·intro w'
      go_simp
      with_reducible rfl
     rotate_left
     ·simp only [Act.put, List.setIfInBounds_toArray, List.set_cons_zero, List.set_cons_succ, i64_w, i32_w]
      rfl
     refine pure_ (i := 6) (N := some 72) (v := ?_) (a' := ?_) #[T20322, F20322, T20322, T20322, T20322, T20322, T20322, F20322, F20322, F20322, F20322, F20322, F20322, F20322, F20322, F20322, F20322] rfl rfl (any_of HT_.out (by kernel_rfl)) (fun _ _ _ h => h) (Or.inl ⟨by rfl, ?_⟩) ?_ ?_
     rotate_left
     ·intro w'
      go_simp
      with_reducible rfl
     rotate_left
     ·simp only [Act.put, List.setIfInBounds_toArray, List.set_cons_zero, List.set_cons_succ, i64_w, i32_w]
      rfl
     refine pure_ (i := 8) (N := some 74) (v := ?_) (a' := ?_) #[T20322, F20322, T20322, T20322, T20322, T20322, T20322, F20322, T20322, F20322, F20322, F20322, F20322, F20322, F20322, F20322, F20322] rfl rfl (any_of HT_.out (by kernel_rfl)) (fun _ _ _ h => h) (Or.inl ⟨by rfl, ?_⟩) ?_ ?_
     rotate_left
     ·intro w'
      go_simp
      with_reducible rfl
     rotate_left
     ·simp only [Act.put, List.setIfInBounds_toArray, List.set_cons_zero, List.set_cons_succ, i64_w, i32_w]
      rfl
     refine take_ (i := 1) (N := some 67) (v := ?_) (a' := ?_) #[T20322, T20322, T20322, T20322, T20322, T20322, T20322, F20322, T20322, F20322, F20322, F20322, F20322, F20322, F20322, F20322, F20322] rfl rfl (take_ofW HT_.out HW_.out (by kernel_rfl)) (fun _ _ _ h => h) (Or.inl ⟨by rfl, ?_⟩) hHeld ?_ ?_
     rotate_left
     ·rintro w' ⟨s0, s1, s2, s3, s4, s5, s6, s7, s8, s9, s10, s11, s12, s13, s14, s15, s16, s17, s18, s19, s20⟩
      go_simp
      with_reducible rfl
     rotate_left
     ·simp only [Act.put, List.setIfInBounds_toArray, List.set_cons_zero, List.set_cons_succ, i64_w, i32_w]
      rfl
     refine take_ (i := 7) (N := some 73) (v := ?_) (a' := ?_) #[T20322, T20322, T20322, T20322, T20322, T20322, T20322, T20322, T20322, F20322, F20322, F20322, F20322, F20322, F20322, F20322, F20322] rfl rfl (take_ofW HT_.out HW_.out (by kernel_rfl)) (fun _ _ _ h => h) (Or.inl ⟨by rfl, ?_⟩) hHeld ?_ ?_
     rotate_left
     ·rintro w' ⟨s0, s1, s2, s3, s4, s5, s6, s7, s8, s9, s10, s11, s12, s13, s14, s15, s16, s17, s18, s19, s20⟩
      go_simp
      with_reducible rfl
     rotate_left
     ·simp only [Act.put, List.setIfInBounds_toArray, List.set_cons_zero, List.set_cons_succ, i64_w, i32_w]
      rfl
     refine pure_ (i := 9) (N := some 75) (v := ?_) (a' := ?_) #[T20322, T20322, T20322, T20322, T20322, T20322, T20322, T20322, T20322, T20322, F20322, F20322, F20322, F20322, F20322, F20322, F20322] rfl rfl (any_of HT_.out (by kernel_rfl)) (fun _ _ _ h => h) (Or.inl ⟨by rfl, ?_⟩) ?_ ?_
     rotate_left
     ·intro w'
      go_simp
      with_reducible rfl
     rotate_left
     ·simp only [Act.put, List.setIfInBounds_toArray, List.set_cons_zero, List.set_cons_succ, i64_w, i32_w]
      rfl
     refine pure_ (i := 10) (N := some 76) (v := ?_) (a' := ?_) #[T20322, T20322, T20322, T20322, T20322, T20322, T20322, T20322, T20322, T20322, T20322, F20322, F20322, F20322, F20322, F20322, F20322] rfl rfl (any_of HT_.out (by kernel_rfl)) (fun _ _ _ h => h) (Or.inl ⟨by rfl, ?_⟩) ?_ ?_
     rotate_left
     ·intro w'
      go_simp
      with_reducible rfl
     rotate_left
     ·simp only [Act.put, List.setIfInBounds_toArray, List.set_cons_zero, List.set_cons_succ, i64_w, i32_w]
      rfl
     refine take_ (i := 11) (N := some 77) (v := ?_) (a' := ?_) #[T20322, T20322, T20322, T20322, T20322, T20322, T20322, T20322, T20322, T20322, T20322, T20322, F20322, F20322, F20322, F20322, F20322] rfl rfl (take_ofW HT_.out HW_.out (by kernel_rfl)) (fun _ _ _ h => h) (Or.inl ⟨by rfl, ?_⟩) hHeld ?_ ?_
     rotate_left
     ·rintro w' ⟨s0, s1, s2, s3, s4, s5, s6, s7, s8, s9, s10, s11, s12, s13, s14, s15, s16, s17, s18, s19, s20⟩
      go_simp
      with_reducible rfl
     rotate_left
     ·simp only [Act.put, List.setIfInBounds_toArray, List.set_cons_zero, List.set_cons_succ, i64_w, i32_w]
      rfl
     refine pure_ (i := 12) (N := some 78) (v := ?_) (a' := ?_) #[T20322, T20322, T20322, T20322, T20322, T20322, T20322, T20322, T20322, T20322, T20322, T20322, T20322, F20322, F20322, F20322, F20322] rfl rfl (any_of HT_.out (by kernel_rfl)) (fun _ _ _ h => h) (Or.inl ⟨by rfl, ?_⟩) ?_ ?_
     rotate_left
     ·intro w'
      go_simp
      with_reducible rfl
     rotate_left
     ·simp only [Act.put, List.setIfInBounds_toArray, List.set_cons_zero, List.set_cons_succ, i64_w, i32_w]
      rfl
     refine one_ (i := 13) (N := some 79) #[T20322, T20322, T20322, T20322, T20322, T20322, T20322, T20322, T20322, T20322, T20322, T20322, T20322, T20322, F20322, F20322, F20322] rfl rfl (one_of HT_.out (by kernel_rfl)) (by decide) (fun K hK => ?_)
     refine value_ (w1 := ?_) (v := ?_) (by rfl) rfl ?_ ?_
     rotate_left 2
     ·go_simp
      constructor
      ·rfl
      ·rfl
     refine hK.out _ _ ⟨(blk_cell (blk_alloc BK288.out _) 0).trans rfl, (blk_cell (blk_alloc BK288.out _) 1).trans rfl, (blk_cell (blk_alloc BK288.out _) 2).trans rfl, (blk_cell (blk_alloc BK288.out _) 3).trans rfl, (World.cell?_alloc_lt _ _ _ (World.block_lt_of_cell? _ _ (hHeld.2.2.2.2.1))).trans (hHeld.2.2.2.2.1), (World.cell?_alloc_lt _ _ _ (World.block_lt_of_cell? _ _ (hHeld.2.2.2.2.2.1))).trans (hHeld.2.2.2.2.2.1), (World.cell?_alloc_lt _ _ _ (World.block_lt_of_cell? _ _ (hHeld.2.2.2.2.2.2.1))).trans (hHeld.2.2.2.2.2.2.1), (World.cell?_alloc_lt _ _ _ (World.block_lt_of_cell? _ _ (hHeld.2.2.2.2.2.2.2.1))).trans (hHeld.2.2.2.2.2.2.2.1), (World.cell?_alloc_lt _ _ _ (World.block_lt_of_cell? _ _ (hHeld.2.2.2.2.2.2.2.2.1))).trans (hHeld.2.2.2.2.2.2.2.2.1), (World.cell?_alloc_lt _ _ _ (World.block_lt_of_cell? _ _ (hHeld.2.2.2.2.2.2.2.2.2.1))).trans (hHeld.2.2.2.2.2.2.2.2.2.1), (World.cell?_alloc_lt _ _ _ (World.block_lt_of_cell? _ _ (hHeld.2.2.2.2.2.2.2.2.2.2.1))).trans (hHeld.2.2.2.2.2.2.2.2.2.2.1), (World.cell?_alloc_lt _ _ _ (World.block_lt_of_cell? _ _ (hHeld.2.2.2.2.2.2.2.2.2.2.2.1))).trans (hHeld.2.2.2.2.2.2.2.2.2.2.2.1), (World.cell?_alloc_lt _ _ _ (World.block_lt_of_cell? _ _ (hHeld.2.2.2.2.2.2.2.2.2.2.2.2.1))).trans (hHeld.2.2.2.2.2.2.2.2.2.2.2.2.1), (World.cell?_alloc_lt _ _ _ (World.block_lt_of_cell? _ _ (hHeld.2.2.2.2.2.2.2.2.2.2.2.2.2.1))).trans (hHeld.2.2.2.2.2.2.2.2.2.2.2.2.2.1), (World.cell?_alloc_lt _ _ _ (World.block_lt_of_cell? _ _ (hHeld.2.2.2.2.2.2.2.2.2.2.2.2.2.2.1))).trans (hHeld.2.2.2.2.2.2.2.2.2.2.2.2.2.2.1), (World.cell?_alloc_lt _ _ _ (World.block_lt_of_cell? _ _ (hHeld.2.2.2.2.2.2.2.2.2.2.2.2.2.2.2.1))).trans (hHeld.2.2.2.2.2.2.2.2.2.2.2.2.2.2.2.1), (World.cell?_alloc_lt _ _ _ (World.block_lt_of_cell? _ _ (hHeld.2.2.2.2.2.2.2.2.2.2.2.2.2.2.2.2.1))).trans (hHeld.2.2.2.2.2.2.2.2.2.2.2.2.2.2.2.2.1), (World.cell?_alloc_lt _ _ _ (World.block_lt_of_cell? _ _ (hHeld.2.2.2.2.2.2.2.2.2.2.2.2.2.2.2.2.2.1))).trans (hHeld.2.2.2.2.2.2.2.2.2.2.2.2.2.2.2.2.2.1), (World.cell?_alloc_lt _ _ _ (World.block_lt_of_cell? _ _ (hHeld.2.2.2.2.2.2.2.2.2.2.2.2.2.2.2.2.2.2.1))).trans (hHeld.2.2.2.2.2.2.2.2.2.2.2.2.2.2.2.2.2.2.1), (World.cell?_alloc_lt _ _ _ (World.block_lt_of_cell? _ _ (hHeld.2.2.2.2.2.2.2.2.2.2.2.2.2.2.2.2.2.2.2.1))).trans (hHeld.2.2.2.2.2.2.2.2.2.2.2.2.2.2.2.2.2.2.2.1), (World.cell?_alloc_lt _ _ _ (World.block_lt_of_cell? _ _ (hHeld.2.2.2.2.2.2.2.2.2.2.2.2.2.2.2.2.2.2.2.2))).trans (hHeld.2.2.2.2.2.2.2.2.2.2.2.2.2.2.2.2.2.2.2.2)⟩ (fun hHeld => ?_)
     clear hK K
     refine norm_ (a' := ?_) ?_ ?_
     rotate_left
     ·show Act.put _ (some 79) _ = _
      simp only [Act.put, List.setIfInBounds_toArray, List.set_cons_zero, List.set_cons_succ, i64_w, i32_w]
      rfl
     refine last_ (i := 14) (N := some 80) #[T20322, T20322, T20322, T20322, T20322, T20322, T20322, T20322, T20322, T20322, T20322, T20322, T20322, T20322, T20322, F20322, F20322] rfl rfl (one_of HT_.out (by kernel_rfl)) (by decide) (fun K hK => ?_)
     refine Kd.R_append_step k60 (w0 := w) w.heap.size (by rfl) (.tmp 67) (.tmp 79) 47 60 (.agg #[(.int .i64 0), (.string ⟨#[]⟩), (.int .i64 0), (.int .i64 0)]) 40 rfl Try.underlying47 info60 rfl (by decide) (by omega) u289002 x289002_3 (⟨t294, (rd_T58 ((rd_T53 t285 x9_2).f2) x11_3).f6, 1, 0⟩ : S60) [.int .i64 t294, .string ((rd_T58 ((rd_T53 t285 x9_2).f2) x11_3).f6), .int .i64 1, .int .i64 0] (fun _ => True) (fun _ => False) rfl rfl ?aP (fun _ hk => hk.elim) ?aF ?aO ?aB ?aS ?aL ?_
     (case aP => exact k60_mkM _ _ _ (⟨t294, (rd_T58 ((rd_T53 t285 x9_2).f2) x11_3).f6, 1, 0⟩ : S60))
     (case aB => exact qgsleuthlaw25estimatecontains_0)
     (case aF => exact (fun _ _ => trivial))
     (case aO => exact qgsleuthlaw25estimatecontains_3)
     (case aS => exact (below_size qgsleuthlaw25estimatecontains_0))
     (case aL => have := LMc36.out; omega)
     intro v299 w38 ho hb hg hat
     rw [← Ny298.out] at ho
     have n0_ := Aside0.mk (Kd.N_afterv (ok := (fun k_ => some k_ ≠ (u289000 : Value).ownBlock ∧ some k_ ≠ (u289003 : Value).ownBlock ∧ k_ ≠ gb281 ∧ k_ ≠ gb288)) (by (with_reducible repeat (first | apply Kd.N_alloc | apply Kd.N_drewN | apply Kd.N_drew)); exact Kd.N_mono HO_7.out (fun _ hk => ⟨⟨hk.1, ⟨hk.2.2.1, ⟨hk.2.2.2.1, hk.2.2.2.2⟩⟩⟩, hk.2.1⟩)) hg hat)
     have n1_ := Aside0.mk (Kd.N_afterv (ok := (fun k_ => some k_ ≠ (.slice (some ad293) t285.length co31 : Value).ownBlock ∧ some k_ ≠ (u289003 : Value).ownBlock ∧ k_ ≠ gb281 ∧ k_ ≠ gb288)) (by (with_reducible repeat (first | apply Kd.N_alloc | apply Kd.N_drewN | apply Kd.N_drew)); exact Kd.N_mono HO_289000.out (fun _ hk => ⟨⟨hk.1, ⟨hk.2.2.1, ⟨hk.2.2.2.1, hk.2.2.2.2⟩⟩⟩, hk.2.1⟩)) hg hat)
     have n2_ := Aside0.mk (Kd.R_over' qgsleuthlaw25estimatecontains_4 (Kd.R_typed qgsleuthlaw25estimatecontains_3) (by decide) hg)
     have n3_ := Aside0.mk (blk_grown (g := gb281) (o := .cells #[.slice A0_0 l0_0.length c0_0, .int .i8 a0_1, .int .i8 a0_2, .int .i8 a0_3, .int .i8 a0_4, .slice A0_5 l0_5.length c0_5, .int .u8 a0_6] 27 (0, 0)) qgsleuthlaw25estimatecontains_1 hg (Kd.R_ne HO_289002.out BK281.out (by decide)))
     have n4_ := Aside0.mk (blk_grown (g := gb288) (o := .cells #[u289000, .slice none 0 0, u289002, u289003] 50 (0, 0)) qgsleuthlaw25estimatecontains_2 hg (Kd.R_ne HO_289002.out BK288.out (by decide)))
     have n5_ := Aside0.mk (Kd.V_afterv (ok := (fun k_ => some k_ ≠ (.slice (some ad293) t285.length co31 : Value).ownBlock ∧ some k_ ≠ (u289000 : Value).ownBlock ∧ some k_ ≠ (u289003 : Value).ownBlock ∧ k_ ≠ gb281 ∧ k_ ≠ gb288)) (by (with_reducible repeat (first | apply Kd.V_alloc | apply Kd.V_drewN | apply Kd.V_drew)); exact Kd.V_mono HL295_2.out (fun _ hk => ⟨⟨hk.2, ⟨hk.1.1, ⟨hk.1.2.2.1, ⟨hk.1.2.2.2.1, hk.1.2.2.2.2⟩⟩⟩⟩, hk.1.2.1⟩)) hg hat)
     have n6_ := Aside0.mk (Kd.V_afterv (ok := (fun k_ => some k_ ≠ (.slice (some ad293) t285.length co31 : Value).ownBlock ∧ some k_ ≠ (u289000 : Value).ownBlock ∧ some k_ ≠ (u289003 : Value).ownBlock ∧ k_ ≠ gb281 ∧ k_ ≠ gb288)) (by (with_reducible repeat (first | apply Kd.V_alloc | apply Kd.V_drewN | apply Kd.V_drew)); exact Kd.V_mono HL296_2.out (fun _ hk => ⟨⟨hk.2, ⟨hk.1.1, ⟨hk.1.2.2.1, ⟨hk.1.2.2.2.1, hk.1.2.2.2.2⟩⟩⟩⟩, hk.1.2.1⟩)) hg hat)
     have n7_ := Aside0.mk (Kd.V_afterv (ok := (fun k_ => some k_ ≠ (.slice (some ad293) t285.length co31 : Value).ownBlock ∧ some k_ ≠ (u289000 : Value).ownBlock ∧ some k_ ≠ (u289003 : Value).ownBlock ∧ k_ ≠ gb281 ∧ k_ ≠ gb288)) (by (with_reducible repeat (first | apply Kd.V_alloc | apply Kd.V_drewN | apply Kd.V_drew)); exact Kd.V_mono HL297_12.out (fun _ hk => ⟨⟨hk.2, ⟨hk.1.1, ⟨hk.1.2.2.1, ⟨hk.1.2.2.2.1, hk.1.2.2.2.2⟩⟩⟩⟩, hk.1.2.1⟩)) hg hat)
     have n8_ := Aside0.mk (Kd.V_afterv (ok := (fun k_ => some k_ ≠ (.slice (some ad293) t285.length co31 : Value).ownBlock ∧ some k_ ≠ (u289000 : Value).ownBlock ∧ some k_ ≠ (u289003 : Value).ownBlock ∧ k_ ≠ gb281 ∧ k_ ≠ gb288)) (by (with_reducible repeat (first | apply Kd.V_alloc | apply Kd.V_drewN | apply Kd.V_drew)); exact Kd.V_mono HL297_13.out (fun _ hk => ⟨⟨hk.2, ⟨hk.1.1, ⟨hk.1.2.2.1, ⟨hk.1.2.2.2.1, hk.1.2.2.2.2⟩⟩⟩⟩, hk.1.2.1⟩)) hg hat)
     have n9_ := Aside0.mk (hb)
     have n10_ := Aside0.mk (ho)
     clear HO_7
     clear HO_289000
     clear HO_289003
     clear BK281
     clear BK288
     clear HL295_2
     clear HL296_2
     clear HL297_12
     clear HL297_13
     clear HB
     clear HO_289002
     have HO_7 := n0_
     have HO_289000 := n1_
     have HO_289003 := n2_
     have BK281 := n3_
     have BK288 := n4_
     have HL295_2 := n5_
     have HL296_2 := n6_
     have HL297_12 := n7_
     have HL297_13 := n8_
     have HB := n9_
     have HO300 := n10_
     clear n0_ n1_ n2_ n3_ n4_ n5_ n6_ n7_ n8_ n9_ n10_
     clear ho hb hg hat
     obtain ⟨Ao39, co39, eo39⟩ := Kd.R_slice HO300.out
     (first | subst eo39 | (injection eo39 with f1_ f2_ f3_; have f4_ := f1_.symm; have f5_ := f3_.symm; clear f1_ f2_ f3_; subst f4_; subst f5_))
     refine hK.out _ _ ?_
     clear hK K
     refine norm_ (a' := ?_) ?_ ?_
     rotate_left
     ·show Act.put _ (some 80) _ = _
      simp only [Act.put, List.setIfInBounds_toArray, List.set_cons_zero, List.set_cons_succ, i64_w, i32_w]
      rfl
     refine pure_ (i := 15) (N := some 81) (v := ?_) (a' := ?_) #[T20322, T20322, T20322, T20322, T20322, T20322, T20322, T20322, T20322, T20322, T20322, T20322, T20322, T20322, T20322, T20322, F20322] rfl rfl (any_of HT_.out (by kernel_rfl)) (fun _ _ _ h => h) (Or.inl ⟨by rfl, ?_⟩) ?_ ?_
     rotate_left
     ·intro w'
      go_simp
      with_reducible rfl
     rotate_left
     ·simp only [Act.put, List.setIfInBounds_toArray, List.set_cons_zero, List.set_cons_succ, i64_w, i32_w]
      rfl
     refine last_ (i := 16) (N := none) #[T20322, T20322, T20322, T20322, T20322, T20322, T20322, T20322, T20322, T20322, T20322, T20322, T20322, T20322, T20322, T20322, T20322] rfl rfl (one_of HT_.out (by kernel_rfl)) (by decide) (fun K hK => ?_)
     have hs40 : w38.cell? ⟨gb288, 2, none⟩ = some (u289002) := (blk_cell BK288.out 2).trans rfl
     have hfs40 := blk_frozen BK288.out 2
     have hns40_0 := NB281_288.out
     have hms40_0 := NB288_281.out
     refine skip_ (w1 := ?_) (by rfl) rfl ?_ ?_
     rotate_left
     ·go_simp
      rfl
     refine hK.out _ _ ?_
     clear hK K
     refine done_ (done_of HT_.out (by kernel_rfl)) ?_
     try go_wp2
     go_roundg k3
     case measure => have := HJ3.out; have := HK2.out; have := HK3.out; omega
     case rel => exact ⟨(wrap64 (x11_3 + 1)), (y298), (.slice Ao39 y298.length co39), qgsleuthlaw25estimatecontains_11, H', ⟨by have := HJ3.out; have := HK2.out; have := HK3.out; omega⟩, ⟨by (with_reducible repeat (first | apply Kd.N_alloc | apply Kd.N_drewN | apply Kd.N_drew)); exact Kd.N_mono (Kd.N_far (p := ⟨gb288, 2, none⟩) (Kd.N_mono HO_7.out (fun k_ hk => (⟨hk, hk.1.2.2.2⟩ : _ ∧ k_ ≠ gb288))) (fun _ hk => hk.2) (.slice Ao39 y298.length co39)) (fun _ hk => ⟨hk.1.1.1, ⟨hk.1.2, ⟨hk.1.1.2.1, ⟨hk.1.1.2.2.1, hk.1.1.2.2.2⟩⟩⟩⟩)⟩, ⟨by (with_reducible repeat (first | apply Kd.N_alloc | apply Kd.N_drewN | apply Kd.N_drew)); exact Kd.N_mono (Kd.N_far (p := ⟨gb288, 2, none⟩) (Kd.N_mono HO_289000.out (fun k_ hk => (⟨hk, hk.1.2.2.2⟩ : _ ∧ k_ ≠ gb288))) (fun _ hk => hk.2) (.slice Ao39 y298.length co39)) (fun _ hk => ⟨hk.1.1.1, ⟨hk.1.2, ⟨hk.1.1.2.1, ⟨hk.1.1.2.2.1, hk.1.1.2.2.2⟩⟩⟩⟩)⟩, ⟨by (with_reducible repeat (first | apply Kd.R_alloc | apply Kd.R_drewN | apply Kd.R_drew)); exact Kd.R_mono (Kd.R_far (p := ⟨gb288, 2, none⟩) (Kd.R_types HO300.out BK288.out (by decide)) (fun _ hk => hk.2) (.slice Ao39 y298.length co39)) (fun _ hk => trivial)⟩, ⟨by (with_reducible repeat (first | apply Kd.R_alloc | apply Kd.R_drewN | apply Kd.R_drew)); exact Kd.R_mono (Kd.R_far (p := ⟨gb288, 2, none⟩) (Kd.R_types HO_289003.out BK288.out (by decide)) (fun _ hk => hk.2) (.slice Ao39 y298.length co39)) (fun _ hk => trivial)⟩, ⟨qgsleuthlaw25estimatecontains_12⟩, ⟨by (with_reducible repeat (first | refine blk_drewN ?_ _ | refine blk_drew ?_ | refine blk_alloc ?_ _)); refine blk_put (cs := #[u289000, .slice none 0 0, u289002, u289003]) ?_ 2 _ rfl; (with_reducible repeat (first | refine blk_drewN ?_ _ | refine blk_drew ?_ | refine blk_alloc ?_ _)); exact BK288.out⟩, ⟨qgsleuthlaw25estimatecontains_0⟩⟩
   rw [if_neg c20] at H
   have c20b0 : decide (x9_2 < (t285.length : Int)) = false := decide_eq_false c20
   clear c20
   have H' := Aside0.mk H
   clear H
   obtain ⟨Ao47, co47, eo47⟩ := Kd.N_slice HO_7.out
   subst eo47
   go_wp2
   go_loopg [12] k2 (fun kq v12 w' => ∃ (x12_3 : Int), v12 = .int .i64 x12_3 ∧ Aside0 (sleuthlaw25_EstimateContains.l2 kq a2 t285 x12_3 x289000_2 x289002_2 x289003_2 = some r) ∧ Aside0 (kq ≤ k2) ∧ Aside0 (Kd.N k53 53 w' w.heap.size (fun k_ => some k_ ≠ (u289000 : Value).ownBlock ∧ some k_ ≠ (u289002 : Value).ownBlock ∧ some k_ ≠ (u289003 : Value).ownBlock ∧ k_ ≠ gb281 ∧ k_ ≠ gb288) (.slice Ao47 t285.length co47) t285) ∧ Aside0 (Kd.N k53 53 w' w.heap.size (fun k_ => some k_ ≠ ((.slice Ao47 t285.length co47) : Value).ownBlock ∧ some k_ ≠ (u289002 : Value).ownBlock ∧ some k_ ≠ (u289003 : Value).ownBlock ∧ k_ ≠ gb281 ∧ k_ ≠ gb288) u289000 x289000_2) ∧ Aside0 (Kd.R k60 60 w' w.heap.size (fun _ => True) u289002 x289002_2) ∧ Aside0 (Kd.R k62 62 w' w.heap.size (fun _ => True) u289003 x289003_2) ∧ Aside0 (w'.heap[gb281]? = some (.cells #[(.slice A0_0 l0_0.length c0_0), .int .i8 a0_1, .int .i8 a0_2, .int .i8 a0_3, .int .i8 a0_4, (.slice A0_5 l0_5.length c0_5), .int .u8 a0_6] 27 (0, 0))) ∧ Aside0 (w'.heap[gb288]? = some (.cells #[u289000, (.slice none 0 0), u289002, u289003] 50 (0, 0))) ∧ Aside0 (Below w.heap.size w w'))
   case atStart => exact ⟨(0), qgsleuthlaw25estimatecontains_11, H', ⟨Nat.le_refl _⟩, ⟨qgsleuthlaw25estimatecontains_8⟩, ⟨qgsleuthlaw25estimatecontains_6⟩, ⟨qgsleuthlaw25estimatecontains_3⟩, ⟨qgsleuthlaw25estimatecontains_4⟩, ⟨qgsleuthlaw25estimatecontains_1⟩, ⟨qgsleuthlaw25estimatecontains_2⟩, ⟨qgsleuthlaw25estimatecontains_0⟩⟩
   clear H'
   try clear c1
   try clear c2
   try clear p2
   try clear q2
   try clear hx2
   try clear c3
   try clear c4
   try clear p6
   try clear c7
   try clear c12
   try clear c13
   try clear c17
   try clear c18
   try clear c20
   try clear c20b0
   try clear c21
   try clear c21b0
   try clear c21b1
   try clear c23
   try clear c23b0
   try clear c23b1
   try clear c24
   try clear c28
   try clear p28
   try clear q28
   try clear hx28
   try clear c29
   try clear p29
   try clear q29
   try clear hx29
   try clear c32
   try clear c32b0
   try clear c33
   try clear c33b0
   try clear c34
   try clear c34b0
   try clear c35
   try clear c35b0
   try clear c36
   try clear c41
   try clear c42
   try clear hcz10_0
   try clear hcz10_1
   try clear hcz10_2
   try clear hcz10_3
   try clear hcz10_4
   try clear hcz10_5
   try clear hcz10_6
   try clear hcz17_0
   try clear hcz17_1
   try clear hcz17_2
   try clear hcz17_3
   try clear hcz17_4
   try clear hcz17_5
   try clear hcz17_6
   try clear hcz43_0
   try clear hcz43_1
   try clear hcz43_2
   try clear hcz43_3
   try clear hcz46_0
   try clear hcz46_1
   try clear hcz46_2
   try clear hcz46_3
   try clear hfz10_0
   try clear hfz10_1
   try clear hfz10_2
   try clear hfz10_3
   try clear hfz10_4
   try clear hfz10_5
   try clear hfz10_6
   try clear hfz17_0
   try clear hfz17_1
   try clear hfz17_2
   try clear hfz17_3
   try clear hfz17_4
   try clear hfz17_5
   try clear hfz17_6
   try clear hfz43_0
   try clear hfz43_1
   try clear hfz43_2
   try clear hfz43_3
   try clear hfz46_0
   try clear hfz46_1
   try clear hfz46_2
   try clear hfz46_3
   try clear hx289_0
   try clear hx289_1
   try clear hx289_2
   try clear hx293_0
   try clear hx293_1
   try clear hx293_2
   try clear hx295_0
   try clear hx295_1
   try clear hx295_2
   try clear hx296_0
   try clear hx296_1
   try clear hx296_2
   try clear hx297_0
   try clear hx297_1
   try clear hx297_10
   try clear hx297_11
   try clear hx297_12
   try clear hx297_13
   try clear hx297_2
   try clear hx297_3
   try clear hx297_4
   try clear hx297_5
   try clear hx297_6
   try clear hx297_7
   try clear hx297_8
   try clear hx297_9
   try clear p2
   try clear p28
   try clear p289
   try clear p29
   try clear p293
   try clear p295
   try clear p296
   try clear p297
   try clear p6
   try clear q2
   try clear q28
   try clear q289
   try clear q29
   try clear q293
   try clear q295
   try clear q296
   try clear q297
   obtain ⟨x12_3, rfl, HA, HK3, HO_7, HO_289000, HO_289002, HO_289003, BK281, BK288, HB⟩ := hrel
   cases gk with
   | zero => exact absurd HA.out (by simp [sleuthlaw25_EstimateContains.l2])
   | succ k3 =>
    have H := HA.out
    clear HA
    simp only [sleuthlaw25_EstimateContains.l2] at H
    by_cases c48 : x12_3 < 4
    rotate_left
    ·rw [if_neg c48] at H
     have c48b0 : decide (x12_3 < 4) = false := decide_eq_false c48
     clear c48
     obtain rfl := Option.some.inj H
     go_wp2
     go_ret
     exact ⟨by first | rfl | (simp [errW_none, errW_some] <;> rfl) | (simp [*, errW_none, errW_some] <;> rfl), qgsleuthlaw25estimatecontains_0⟩
    rw [if_pos c48] at H
    have c48b0 : decide (x12_3 < 4) = true := decide_eq_true c48
    clear c48
    obtain ⟨y304, hy304⟩ : ∃ y_ : List ByteArray, y_ = (([(⟨#[97, 112, 105]⟩ : ByteArray), (⟨#[100, 98]⟩ : ByteArray), (⟨#[119, 101, 98]⟩ : ByteArray), (⟨#[99, 97, 99, 104, 101]⟩ : ByteArray)] : List ByteArray)) := ⟨_, rfl⟩
    replace H : (sleuthlaw25_EstimateContains.l3 k3 a2 t285 x12_3 y304 (y304.length : Int) 0 x289000_2 x289002_2 x289003_2) = some r := by first | (rw [hy304]; with_reducible exact H) | (have H2_ := (Option.bind_some _ _).symm.trans H; rw [hy304]; with_reducible exact H2_) | (have H2_ := (Option.bind_some _ _).symm.trans H; with_reducible exact H2_) | with_reducible exact H | (rw [hy304]; exact H) | exact H
    have Ny304 := Aside0.mk hy304
    clear hy304
    have H' := Aside0.mk H
    clear H
    go_wp2_with (first | ((with_reducible refine gate_dst (N := 96) rfl ?_); refine Kd.R_lit Kd.string _ 9 ?hg (N := 96) ?hd (xs := ([(⟨#[97, 112, 105]⟩ : ByteArray), (⟨#[100, 98]⟩ : ByteArray), (⟨#[119, 101, 98]⟩ : ByteArray), (⟨#[99, 97, 99, 104, 101]⟩ : ByteArray)] : List ByteArray)) (inner := [.string (⟨#[97, 112, 105]⟩ : ByteArray), .string (⟨#[100, 98]⟩ : ByteArray), .string (⟨#[119, 101, 98]⟩ : ByteArray), .string (⟨#[99, 97, 99, 104, 101]⟩ : ByteArray)]) (ok := fun _ => True) (okp := fun _ => True) ?hr ?hp (fun _ hk => hk) trivial (Below.refl _ _) (Nat.le_refl _) (by simp) ?_; (case hd => rfl); (case hg => rfl); (case hr => first | (go_simp; done) | (go_simp; rfl)); (case hp => exact (Reps.one (show Kd.M Kd.string _ _ _ (⟨#[97, 112, 105]⟩ : ByteArray) [.string (⟨#[97, 112, 105]⟩ : ByteArray)] from rfl) (Reps.one (show Kd.M Kd.string _ _ _ (⟨#[100, 98]⟩ : ByteArray) [.string (⟨#[100, 98]⟩ : ByteArray)] from rfl) (Reps.one (show Kd.M Kd.string _ _ _ (⟨#[119, 101, 98]⟩ : ByteArray) [.string (⟨#[119, 101, 98]⟩ : ByteArray)] from rfl) (Reps.one (show Kd.M Kd.string _ _ _ (⟨#[99, 97, 99, 104, 101]⟩ : ByteArray) [.string (⟨#[99, 97, 99, 104, 101]⟩ : ByteArray)] from rfl) (Reps.none _ _)))))); intro v305 w49 ho50 hb hg_ hnew_; clear hg_ hnew_; (first | rw [← Ny304.out] at ho50 | (simp only [Int.reduceToNat] at ho50; rw [← Ny304.out] at ho50)); have n0_ := Aside0.mk (Kd.N_elder' qgsleuthlaw25estimatecontains_8 (Kd.R_base ho50) hb); have n1_ := Aside0.mk (Kd.N_elder' qgsleuthlaw25estimatecontains_6 (Kd.R_base ho50) hb); have n2_ := Aside0.mk (Kd.R_below qgsleuthlaw25estimatecontains_3 hb); have n3_ := Aside0.mk (Kd.R_below qgsleuthlaw25estimatecontains_4 hb); have n4_ := Aside0.mk (Kd.R_lower ho50 (below_size qgsleuthlaw25estimatecontains_0)); have n5_ := Aside0.mk (blk_below (g := gb281) (o := .cells #[.slice A0_0 l0_0.length c0_0, .int .i8 a0_1, .int .i8 a0_2, .int .i8 a0_3, .int .i8 a0_4, .slice A0_5 l0_5.length c0_5, .int .u8 a0_6] 27 (0, 0)) qgsleuthlaw25estimatecontains_1 hb); have n6_ := Aside0.mk (blk_below (g := gb288) (o := .cells #[u289000, .slice none 0 0, u289002, u289003] 50 (0, 0)) qgsleuthlaw25estimatecontains_2 hb); have n7_ := Aside0.mk (below_step qgsleuthlaw25estimatecontains_0 hb); clear HO_7; clear HO_289000; clear HO_289002; clear HO_289003; clear BK281; clear BK288; clear HB; have HO_7 := n0_; have HO_289000 := n1_; have HO_289002 := n2_; have HO_289003 := n3_; have HO306 := n4_; have BK281 := n5_; have BK288 := n6_; have HB := n7_; clear n0_ n1_ n2_ n3_ n4_ n5_ n6_ n7_; clear hb ho50; obtain ⟨Ao51, co51, eo51⟩ := Kd.R_slice HO306.out; subst eo51))
    go_loopg [98] k3 (fun kq v98 w' => ∃ (x98_4 : Int), v98 = .int .i64 x98_4 ∧ Aside0 (sleuthlaw25_EstimateContains.l3 kq a2 t285 x12_3 y304 (y304.length : Int) x98_4 x289000_2 x289002_2 x289003_2 = some r) ∧ Aside0 (kq ≤ k3) ∧ Aside0 (Kd.N k53 53 w' w.heap.size (fun k_ => some k_ ≠ ((.slice Ao51 y304.length co51) : Value).ownBlock ∧ some k_ ≠ (u289000 : Value).ownBlock ∧ some k_ ≠ (u289002 : Value).ownBlock ∧ some k_ ≠ (u289003 : Value).ownBlock ∧ k_ ≠ gb281 ∧ k_ ≠ gb288) (.slice Ao47 t285.length co47) t285) ∧ Aside0 (Kd.R Kd.string 9 w' w.heap.size (fun _ => True) (.slice Ao51 y304.length co51) y304) ∧ Aside0 (Kd.N k53 53 w' w.heap.size (fun k_ => some k_ ≠ ((.slice Ao47 t285.length co47) : Value).ownBlock ∧ some k_ ≠ ((.slice Ao51 y304.length co51) : Value).ownBlock ∧ some k_ ≠ (u289002 : Value).ownBlock ∧ some k_ ≠ (u289003 : Value).ownBlock ∧ k_ ≠ gb281 ∧ k_ ≠ gb288) u289000 x289000_2) ∧ Aside0 (Kd.R k60 60 w' w.heap.size (fun _ => True) u289002 x289002_2) ∧ Aside0 (Kd.R k62 62 w' w.heap.size (fun _ => True) u289003 x289003_2) ∧ Aside0 (w'.heap[gb281]? = some (.cells #[(.slice A0_0 l0_0.length c0_0), .int .i8 a0_1, .int .i8 a0_2, .int .i8 a0_3, .int .i8 a0_4, (.slice A0_5 l0_5.length c0_5), .int .u8 a0_6] 27 (0, 0))) ∧ Aside0 (w'.heap[gb288]? = some (.cells #[u289000, (.slice none 0 0), u289002, u289003] 50 (0, 0))) ∧ Aside0 (Below w.heap.size w w'))
    case atStart => exact ⟨(0), qgsleuthlaw25estimatecontains_11, H', ⟨Nat.le_refl _⟩, ⟨by (with_reducible repeat (first | apply Kd.N_alloc | apply Kd.N_drewN | apply Kd.N_drew)); exact Kd.N_mono HO_7.out (fun _ hk => ⟨hk.2, ⟨hk.1.1, ⟨hk.1.2.1, ⟨hk.1.2.2.1, ⟨hk.1.2.2.2.1, hk.1.2.2.2.2⟩⟩⟩⟩⟩)⟩, ⟨by (with_reducible repeat (first | apply Kd.R_alloc | apply Kd.R_drewN | apply Kd.R_drew)); exact HO306.out⟩, ⟨by (with_reducible repeat (first | apply Kd.N_alloc | apply Kd.N_drewN | apply Kd.N_drew)); exact Kd.N_mono HO_289000.out (fun _ hk => ⟨hk.1.1, ⟨hk.2, ⟨hk.1.2.1, ⟨hk.1.2.2.1, ⟨hk.1.2.2.2.1, hk.1.2.2.2.2⟩⟩⟩⟩⟩)⟩, ⟨qgsleuthlaw25estimatecontains_3⟩, ⟨qgsleuthlaw25estimatecontains_4⟩, ⟨qgsleuthlaw25estimatecontains_1⟩, ⟨qgsleuthlaw25estimatecontains_2⟩, ⟨qgsleuthlaw25estimatecontains_0⟩⟩
    clear H'
    try clear c1
    try clear c2
    try clear p2
    try clear q2
    try clear hx2
    try clear c3
    try clear c4
    try clear p6
    try clear c7
    try clear c12
    try clear c13
    try clear c17
    try clear c18
    try clear c20
    try clear c20b0
    try clear c21
    try clear c21b0
    try clear c21b1
    try clear c23
    try clear c23b0
    try clear c23b1
    try clear c24
    try clear c28
    try clear p28
    try clear q28
    try clear hx28
    try clear c29
    try clear p29
    try clear q29
    try clear hx29
    try clear c32
    try clear c32b0
    try clear c33
    try clear c33b0
    try clear c34
    try clear c34b0
    try clear c35
    try clear c35b0
    try clear c36
    try clear c41
    try clear c42
    try clear c48
    try clear c48b0
    try clear hcz10_0
    try clear hcz10_1
    try clear hcz10_2
    try clear hcz10_3
    try clear hcz10_4
    try clear hcz10_5
    try clear hcz10_6
    try clear hcz17_0
    try clear hcz17_1
    try clear hcz17_2
    try clear hcz17_3
    try clear hcz17_4
    try clear hcz17_5
    try clear hcz17_6
    try clear hcz43_0
    try clear hcz43_1
    try clear hcz43_2
    try clear hcz43_3
    try clear hcz46_0
    try clear hcz46_1
    try clear hcz46_2
    try clear hcz46_3
    try clear hfz10_0
    try clear hfz10_1
    try clear hfz10_2
    try clear hfz10_3
    try clear hfz10_4
    try clear hfz10_5
    try clear hfz10_6
    try clear hfz17_0
    try clear hfz17_1
    try clear hfz17_2
    try clear hfz17_3
    try clear hfz17_4
    try clear hfz17_5
    try clear hfz17_6
    try clear hfz43_0
    try clear hfz43_1
    try clear hfz43_2
    try clear hfz43_3
    try clear hfz46_0
    try clear hfz46_1
    try clear hfz46_2
    try clear hfz46_3
    try clear hx289_0
    try clear hx289_1
    try clear hx289_2
    try clear hx293_0
    try clear hx293_1
    try clear hx293_2
    try clear hx295_0
    try clear hx295_1
    try clear hx295_2
    try clear hx296_0
    try clear hx296_1
    try clear hx296_2
    try clear hx297_0
    try clear hx297_1
    try clear hx297_10
    try clear hx297_11
    try clear hx297_12
    try clear hx297_13
    try clear hx297_2
    try clear hx297_3
    try clear hx297_4
    try clear hx297_5
    try clear hx297_6
    try clear hx297_7
    try clear hx297_8
    try clear hx297_9
    try clear p2
    try clear p28
    try clear p289
    try clear p29
    try clear p293
    try clear p295
    try clear p296
    try clear p297
    try clear p6
    try clear q2
    try clear q28
    try clear q289
    try clear q29
    try clear q293
    try clear q295
    try clear q296
    try clear q297
    obtain ⟨x98_4, rfl, HA, HK4, HO_7, HO_96, HO_289000, HO_289002, HO_289003, BK281, BK288, HB⟩ := hrel
    cases gk with
    | zero => exact absurd HA.out (by simp [sleuthlaw25_EstimateContains.l3])
    | succ k4 =>
     have H := HA.out
     clear HA
     simp only [sleuthlaw25_EstimateContains.l3] at H
     by_cases c52 : x98_4 < (y304.length : Int)
     rotate_left
     ·rw [if_neg c52] at H
      have c52b0 : decide (x98_4 < (y304.length : Int)) = false := decide_eq_false c52
      clear c52
      have H' := Aside0.mk H
      clear H
      go_wp2
      go_roundg k4
      case measure => have := HJ3.out; have := HK2.out; have := HK3.out; have := HK4.out; omega
      case rel => exact ⟨(wrap64 (x12_3 + 1)), qgsleuthlaw25estimatecontains_11, H', ⟨by have := HJ3.out; have := HK2.out; have := HK3.out; have := HK4.out; omega⟩, ⟨by (with_reducible repeat (first | apply Kd.N_alloc | apply Kd.N_drewN | apply Kd.N_drew)); exact Kd.N_mono HO_7.out (fun _ hk => ⟨hk.2.1, ⟨hk.2.2.1, ⟨hk.2.2.2.1, ⟨hk.2.2.2.2.1, hk.2.2.2.2.2⟩⟩⟩⟩)⟩, ⟨by (with_reducible repeat (first | apply Kd.N_alloc | apply Kd.N_drewN | apply Kd.N_drew)); exact Kd.N_mono HO_289000.out (fun _ hk => ⟨hk.1, ⟨hk.2.2.1, ⟨hk.2.2.2.1, ⟨hk.2.2.2.2.1, hk.2.2.2.2.2⟩⟩⟩⟩)⟩, ⟨qgsleuthlaw25estimatecontains_3⟩, ⟨qgsleuthlaw25estimatecontains_4⟩, ⟨qgsleuthlaw25estimatecontains_1⟩, ⟨qgsleuthlaw25estimatecontains_2⟩, ⟨qgsleuthlaw25estimatecontains_0⟩⟩
     rw [if_pos c52] at H
     have c52b0 : decide (x98_4 < (y304.length : Int)) = true := decide_eq_true c52
     clear c52
     by_cases c53 : 0 ≤ x98_4
     rotate_left
     ·rw [if_neg c53] at H
      exact absurd H (by simp)
     rw [if_pos c53] at H
     have c53b0 : decide (0 ≤ x98_4) = true := decide_eq_true c53
     clear c53
     by_cases c54 : x98_4 < (y304.length : Int)
     rotate_left
     ·rw [if_neg c54] at H
      exact absurd H (by simp)
     rw [if_pos c54] at H
     have c54b0 : decide (x98_4 < (y304.length : Int)) = true := decide_eq_true c54
     clear c54
     have H' := Aside0.mk H
     clear H
     have p307 : 0 ≤ (x98_4 : Int) := of_decide_eq_true qgsleuthlaw25estimatecontains_7
     have q307 : x98_4 < (y304.length : Int) := of_decide_eq_true qgsleuthlaw25estimatecontains_7
     obtain ⟨ad307, e307, hx307_0⟩ := Kd.at_string (Kd.R_reads' HO_96.out).2.2 x98_4 p307 q307
     cases e307
     replace p307 := eq_true p307
     replace q307 := eq_true q307
     go_wp2
     go_loopg [15, 16] k4 (fun kq v15 v16 w' => ∃ (x15_5 : Int) (x16_5 : Int), v15 = .int .i64 x15_5 ∧ v16 = .int .i64 x16_5 ∧ Aside0 (sleuthlaw25_EstimateContains.l4 kq a2 t285 x12_3 (rdOf ByteArray.empty y304 x98_4) x15_5 x16_5 y304 (y304.length : Int) x98_4 x289000_2 x289002_2 x289003_2 = some r) ∧ Aside0 (kq ≤ k4) ∧ Aside0 (Kd.N k53 53 w' w.heap.size (fun k_ => some k_ ≠ ((.slice (some ad307) y304.length co51) : Value).ownBlock ∧ some k_ ≠ (u289000 : Value).ownBlock ∧ some k_ ≠ (u289002 : Value).ownBlock ∧ some k_ ≠ (u289003 : Value).ownBlock ∧ k_ ≠ gb281 ∧ k_ ≠ gb288) (.slice Ao47 t285.length co47) t285) ∧ Aside0 (Kd.R Kd.string 9 w' w.heap.size (fun _ => True) (.slice (some ad307) y304.length co51) y304) ∧ Aside0 (Kd.N k53 53 w' w.heap.size (fun k_ => some k_ ≠ ((.slice Ao47 t285.length co47) : Value).ownBlock ∧ some k_ ≠ ((.slice (some ad307) y304.length co51) : Value).ownBlock ∧ some k_ ≠ (u289002 : Value).ownBlock ∧ some k_ ≠ (u289003 : Value).ownBlock ∧ k_ ≠ gb281 ∧ k_ ≠ gb288) u289000 x289000_2) ∧ Aside0 (Kd.R k60 60 w' w.heap.size (fun _ => True) u289002 x289002_2) ∧ Aside0 (Kd.R k62 62 w' w.heap.size (fun _ => True) u289003 x289003_2) ∧ Aside0 (w'.heap[gb281]? = some (.cells #[(.slice A0_0 l0_0.length c0_0), .int .i8 a0_1, .int .i8 a0_2, .int .i8 a0_3, .int .i8 a0_4, (.slice A0_5 l0_5.length c0_5), .int .u8 a0_6] 27 (0, 0))) ∧ Aside0 (w'.heap[gb288]? = some (.cells #[u289000, (.slice none 0 0), u289002, u289003] 50 (0, 0))) ∧ Aside0 (Below w.heap.size w w'))
     case atStart => exact ⟨(0), (0), qgsleuthlaw25estimatecontains_11, qgsleuthlaw25estimatecontains_11, H', ⟨Nat.le_refl _⟩, ⟨qgsleuthlaw25estimatecontains_8⟩, ⟨qgsleuthlaw25estimatecontains_10⟩, ⟨qgsleuthlaw25estimatecontains_6⟩, ⟨qgsleuthlaw25estimatecontains_3⟩, ⟨qgsleuthlaw25estimatecontains_4⟩, ⟨qgsleuthlaw25estimatecontains_1⟩, ⟨qgsleuthlaw25estimatecontains_2⟩, ⟨qgsleuthlaw25estimatecontains_0⟩⟩
     clear H'
     try clear c1
     try clear c2
     try clear p2
     try clear q2
     try clear hx2
     try clear c3
     try clear p3
     try clear q3
     try clear hx3
     try clear c4
     try clear c5
     try clear p6
     try clear c7
     try clear c12
     try clear c13
     try clear c17
     try clear c18
     try clear c20
     try clear c20b0
     try clear c21
     try clear c21b0
     try clear c21b1
     try clear c23
     try clear c23b0
     try clear c23b1
     try clear c24
     try clear c28
     try clear p28
     try clear q28
     try clear hx28
     try clear c29
     try clear p29
     try clear q29
     try clear hx29
     try clear p30
     try clear q30
     try clear hx30
     try clear c32
     try clear c32b0
     try clear c33
     try clear c33b0
     try clear c34
     try clear c34b0
     try clear c35
     try clear c35b0
     try clear c36
     try clear c41
     try clear c42
     try clear c48
     try clear c48b0
     try clear c52
     try clear c52b0
     try clear c53
     try clear c53b0
     try clear c54
     try clear c54b0
     try clear hcz10_0
     try clear hcz10_1
     try clear hcz10_2
     try clear hcz10_3
     try clear hcz10_4
     try clear hcz10_5
     try clear hcz10_6
     try clear hcz17_0
     try clear hcz17_1
     try clear hcz17_2
     try clear hcz17_3
     try clear hcz17_4
     try clear hcz17_5
     try clear hcz17_6
     try clear hcz43_0
     try clear hcz43_1
     try clear hcz43_2
     try clear hcz43_3
     try clear hcz46_0
     try clear hcz46_1
     try clear hcz46_2
     try clear hcz46_3
     try clear hfz10_0
     try clear hfz10_1
     try clear hfz10_2
     try clear hfz10_3
     try clear hfz10_4
     try clear hfz10_5
     try clear hfz10_6
     try clear hfz17_0
     try clear hfz17_1
     try clear hfz17_2
     try clear hfz17_3
     try clear hfz17_4
     try clear hfz17_5
     try clear hfz17_6
     try clear hfz43_0
     try clear hfz43_1
     try clear hfz43_2
     try clear hfz43_3
     try clear hfz46_0
     try clear hfz46_1
     try clear hfz46_2
     try clear hfz46_3
     try clear hx289_0
     try clear hx289_1
     try clear hx289_2
     try clear hx293_0
     try clear hx293_1
     try clear hx293_2
     try clear hx295_0
     try clear hx295_1
     try clear hx295_2
     try clear hx296_0
     try clear hx296_1
     try clear hx296_2
     try clear hx297_0
     try clear hx297_1
     try clear hx297_10
     try clear hx297_11
     try clear hx297_12
     try clear hx297_13
     try clear hx297_2
     try clear hx297_3
     try clear hx297_4
     try clear hx297_5
     try clear hx297_6
     try clear hx297_7
     try clear hx297_8
     try clear hx297_9
     try clear hx307_0
     try clear p2
     try clear p28
     try clear p289
     try clear p29
     try clear p293
     try clear p295
     try clear p296
     try clear p297
     try clear p307
     try clear p6
     try clear q2
     try clear q28
     try clear q289
     try clear q29
     try clear q293
     try clear q295
     try clear q296
     try clear q297
     try clear q307
     obtain ⟨x15_5, x16_5, rfl, rfl, HA, HK5, HO_7, HO_96, HO_289000, HO_289002, HO_289003, BK281, BK288, HB⟩ := hrel
     cases gk with
     | zero => exact absurd HA.out (by simp [sleuthlaw25_EstimateContains.l4])
     | succ k5 =>
      have H := HA.out
      clear HA
      simp only [sleuthlaw25_EstimateContains.l4] at H
      by_cases c55 : x16_5 < (t285.length : Int)
      rotate_left
      ·rw [if_neg c55] at H
       have c55b0 : decide (x16_5 < (t285.length : Int)) = false := decide_eq_false c55
       clear c55
       replace H := Option.bind_eq_some_iff.mp H
       obtain ⟨⟨t313, t314⟩, A630, H⟩ := H
       replace H : (if x15_5 < t313 then (sleuthlaw25_EstimateContains.j7 k5 a2 t285 x12_3 y304 (y304.length : Int) x98_4 true x289000_2 x289002_2 x289003_2) else (if x15_5 > t314 then (sleuthlaw25_EstimateContains.j7 k5 a2 t285 x12_3 y304 (y304.length : Int) x98_4 true x289000_2 x289002_2 x289003_2) else (if (Int.tmod a2 3) = 0 then (sleuthlaw25_EstimateContains.j7 k5 a2 t285 x12_3 y304 (y304.length : Int) x98_4 (t313 != t314) x289000_2 x289002_2 x289003_2) else (sleuthlaw25_EstimateContains.j7 k5 a2 t285 x12_3 y304 (y304.length : Int) x98_4 false x289000_2 x289002_2 x289003_2)))) = some r := H
       have A63 := Aside0.mk A630
       clear A630
       have HC64 := Aside0.mk H
       clear H
       have hnb65 := NB288_281.out
       have hnc65 := NB281_288.out
       have hcz66_0 : wr.cell? ⟨gb288, 0, none⟩ = some (u289000) := (blk_cell BK288.out 0).trans rfl
       have hcz66_1 : wr.cell? ⟨gb288, 1, none⟩ = some (.slice none 0 0) := (blk_cell BK288.out 1).trans rfl
       have hcz66_2 : wr.cell? ⟨gb288, 2, none⟩ = some (u289002) := (blk_cell BK288.out 2).trans rfl
       have hcz66_3 : wr.cell? ⟨gb288, 3, none⟩ = some (u289003) := (blk_cell BK288.out 3).trans rfl
       have hfz66_0 := blk_frozen BK288.out 0
       have hfz66_1 := blk_frozen BK288.out 1
       have hfz66_2 := blk_frozen BK288.out 2
       have hfz66_3 := blk_frozen BK288.out 3
       obtain ⟨Ao67, co67, eo67⟩ := Kd.N_slice HO_289000.out
       subst eo67
       obtain ⟨Ao68, co68, eo68⟩ := Kd.R_slice HO_289002.out
       subst eo68
       obtain ⟨Ao69, co69, eo69⟩ := Kd.R_slice HO_289003.out
       subst eo69
       go_upto_region 32 with (first | ((with_reducible refine gate_callee (f := 19) rfl ?_); refine goesL_ (some 145) rfl rfl Try.func19 (by kernel_rfl) rfl #[.agg #[.slice Ao67 x289000_2.length co67, .slice none 0 0, .slice Ao68 x289002_2.length co68, .slice Ao69 x289003_2.length co69], .int .i64 x12_3, .string (rdOf ByteArray.empty y304 x98_4)] rfl qgsleuthlaw25estimatecontains_9 ?_; (refine (estimate_Count.calls k5 _ _ x289000_2 _ _ ([] : List (S195)) _ _ x289002_2 _ _ x289003_2 x12_3 (rdOf ByteArray.empty y304 x98_4) t313 t314 _ ?side1 ?side2 ?side3 ?side4 ?side5 ?side6 ?side7 ?side8 A63.out).mono ?_); (case side1 => repeat (first | exact (Kd.N_reads' HO_289000.out).2.2 | (with_reducible refine Kd.C_alloc ?_ _) | (with_reducible refine Kd.C_drewN ?_ _) | (with_reducible refine Kd.C_drew ?_))); (case side2 => exact (Kd.N_reads' HO_289000.out).2.1); (case side3 => exact Kd.C_nil _ _); (case side4 => exact Nat.le_refl _); (case side5 => repeat (first | exact (Kd.R_reads' HO_289002.out).2.2 | (with_reducible refine Kd.C_alloc ?_ _) | (with_reducible refine Kd.C_drewN ?_ _) | (with_reducible refine Kd.C_drew ?_))); (case side6 => exact (Kd.R_reads' HO_289002.out).2.1); (case side7 => repeat (first | exact (Kd.R_reads' HO_289003.out).2.2 | (with_reducible refine Kd.C_alloc ?_ _) | (with_reducible refine Kd.C_drewN ?_ _) | (with_reducible refine Kd.C_drew ?_))); (case side8 => exact (Kd.R_reads' HO_289003.out).2.1); rintro e w70 ⟨rfl, hb⟩; refine ⟨_, rfl, ?_⟩; have n0_ := Aside0.mk (Kd.N_below qgsleuthlaw25estimatecontains_8 hb); have n1_ := Aside0.mk (Kd.R_below qgsleuthlaw25estimatecontains_10 hb); have n2_ := Aside0.mk (Kd.N_below qgsleuthlaw25estimatecontains_6 hb); have n3_ := Aside0.mk (Kd.R_below qgsleuthlaw25estimatecontains_3 hb); have n4_ := Aside0.mk (Kd.R_below qgsleuthlaw25estimatecontains_4 hb); have n5_ := Aside0.mk (blk_below (g := gb281) (o := .cells #[.slice A0_0 l0_0.length c0_0, .int .i8 a0_1, .int .i8 a0_2, .int .i8 a0_3, .int .i8 a0_4, .slice A0_5 l0_5.length c0_5, .int .u8 a0_6] 27 (0, 0)) qgsleuthlaw25estimatecontains_1 hb); have n6_ := Aside0.mk (blk_below (g := gb288) (o := .cells #[.slice Ao67 x289000_2.length co67, .slice none 0 0, .slice Ao68 x289002_2.length co68, .slice Ao69 x289003_2.length co69] 50 (0, 0)) qgsleuthlaw25estimatecontains_2 hb); have n7_ := Aside0.mk (below_step qgsleuthlaw25estimatecontains_0 hb); clear HO_7; clear HO_96; clear HO_289000; clear HO_289002; clear HO_289003; clear BK281; clear BK288; clear HB; have HO_7 := n0_; have HO_96 := n1_; have HO_289000 := n2_; have HO_289002 := n3_; have HO_289003 := n4_; have BK281 := n5_; have BK288 := n6_; have HB := n7_; clear n0_ n1_ n2_ n3_ n4_ n5_ n6_ n7_; (try clear hb); (try clear hb2); (try clear hk); (try clear hi)))
       (try simp only [Act.put, List.setIfInBounds_toArray, List.set_cons_zero, List.set_cons_succ])
       go_cut [165] (fun v165 wc => ∃ (kq : Nat) (x165_63 : Bool), v165 = .bool x165_63 ∧ Aside0 (sleuthlaw25_EstimateContains.j7 kq a2 t285 x12_3 y304 (y304.length : Int) x98_4 x165_63 x289000_2 x289002_2 x289003_2 = some r) ∧ Aside0 (kq ≤ k5) ∧ Aside0 (Kd.N k53 53 wc w.heap.size (fun k_ => some k_ ≠ ((.slice (some ad307) y304.length co51) : Value).ownBlock ∧ some k_ ≠ ((.slice Ao67 x289000_2.length co67) : Value).ownBlock ∧ some k_ ≠ ((.slice Ao68 x289002_2.length co68) : Value).ownBlock ∧ some k_ ≠ ((.slice Ao69 x289003_2.length co69) : Value).ownBlock ∧ k_ ≠ gb281 ∧ k_ ≠ gb288) (.slice Ao47 t285.length co47) t285) ∧ Aside0 (Kd.R Kd.string 9 wc w.heap.size (fun _ => True) (.slice (some ad307) y304.length co51) y304) ∧ Aside0 (Kd.N k53 53 wc w.heap.size (fun k_ => some k_ ≠ ((.slice Ao47 t285.length co47) : Value).ownBlock ∧ some k_ ≠ ((.slice (some ad307) y304.length co51) : Value).ownBlock ∧ some k_ ≠ ((.slice Ao68 x289002_2.length co68) : Value).ownBlock ∧ some k_ ≠ ((.slice Ao69 x289003_2.length co69) : Value).ownBlock ∧ k_ ≠ gb281 ∧ k_ ≠ gb288) (.slice Ao67 x289000_2.length co67) x289000_2) ∧ Aside0 (Kd.R k60 60 wc w.heap.size (fun _ => True) (.slice Ao68 x289002_2.length co68) x289002_2) ∧ Aside0 (Kd.R k62 62 wc w.heap.size (fun _ => True) (.slice Ao69 x289003_2.length co69) x289003_2) ∧ Aside0 (wc.heap[gb281]? = some (.cells #[(.slice A0_0 l0_0.length c0_0), .int .i8 a0_1, .int .i8 a0_2, .int .i8 a0_3, .int .i8 a0_4, (.slice A0_5 l0_5.length c0_5), .int .u8 a0_6] 27 (0, 0))) ∧ Aside0 (wc.heap[gb288]? = some (.cells #[(.slice Ao67 x289000_2.length co67), (.slice none 0 0), (.slice Ao68 x289002_2.length co68), (.slice Ao69 x289003_2.length co69)] 50 (0, 0))) ∧ Aside0 (Below w.heap.size w wc))
       case first =>
        have H := HC64.out
        clear HC64
        by_cases c71 : x15_5 < t313
        ·rw [if_pos c71] at H
         have c71b0 : decide (x15_5 < t313) = true := decide_eq_true c71
         clear c71
         (first | rw [c71b0] | (simp only [i64_w, i32_w]; rw [c71b0]) | skip)
         have H' := Aside0.mk H
         clear H
         go_wp2
         go_meet
         case rel => exact ⟨_, (true), qgsleuthlaw25estimatecontains_11, H', ⟨qgsleuthlaw25estimatecontains_14⟩, ⟨qgsleuthlaw25estimatecontains_8⟩, ⟨qgsleuthlaw25estimatecontains_10⟩, ⟨qgsleuthlaw25estimatecontains_6⟩, ⟨qgsleuthlaw25estimatecontains_3⟩, ⟨qgsleuthlaw25estimatecontains_4⟩, ⟨qgsleuthlaw25estimatecontains_1⟩, ⟨qgsleuthlaw25estimatecontains_2⟩, ⟨qgsleuthlaw25estimatecontains_0⟩⟩
        rw [if_neg c71] at H
        have c71b0 : decide (x15_5 < t313) = false := decide_eq_false c71
        clear c71
        (first | rw [c71b0] | (simp only [i64_w, i32_w]; rw [c71b0]) | skip)
        by_cases c72 : x15_5 > t314
        ·rw [if_pos c72] at H
         have c72b0 : decide (t314 < x15_5) = true := decide_eq_true c72
         clear c72
         have H' := Aside0.mk H
         clear H
         go_wp2
         go_meet
         case rel => exact ⟨_, (true), qgsleuthlaw25estimatecontains_11, H', ⟨qgsleuthlaw25estimatecontains_14⟩, ⟨qgsleuthlaw25estimatecontains_8⟩, ⟨qgsleuthlaw25estimatecontains_10⟩, ⟨qgsleuthlaw25estimatecontains_6⟩, ⟨qgsleuthlaw25estimatecontains_3⟩, ⟨qgsleuthlaw25estimatecontains_4⟩, ⟨qgsleuthlaw25estimatecontains_1⟩, ⟨qgsleuthlaw25estimatecontains_2⟩, ⟨qgsleuthlaw25estimatecontains_0⟩⟩
        rw [if_neg c72] at H
        have c72b0 : decide (t314 < x15_5) = false := decide_eq_false c72
        clear c72
        by_cases c73 : (Int.tmod a2 3) = 0
        rotate_left
        ·rw [if_neg c73] at H
         have c73b0 : ((Int.tmod a2 3) == 0) = false := beq_eq_false_iff_ne.mpr c73
         have c73b1 : ((Int.tmod a2 3) != 0) = true := bne_iff_ne.mpr c73
         have H' := Aside0.mk H
         clear H
         go_wp2
         go_meet
         case rel => exact ⟨_, (false), qgsleuthlaw25estimatecontains_11, H', ⟨qgsleuthlaw25estimatecontains_14⟩, ⟨qgsleuthlaw25estimatecontains_8⟩, ⟨qgsleuthlaw25estimatecontains_10⟩, ⟨qgsleuthlaw25estimatecontains_6⟩, ⟨qgsleuthlaw25estimatecontains_3⟩, ⟨qgsleuthlaw25estimatecontains_4⟩, ⟨qgsleuthlaw25estimatecontains_1⟩, ⟨qgsleuthlaw25estimatecontains_2⟩, ⟨qgsleuthlaw25estimatecontains_0⟩⟩
        rw [if_pos c73] at H
        have c73b0 : ((Int.tmod a2 3) == 0) = true := beq_iff_eq.mpr c73
        have c73b1 : ((Int.tmod a2 3) != 0) = false := bne_eq_false_iff_eq.mpr c73
        clear c73
        have H' := Aside0.mk H
        clear H
        go_wp2
        go_meet
        case rel => exact ⟨_, ((t313 != t314)), qgsleuthlaw25estimatecontains_11, H', ⟨qgsleuthlaw25estimatecontains_14⟩, ⟨qgsleuthlaw25estimatecontains_8⟩, ⟨qgsleuthlaw25estimatecontains_10⟩, ⟨qgsleuthlaw25estimatecontains_6⟩, ⟨qgsleuthlaw25estimatecontains_3⟩, ⟨qgsleuthlaw25estimatecontains_4⟩, ⟨qgsleuthlaw25estimatecontains_1⟩, ⟨qgsleuthlaw25estimatecontains_2⟩, ⟨qgsleuthlaw25estimatecontains_0⟩⟩
       clear HC64
       try clear c1
       try clear c2
       try clear p2
       try clear q2
       try clear hx2
       try clear c3
       try clear p3
       try clear q3
       try clear hx3
       try clear c4
       try clear c5
       try clear c6
       try clear p6
       try clear c7
       try clear c12
       try clear c13
       try clear c17
       try clear c18
       try clear c19
       try clear c20
       try clear c20b0
       try clear c21
       try clear c21b0
       try clear c21b1
       try clear c23
       try clear c23b0
       try clear c23b1
       try clear c24
       try clear c28
       try clear p28
       try clear q28
       try clear hx28
       try clear c29
       try clear p29
       try clear q29
       try clear hx29
       try clear c30
       try clear p30
       try clear q30
       try clear hx30
       try clear c31
       try clear p31
       try clear q31
       try clear hx31
       try clear c32
       try clear c32b0
       try clear c33
       try clear c33b0
       try clear c34
       try clear c34b0
       try clear c35
       try clear c35b0
       try clear c36
       try clear c41
       try clear c42
       try clear c48
       try clear c48b0
       try clear c52
       try clear c52b0
       try clear c53
       try clear c53b0
       try clear c54
       try clear c54b0
       try clear c55
       try clear c55b0
       try clear c56
       try clear c56b0
       try clear c57
       try clear c57b0
       try clear c58
       try clear c58b0
       try clear c60
       try clear c60b0
       try clear c60b1
       try clear c61
       try clear c61b0
       try clear c62
       try clear c62b0
       try clear c62b1
       try clear p64
       try clear c65
       try clear c71
       try clear c71b0
       try clear c72
       try clear c72b0
       try clear c73
       try clear c73b0
       try clear c73b1
       try clear hcz10_0
       try clear hcz10_1
       try clear hcz10_2
       try clear hcz10_3
       try clear hcz10_4
       try clear hcz10_5
       try clear hcz10_6
       try clear hcz17_0
       try clear hcz17_1
       try clear hcz17_2
       try clear hcz17_3
       try clear hcz17_4
       try clear hcz17_5
       try clear hcz17_6
       try clear hcz43_0
       try clear hcz43_1
       try clear hcz43_2
       try clear hcz43_3
       try clear hcz46_0
       try clear hcz46_1
       try clear hcz46_2
       try clear hcz46_3
       try clear hcz66_0
       try clear hcz66_1
       try clear hcz66_2
       try clear hcz66_3
       try clear hfz10_0
       try clear hfz10_1
       try clear hfz10_2
       try clear hfz10_3
       try clear hfz10_4
       try clear hfz10_5
       try clear hfz10_6
       try clear hfz17_0
       try clear hfz17_1
       try clear hfz17_2
       try clear hfz17_3
       try clear hfz17_4
       try clear hfz17_5
       try clear hfz17_6
       try clear hfz43_0
       try clear hfz43_1
       try clear hfz43_2
       try clear hfz43_3
       try clear hfz46_0
       try clear hfz46_1
       try clear hfz46_2
       try clear hfz46_3
       try clear hfz66_0
       try clear hfz66_1
       try clear hfz66_2
       try clear hfz66_3
       try clear hx289_0
       try clear hx289_1
       try clear hx289_2
       try clear hx293_0
       try clear hx293_1
       try clear hx293_2
       try clear hx295_0
       try clear hx295_1
       try clear hx295_2
       try clear hx296_0
       try clear hx296_1
       try clear hx296_2
       try clear hx297_0
       try clear hx297_1
       try clear hx297_10
       try clear hx297_11
       try clear hx297_12
       try clear hx297_13
       try clear hx297_2
       try clear hx297_3
       try clear hx297_4
       try clear hx297_5
       try clear hx297_6
       try clear hx297_7
       try clear hx297_8
       try clear hx297_9
       try clear hx307_0
       try clear hx308_0
       try clear hx308_1
       try clear hx308_2
       try clear hx309_0
       try clear hx309_1
       try clear hx309_2
       try clear hx311_0
       try clear hx311_1
       try clear hx311_2
       try clear hx312_0
       try clear hx312_1
       try clear hx312_10
       try clear hx312_11
       try clear hx312_12
       try clear hx312_13
       try clear hx312_2
       try clear hx312_3
       try clear hx312_4
       try clear hx312_5
       try clear hx312_6
       try clear hx312_7
       try clear hx312_8
       try clear hx312_9
       try clear p2
       try clear p28
       try clear p289
       try clear p29
       try clear p293
       try clear p295
       try clear p296
       try clear p297
       try clear p3
       try clear p30
       try clear p307
       try clear p308
       try clear p309
       try clear p311
       try clear p312
       try clear p6
       try clear q2
       try clear q28
       try clear q289
       try clear q29
       try clear q293
       try clear q295
       try clear q296
       try clear q297
       try clear q3
       try clear q30
       try clear q307
       try clear q308
       try clear q309
       try clear q311
       try clear q312
       obtain ⟨kq, x165_63, rfl, HA, HJ63, HO_7, HO_96, HO_289000, HO_289002, HO_289003, BK281, BK288, HB⟩ := hcut
       cases kq with
       | zero => exact absurd HA.out (by simp [sleuthlaw25_EstimateContains.j7])
       | succ kj63 =>
        have H := HA.out
        clear HA
        simp only [sleuthlaw25_EstimateContains.j7] at H
        by_cases c74 : x165_63 = true
        ·subst c74
         have H1 : (some false) = some r := by rw [if_pos rfl] at H; exact H
         clear H
         have H := H1
         clear H1
         obtain rfl := Option.some.inj H
         go_wp2
         go_ret
         exact ⟨by first | rfl | (simp [errW_none, errW_some] <;> rfl) | (simp [*, errW_none, errW_some] <;> rfl), qgsleuthlaw25estimatecontains_0⟩
        replace c74 := Bool.eq_false_iff.mpr c74
        subst c74
        have H1 : (sleuthlaw25_EstimateContains.l3 kj63 a2 t285 x12_3 y304 (y304.length : Int) (wrap64 (x98_4 + 1)) x289000_2 x289002_2 x289003_2) = some r := by rw [if_neg (show ¬ (false = true) by decide)] at H; exact H
        clear H
        have H := H1
        clear H1
        have H' := Aside0.mk H
        clear H
        go_wp2
        go_roundg kj63
        case measure => have := HJ3.out; have := HK2.out; have := HK3.out; have := HK4.out; have := HK5.out; have := HJ63.out; omega
        case rel => exact ⟨(wrap64 (x98_4 + 1)), qgsleuthlaw25estimatecontains_11, H', ⟨by have := HJ3.out; have := HK2.out; have := HK3.out; have := HK4.out; have := HK5.out; have := HJ63.out; omega⟩, ⟨qgsleuthlaw25estimatecontains_8⟩, ⟨qgsleuthlaw25estimatecontains_10⟩, ⟨qgsleuthlaw25estimatecontains_6⟩, ⟨qgsleuthlaw25estimatecontains_3⟩, ⟨qgsleuthlaw25estimatecontains_4⟩, ⟨qgsleuthlaw25estimatecontains_1⟩, ⟨qgsleuthlaw25estimatecontains_2⟩, ⟨qgsleuthlaw25estimatecontains_0⟩⟩
      rw [if_pos c55] at H
      have c55b0 : decide (x16_5 < (t285.length : Int)) = true := decide_eq_true c55
      clear c55
      have H' := Aside0.mk H
      clear H
      go_wp2
      go_loopg [15, 17] k5 (fun kq v15 v17 w' => ∃ (x15_6 : Int) (x17_6 : Int), v15 = .int .i64 x15_6 ∧ v17 = .int .i64 x17_6 ∧ Aside0 (sleuthlaw25_EstimateContains.l5 kq a2 t285 x12_3 (rdOf ByteArray.empty y304 x98_4) x15_6 x16_5 x17_6 y304 (y304.length : Int) x98_4 x289000_2 x289002_2 x289003_2 = some r) ∧ Aside0 (kq ≤ k5) ∧ Aside0 (Kd.N k53 53 w' w.heap.size (fun k_ => some k_ ≠ ((.slice (some ad307) y304.length co51) : Value).ownBlock ∧ some k_ ≠ (u289000 : Value).ownBlock ∧ some k_ ≠ (u289002 : Value).ownBlock ∧ some k_ ≠ (u289003 : Value).ownBlock ∧ k_ ≠ gb281 ∧ k_ ≠ gb288) (.slice Ao47 t285.length co47) t285) ∧ Aside0 (Kd.R Kd.string 9 w' w.heap.size (fun _ => True) (.slice (some ad307) y304.length co51) y304) ∧ Aside0 (Kd.N k53 53 w' w.heap.size (fun k_ => some k_ ≠ ((.slice Ao47 t285.length co47) : Value).ownBlock ∧ some k_ ≠ ((.slice (some ad307) y304.length co51) : Value).ownBlock ∧ some k_ ≠ (u289002 : Value).ownBlock ∧ some k_ ≠ (u289003 : Value).ownBlock ∧ k_ ≠ gb281 ∧ k_ ≠ gb288) u289000 x289000_2) ∧ Aside0 (Kd.R k60 60 w' w.heap.size (fun _ => True) u289002 x289002_2) ∧ Aside0 (Kd.R k62 62 w' w.heap.size (fun _ => True) u289003 x289003_2) ∧ Aside0 (w'.heap[gb281]? = some (.cells #[(.slice A0_0 l0_0.length c0_0), .int .i8 a0_1, .int .i8 a0_2, .int .i8 a0_3, .int .i8 a0_4, (.slice A0_5 l0_5.length c0_5), .int .u8 a0_6] 27 (0, 0))) ∧ Aside0 (w'.heap[gb288]? = some (.cells #[u289000, (.slice none 0 0), u289002, u289003] 50 (0, 0))) ∧ Aside0 (Below w.heap.size w w'))
      case atStart => exact ⟨(x15_5), (0), qgsleuthlaw25estimatecontains_11, qgsleuthlaw25estimatecontains_11, H', ⟨Nat.le_refl _⟩, ⟨qgsleuthlaw25estimatecontains_8⟩, ⟨qgsleuthlaw25estimatecontains_10⟩, ⟨qgsleuthlaw25estimatecontains_6⟩, ⟨qgsleuthlaw25estimatecontains_3⟩, ⟨qgsleuthlaw25estimatecontains_4⟩, ⟨qgsleuthlaw25estimatecontains_1⟩, ⟨qgsleuthlaw25estimatecontains_2⟩, ⟨qgsleuthlaw25estimatecontains_0⟩⟩
      clear H'
      try clear c1
      try clear c2
      try clear p2
      try clear q2
      try clear hx2
      try clear c3
      try clear p3
      try clear q3
      try clear hx3
      try clear c4
      try clear c5
      try clear p6
      try clear c7
      try clear c12
      try clear c13
      try clear c17
      try clear c18
      try clear c20
      try clear c20b0
      try clear c21
      try clear c21b0
      try clear c21b1
      try clear c23
      try clear c23b0
      try clear c23b1
      try clear c24
      try clear c28
      try clear p28
      try clear q28
      try clear hx28
      try clear c29
      try clear p29
      try clear q29
      try clear hx29
      try clear p30
      try clear q30
      try clear hx30
      try clear c32
      try clear c32b0
      try clear c33
      try clear c33b0
      try clear c34
      try clear c34b0
      try clear c35
      try clear c35b0
      try clear c36
      try clear c41
      try clear c42
      try clear c48
      try clear c48b0
      try clear c52
      try clear c52b0
      try clear c53
      try clear c53b0
      try clear c54
      try clear c54b0
      try clear c55
      try clear c55b0
      try clear hcz10_0
      try clear hcz10_1
      try clear hcz10_2
      try clear hcz10_3
      try clear hcz10_4
      try clear hcz10_5
      try clear hcz10_6
      try clear hcz17_0
      try clear hcz17_1
      try clear hcz17_2
      try clear hcz17_3
      try clear hcz17_4
      try clear hcz17_5
      try clear hcz17_6
      try clear hcz43_0
      try clear hcz43_1
      try clear hcz43_2
      try clear hcz43_3
      try clear hcz46_0
      try clear hcz46_1
      try clear hcz46_2
      try clear hcz46_3
      try clear hfz10_0
      try clear hfz10_1
      try clear hfz10_2
      try clear hfz10_3
      try clear hfz10_4
      try clear hfz10_5
      try clear hfz10_6
      try clear hfz17_0
      try clear hfz17_1
      try clear hfz17_2
      try clear hfz17_3
      try clear hfz17_4
      try clear hfz17_5
      try clear hfz17_6
      try clear hfz43_0
      try clear hfz43_1
      try clear hfz43_2
      try clear hfz43_3
      try clear hfz46_0
      try clear hfz46_1
      try clear hfz46_2
      try clear hfz46_3
      try clear hx289_0
      try clear hx289_1
      try clear hx289_2
      try clear hx293_0
      try clear hx293_1
      try clear hx293_2
      try clear hx295_0
      try clear hx295_1
      try clear hx295_2
      try clear hx296_0
      try clear hx296_1
      try clear hx296_2
      try clear hx297_0
      try clear hx297_1
      try clear hx297_10
      try clear hx297_11
      try clear hx297_12
      try clear hx297_13
      try clear hx297_2
      try clear hx297_3
      try clear hx297_4
      try clear hx297_5
      try clear hx297_6
      try clear hx297_7
      try clear hx297_8
      try clear hx297_9
      try clear hx307_0
      try clear p2
      try clear p28
      try clear p289
      try clear p29
      try clear p293
      try clear p295
      try clear p296
      try clear p297
      try clear p3
      try clear p30
      try clear p307
      try clear p6
      try clear q2
      try clear q28
      try clear q289
      try clear q29
      try clear q293
      try clear q295
      try clear q296
      try clear q297
      try clear q3
      try clear q30
      try clear q307
      obtain ⟨x15_6, x17_6, rfl, rfl, HA, HK6, HO_7, HO_96, HO_289000, HO_289002, HO_289003, BK281, BK288, HB⟩ := hrel
      cases gk with
      | zero => exact absurd HA.out (by simp [sleuthlaw25_EstimateContains.l5])
      | succ k6 =>
       have H := HA.out
       clear HA
       simp only [sleuthlaw25_EstimateContains.l5] at H
       by_cases c56 : 0 ≤ x16_5
       rotate_left
       ·rw [if_neg c56] at H
        exact absurd H (by simp)
       rw [if_pos c56] at H
       have c56b0 : decide (0 ≤ x16_5) = true := decide_eq_true c56
       clear c56
       by_cases c57 : x16_5 < (t285.length : Int)
       rotate_left
       ·rw [if_neg c57] at H
        exact absurd H (by simp)
       rw [if_pos c57] at H
       have c57b0 : decide (x16_5 < (t285.length : Int)) = true := decide_eq_true c57
       clear c57
       by_cases c58 : x17_6 < (((rd_T53 t285 x16_5).f2).length : Int)
       rotate_left
       ·rw [if_neg c58] at H
        have c58b0 : decide (x17_6 < (((rd_T53 t285 x16_5).f2).length : Int)) = false := decide_eq_false c58
        clear c58
        have H' := Aside0.mk H
        clear H
        have p308 : 0 ≤ (x16_5 : Int) := of_decide_eq_true qgsleuthlaw25estimatecontains_7
        have q308 : x16_5 < (t285.length : Int) := of_decide_eq_true qgsleuthlaw25estimatecontains_7
        obtain ⟨ad308, A308_2, c308_2, e308, hx308_0, hx308_1, hx308_2, hl308_2, hi308_2⟩ := at_T53 (Kd.N_reads' HO_7.out).2.2 x16_5 p308 q308
        cases e308
        obtain ⟨ce308, hce308, hMe308, hcc308⟩ := Kd.N_get HO_7.out z53 x16_5 p308 qgsleuthlaw25estimatecontains_13
        obtain ⟨ua308_2, uc308_2, rfl, ul308_2, ge308_2⟩ := k53_openF hMe308
        have hv308_2 := hcc308 2 _ rfl
        rw [add_field _ _ 2 (by omega)] at hv308_2
        replace hv308_2 := Option.some.inj (hv308_2.symm.trans hx308_2)
        injection hv308_2 with hva_ hvn_ hvc_
        rw [hva_] at ge308_2
        rw [hvc_] at ul308_2
        have HL308_2 := Aside0.mk (show Kd.V k58 58 _ w.heap.size _ _ ((rd_T53 t285 x16_5).f2) from Kd.V_mk ul308_2 ge308_2)
        clear hva_ hvn_ hvc_ ge308_2 ul308_2
        clear hcc308 hce308
        have HR308_2 := Aside0.mk hi308_2
        have HC308_2 := Aside0.mk hl308_2
        clear hi308_2 hl308_2
        replace p308 := eq_true p308
        replace q308 := eq_true q308
        go_wp2
        go_roundg k6
        case measure => have := HJ3.out; have := HK2.out; have := HK3.out; have := HK4.out; have := HK5.out; have := HK6.out; omega
        case rel => exact ⟨(x15_6), (wrap64 (x16_5 + 1)), qgsleuthlaw25estimatecontains_11, qgsleuthlaw25estimatecontains_11, H', ⟨qgsleuthlaw25estimatecontains_15⟩, ⟨qgsleuthlaw25estimatecontains_8⟩, ⟨qgsleuthlaw25estimatecontains_10⟩, ⟨qgsleuthlaw25estimatecontains_6⟩, ⟨qgsleuthlaw25estimatecontains_3⟩, ⟨qgsleuthlaw25estimatecontains_4⟩, ⟨qgsleuthlaw25estimatecontains_1⟩, ⟨qgsleuthlaw25estimatecontains_2⟩, ⟨qgsleuthlaw25estimatecontains_0⟩⟩
       rw [if_pos c58] at H
       have c58b0 : decide (x17_6 < (((rd_T53 t285 x16_5).f2).length : Int)) = true := decide_eq_true c58
       clear c58
       replace H := Option.bind_eq_some_iff.mp H
       obtain ⟨t310, A590, H⟩ := H
       replace H : (if t310 = x12_3 then (if 0 ≤ x17_6 then (if ((rd_T58 ((rd_T53 t285 x16_5).f2) x17_6).f6).toList = (rdOf ByteArray.empty y304 x98_4).toList then (sleuthlaw25_EstimateContains.l5 k6 a2 t285 x12_3 (rdOf ByteArray.empty y304 x98_4) (wrap64 (x15_6 + 1)) x16_5 (wrap64 (x17_6 + 1)) y304 (y304.length : Int) x98_4 x289000_2 x289002_2 x289003_2) else (sleuthlaw25_EstimateContains.l5 k6 a2 t285 x12_3 (rdOf ByteArray.empty y304 x98_4) x15_6 x16_5 (wrap64 (x17_6 + 1)) y304 (y304.length : Int) x98_4 x289000_2 x289002_2 x289003_2)) else (none)) else (sleuthlaw25_EstimateContains.l5 k6 a2 t285 x12_3 (rdOf ByteArray.empty y304 x98_4) x15_6 x16_5 (wrap64 (x17_6 + 1)) y304 (y304.length : Int) x98_4 x289000_2 x289002_2 x289003_2)) = some r := H
       have A59 := Aside0.mk A590
       clear A590
       by_cases c60 : t310 = x12_3
       rotate_left
       ·rw [if_neg c60] at H
        have c60b0 : (t310 == x12_3) = false := beq_eq_false_iff_ne.mpr c60
        have c60b1 : (t310 != x12_3) = true := bne_iff_ne.mpr c60
        have H' := Aside0.mk H
        clear H
        have p308 : 0 ≤ (x16_5 : Int) := of_decide_eq_true qgsleuthlaw25estimatecontains_7
        have q308 : x16_5 < (t285.length : Int) := of_decide_eq_true qgsleuthlaw25estimatecontains_7
        obtain ⟨ad308, A308_2, c308_2, e308, hx308_0, hx308_1, hx308_2, hl308_2, hi308_2⟩ := at_T53 (Kd.N_reads' HO_7.out).2.2 x16_5 p308 q308
        cases e308
        obtain ⟨ce308, hce308, hMe308, hcc308⟩ := Kd.N_get HO_7.out z53 x16_5 p308 qgsleuthlaw25estimatecontains_13
        obtain ⟨ua308_2, uc308_2, rfl, ul308_2, ge308_2⟩ := k53_openF hMe308
        have hv308_2 := hcc308 2 _ rfl
        rw [add_field _ _ 2 (by omega)] at hv308_2
        replace hv308_2 := Option.some.inj (hv308_2.symm.trans hx308_2)
        injection hv308_2 with hva_ hvn_ hvc_
        rw [hva_] at ge308_2
        rw [hvc_] at ul308_2
        have HL308_2 := Aside0.mk (show Kd.V k58 58 _ w.heap.size _ _ ((rd_T53 t285 x16_5).f2) from Kd.V_mk ul308_2 ge308_2)
        clear hva_ hvn_ hvc_ ge308_2 ul308_2
        clear hcc308 hce308
        have HR308_2 := Aside0.mk hi308_2
        have HC308_2 := Aside0.mk hl308_2
        clear hi308_2 hl308_2
        replace p308 := eq_true p308
        replace q308 := eq_true q308
        have p309 : 0 ≤ (x16_5 : Int) := of_decide_eq_true qgsleuthlaw25estimatecontains_7
        have q309 : x16_5 < (t285.length : Int) := of_decide_eq_true qgsleuthlaw25estimatecontains_7
        obtain ⟨ad309, A309_2, c309_2, e309, hx309_0, hx309_1, hx309_2, hl309_2, hi309_2⟩ := at_T53 (Kd.N_reads' HO_7.out).2.2 x16_5 p309 q309
        obtain rfl : ad308 = ad309 := (by injection e309)
        obtain ⟨ce309, hce309, hMe309, hcc309⟩ := Kd.N_get HO_7.out z53 x16_5 p309 qgsleuthlaw25estimatecontains_18
        obtain ⟨ua309_2, uc309_2, rfl, ul309_2, ge309_2⟩ := k53_openF hMe309
        have hv309_2 := hcc309 2 _ rfl
        rw [add_field _ _ 2 (by omega)] at hv309_2
        replace hv309_2 := Option.some.inj (hv309_2.symm.trans hx309_2)
        injection hv309_2 with hva_ hvn_ hvc_
        rw [hva_] at ge309_2
        rw [hvc_] at ul309_2
        have HL309_2 := Aside0.mk (show Kd.V k58 58 _ w.heap.size _ _ ((rd_T53 t285 x16_5).f2) from Kd.V_mk ul309_2 ge309_2)
        clear hva_ hvn_ hvc_ ge309_2 ul309_2
        clear hcc309 hce309
        have HR309_2 := Aside0.mk hi309_2
        have HC309_2 := Aside0.mk hl309_2
        clear hi309_2 hl309_2
        replace p309 := eq_true p309
        replace q309 := eq_true q309
        have ea_ := Option.some.inj (hx308_2.symm.trans hx309_2)
        injection ea_ with ea_ en_ ec_
        subst ea_
        subst ec_
        clear en_
        go_wp2_with (first | ((with_reducible refine gate_callee (f := 18) rfl ?_); refine goesL_ (some 123) rfl rfl Try.func18 (by kernel_rfl) rfl #[.int .i64 ((rd_T53 t285 x16_5).f0)] rfl qgsleuthlaw25estimatecontains_9 ?_; (with_reducible refine (span_Partition.calls ((rd_T53 t285 x16_5).f0) t310 _ A59.out).mono ?_); rintro e w' ⟨rfl, ⟨nd, rfl⟩⟩; refine ⟨_, rfl, ?_⟩))
        go_roundg k6
        case measure => have := HJ3.out; have := HK2.out; have := HK3.out; have := HK4.out; have := HK5.out; have := HK6.out; omega
        case rel => exact ⟨(x15_6), (wrap64 (x17_6 + 1)), qgsleuthlaw25estimatecontains_11, qgsleuthlaw25estimatecontains_11, H', ⟨qgsleuthlaw25estimatecontains_15⟩, ⟨qgsleuthlaw25estimatecontains_8⟩, ⟨qgsleuthlaw25estimatecontains_10⟩, ⟨qgsleuthlaw25estimatecontains_6⟩, ⟨qgsleuthlaw25estimatecontains_3⟩, ⟨qgsleuthlaw25estimatecontains_4⟩, ⟨qgsleuthlaw25estimatecontains_1⟩, ⟨qgsleuthlaw25estimatecontains_2⟩, ⟨qgsleuthlaw25estimatecontains_0⟩⟩
       rw [if_pos c60] at H
       have c60b0 : (t310 == x12_3) = true := beq_iff_eq.mpr c60
       have c60b1 : (t310 != x12_3) = false := bne_eq_false_iff_eq.mpr c60
       clear c60
       by_cases c61 : 0 ≤ x17_6
       rotate_left
       ·rw [if_neg c61] at H
        exact absurd H (by simp)
       rw [if_pos c61] at H
       have c61b0 : decide (0 ≤ x17_6) = true := decide_eq_true c61
       clear c61
       by_cases c62 : ((rd_T58 ((rd_T53 t285 x16_5).f2) x17_6).f6).toList = (rdOf ByteArray.empty y304 x98_4).toList
       rotate_left
       ·rw [if_neg c62] at H
        have c62b0 : (((rd_T58 ((rd_T53 t285 x16_5).f2) x17_6).f6).toList == (rdOf ByteArray.empty y304 x98_4).toList) = false := beq_eq_false_iff_ne.mpr c62
        have c62b1 : (((rd_T58 ((rd_T53 t285 x16_5).f2) x17_6).f6).toList != (rdOf ByteArray.empty y304 x98_4).toList) = true := bne_iff_ne.mpr c62
        have H' := Aside0.mk H
        clear H
        have p308 : 0 ≤ (x16_5 : Int) := of_decide_eq_true qgsleuthlaw25estimatecontains_7
        have q308 : x16_5 < (t285.length : Int) := of_decide_eq_true qgsleuthlaw25estimatecontains_7
        obtain ⟨ad308, A308_2, c308_2, e308, hx308_0, hx308_1, hx308_2, hl308_2, hi308_2⟩ := at_T53 (Kd.N_reads' HO_7.out).2.2 x16_5 p308 q308
        cases e308
        obtain ⟨ce308, hce308, hMe308, hcc308⟩ := Kd.N_get HO_7.out z53 x16_5 p308 qgsleuthlaw25estimatecontains_13
        obtain ⟨ua308_2, uc308_2, rfl, ul308_2, ge308_2⟩ := k53_openF hMe308
        have hv308_2 := hcc308 2 _ rfl
        rw [add_field _ _ 2 (by omega)] at hv308_2
        replace hv308_2 := Option.some.inj (hv308_2.symm.trans hx308_2)
        injection hv308_2 with hva_ hvn_ hvc_
        rw [hva_] at ge308_2
        rw [hvc_] at ul308_2
        have HL308_2 := Aside0.mk (show Kd.V k58 58 _ w.heap.size _ _ ((rd_T53 t285 x16_5).f2) from Kd.V_mk ul308_2 ge308_2)
        clear hva_ hvn_ hvc_ ge308_2 ul308_2
        clear hcc308 hce308
        have HR308_2 := Aside0.mk hi308_2
        have HC308_2 := Aside0.mk hl308_2
        clear hi308_2 hl308_2
        replace p308 := eq_true p308
        replace q308 := eq_true q308
        have p309 : 0 ≤ (x16_5 : Int) := of_decide_eq_true qgsleuthlaw25estimatecontains_7
        have q309 : x16_5 < (t285.length : Int) := of_decide_eq_true qgsleuthlaw25estimatecontains_7
        obtain ⟨ad309, A309_2, c309_2, e309, hx309_0, hx309_1, hx309_2, hl309_2, hi309_2⟩ := at_T53 (Kd.N_reads' HO_7.out).2.2 x16_5 p309 q309
        obtain rfl : ad308 = ad309 := (by injection e309)
        obtain ⟨ce309, hce309, hMe309, hcc309⟩ := Kd.N_get HO_7.out z53 x16_5 p309 qgsleuthlaw25estimatecontains_18
        obtain ⟨ua309_2, uc309_2, rfl, ul309_2, ge309_2⟩ := k53_openF hMe309
        have hv309_2 := hcc309 2 _ rfl
        rw [add_field _ _ 2 (by omega)] at hv309_2
        replace hv309_2 := Option.some.inj (hv309_2.symm.trans hx309_2)
        injection hv309_2 with hva_ hvn_ hvc_
        rw [hva_] at ge309_2
        rw [hvc_] at ul309_2
        have HL309_2 := Aside0.mk (show Kd.V k58 58 _ w.heap.size _ _ ((rd_T53 t285 x16_5).f2) from Kd.V_mk ul309_2 ge309_2)
        clear hva_ hvn_ hvc_ ge309_2 ul309_2
        clear hcc309 hce309
        have HR309_2 := Aside0.mk hi309_2
        have HC309_2 := Aside0.mk hl309_2
        clear hi309_2 hl309_2
        replace p309 := eq_true p309
        replace q309 := eq_true q309
        have ea_ := Option.some.inj (hx308_2.symm.trans hx309_2)
        injection ea_ with ea_ en_ ec_
        subst ea_
        subst ec_
        clear en_
        go_wp2_with (first | ((with_reducible refine gate_callee (f := 18) rfl ?_); refine goesL_ (some 123) rfl rfl Try.func18 (by kernel_rfl) rfl #[.int .i64 ((rd_T53 t285 x16_5).f0)] rfl qgsleuthlaw25estimatecontains_9 ?_; (with_reducible refine (span_Partition.calls ((rd_T53 t285 x16_5).f0) t310 _ A59.out).mono ?_); rintro e w' ⟨rfl, ⟨nd, rfl⟩⟩; refine ⟨_, rfl, ?_⟩; have p311 : 0 ≤ (x16_5 : Int) := of_decide_eq_true qgsleuthlaw25estimatecontains_7; have q311 : x16_5 < (t285.length : Int) := of_decide_eq_true qgsleuthlaw25estimatecontains_7; obtain ⟨ad311, A311_2, c311_2, e311, hx311_0, hx311_1, hx311_2, hl311_2, hi311_2⟩ := at_T53 (Kd.N_reads' HO_7.out).2.2 x16_5 p311 q311; obtain rfl : ad308 = ad311 := (by injection e311); obtain ⟨ce311, hce311, hMe311, hcc311⟩ := Kd.N_get HO_7.out z53 x16_5 p311 (by first | exact q311 | exact of_decide_eq_true qgsleuthlaw25estimatecontains_7 | (have e_ := (Kd.N_reads' HO_7.out).1; omega)); obtain ⟨ua311_2, uc311_2, rfl, ul311_2, ge311_2⟩ := k53_openF hMe311; have hv311_2 := hcc311 2 _ rfl; rw [add_field _ _ 2 (by omega)] at hv311_2; replace hv311_2 := Option.some.inj (hv311_2.symm.trans hx311_2); injection hv311_2 with hva_ hvn_ hvc_; rw [hva_] at ge311_2; rw [hvc_] at ul311_2; have HL311_2 := Aside0.mk (show Kd.V k58 58 _ w.heap.size _ _ ((rd_T53 t285 x16_5).f2) from Kd.V_mk ul311_2 ge311_2); clear hva_ hvn_ hvc_ ge311_2 ul311_2; clear hcc311 hce311; have HR311_2 := Aside0.mk hi311_2; have HC311_2 := Aside0.mk hl311_2; clear hi311_2 hl311_2; replace p311 := eq_true p311; replace q311 := eq_true q311; have ea_ := Option.some.inj (hx308_2.symm.trans hx311_2); injection ea_ with ea_ en_ ec_; subst ea_; subst ec_; clear en_; have p312 : 0 ≤ (x17_6 : Int) := of_decide_eq_true qgsleuthlaw25estimatecontains_7; have q312 : x17_6 < (((rd_T53 t285 x16_5).f2).length : Int) := of_decide_eq_true qgsleuthlaw25estimatecontains_7; obtain ⟨ad312, A312_12, c312_12, A312_13, c312_13, e312, hx312_0, hx312_1, hx312_2, hx312_3, hx312_4, hx312_5, hx312_6, hx312_7, hx312_8, hx312_9, hx312_10, hx312_11, hx312_12, hx312_13, hl312_12, hi312_12, hl312_13, hi312_13⟩ := at_T58 (by repeat (first | (with_reducible exact HR311_2.out) | (with_reducible refine Kd.C_alloc ?_ _) | (with_reducible refine Kd.C_drewN ?_ _) | (with_reducible refine Kd.C_drew ?_) | exact HR311_2.out)) x17_6 p312 q312; cases e312; obtain ⟨ce312, hce312, hMe312, hcc312⟩ := Kd.V_get HL311_2.out z58 x17_6 p312 (by first | exact q312 | exact of_decide_eq_true qgsleuthlaw25estimatecontains_7 | (have e_ := (Kd.V_reads' HL311_2.out).1; omega)); obtain ⟨ua312_12, uc312_12, ua312_13, uc312_13, rfl, ul312_12, ge312_12, ul312_13, ge312_13⟩ := k58_openF hMe312; have hv312_12 := hcc312 12 _ rfl; rw [add_field _ _ 12 (by omega)] at hv312_12; replace hv312_12 := Option.some.inj (hv312_12.symm.trans hx312_12); injection hv312_12 with hva_ hvn_ hvc_; rw [hva_] at ge312_12; rw [hvc_] at ul312_12; have HL312_12 := Aside0.mk (show Kd.V k141 141 _ w.heap.size _ _ ((rd_T58 ((rd_T53 t285 x16_5).f2) x17_6).f12) from Kd.V_mk ul312_12 ge312_12); clear hva_ hvn_ hvc_ ge312_12 ul312_12; have hv312_13 := hcc312 13 _ rfl; rw [add_field _ _ 13 (by omega)] at hv312_13; replace hv312_13 := Option.some.inj (hv312_13.symm.trans hx312_13); injection hv312_13 with hva_ hvn_ hvc_; rw [hva_] at ge312_13; rw [hvc_] at ul312_13; have HL312_13 := Aside0.mk (show Kd.V k146 146 _ w.heap.size _ _ ((rd_T58 ((rd_T53 t285 x16_5).f2) x17_6).f13) from Kd.V_mk ul312_13 ge312_13); clear hva_ hvn_ hvc_ ge312_13 ul312_13; clear hcc312 hce312; have HR312_12 := Aside0.mk hi312_12; have HC312_12 := Aside0.mk hl312_12; clear hi312_12 hl312_12; have HR312_13 := Aside0.mk hi312_13; have HC312_13 := Aside0.mk hl312_13; clear hi312_13 hl312_13; replace p312 := eq_true p312; replace q312 := eq_true q312))
        go_roundg k6
        case measure => have := HJ3.out; have := HK2.out; have := HK3.out; have := HK4.out; have := HK5.out; have := HK6.out; omega
        case rel => exact ⟨(x15_6), (wrap64 (x17_6 + 1)), qgsleuthlaw25estimatecontains_11, qgsleuthlaw25estimatecontains_11, H', ⟨qgsleuthlaw25estimatecontains_15⟩, ⟨qgsleuthlaw25estimatecontains_8⟩, ⟨qgsleuthlaw25estimatecontains_10⟩, ⟨qgsleuthlaw25estimatecontains_6⟩, ⟨qgsleuthlaw25estimatecontains_3⟩, ⟨qgsleuthlaw25estimatecontains_4⟩, ⟨qgsleuthlaw25estimatecontains_1⟩, ⟨qgsleuthlaw25estimatecontains_2⟩, ⟨qgsleuthlaw25estimatecontains_0⟩⟩
       rw [if_pos c62] at H
       have c62b0 : (((rd_T58 ((rd_T53 t285 x16_5).f2) x17_6).f6).toList == (rdOf ByteArray.empty y304 x98_4).toList) = true := beq_iff_eq.mpr c62
       have c62b1 : (((rd_T58 ((rd_T53 t285 x16_5).f2) x17_6).f6).toList != (rdOf ByteArray.empty y304 x98_4).toList) = false := bne_eq_false_iff_eq.mpr c62
       clear c62
       have H' := Aside0.mk H
       clear H
       have p308 : 0 ≤ (x16_5 : Int) := of_decide_eq_true qgsleuthlaw25estimatecontains_7
       have q308 : x16_5 < (t285.length : Int) := of_decide_eq_true qgsleuthlaw25estimatecontains_7
       obtain ⟨ad308, A308_2, c308_2, e308, hx308_0, hx308_1, hx308_2, hl308_2, hi308_2⟩ := at_T53 (Kd.N_reads' HO_7.out).2.2 x16_5 p308 q308
       cases e308
       obtain ⟨ce308, hce308, hMe308, hcc308⟩ := Kd.N_get HO_7.out z53 x16_5 p308 qgsleuthlaw25estimatecontains_13
       obtain ⟨ua308_2, uc308_2, rfl, ul308_2, ge308_2⟩ := k53_openF hMe308
       have hv308_2 := hcc308 2 _ rfl
       rw [add_field _ _ 2 (by omega)] at hv308_2
       replace hv308_2 := Option.some.inj (hv308_2.symm.trans hx308_2)
       injection hv308_2 with hva_ hvn_ hvc_
       rw [hva_] at ge308_2
       rw [hvc_] at ul308_2
       have HL308_2 := Aside0.mk (show Kd.V k58 58 _ w.heap.size _ _ ((rd_T53 t285 x16_5).f2) from Kd.V_mk ul308_2 ge308_2)
       clear hva_ hvn_ hvc_ ge308_2 ul308_2
       clear hcc308 hce308
       have HR308_2 := Aside0.mk hi308_2
       have HC308_2 := Aside0.mk hl308_2
       clear hi308_2 hl308_2
       replace p308 := eq_true p308
       replace q308 := eq_true q308
       have p309 : 0 ≤ (x16_5 : Int) := of_decide_eq_true qgsleuthlaw25estimatecontains_7
       have q309 : x16_5 < (t285.length : Int) := of_decide_eq_true qgsleuthlaw25estimatecontains_7
       obtain ⟨ad309, A309_2, c309_2, e309, hx309_0, hx309_1, hx309_2, hl309_2, hi309_2⟩ := at_T53 (Kd.N_reads' HO_7.out).2.2 x16_5 p309 q309
       obtain rfl : ad308 = ad309 := (by injection e309)
       obtain ⟨ce309, hce309, hMe309, hcc309⟩ := Kd.N_get HO_7.out z53 x16_5 p309 qgsleuthlaw25estimatecontains_18
       obtain ⟨ua309_2, uc309_2, rfl, ul309_2, ge309_2⟩ := k53_openF hMe309
       have hv309_2 := hcc309 2 _ rfl
       rw [add_field _ _ 2 (by omega)] at hv309_2
       replace hv309_2 := Option.some.inj (hv309_2.symm.trans hx309_2)
       injection hv309_2 with hva_ hvn_ hvc_
       rw [hva_] at ge309_2
       rw [hvc_] at ul309_2
       have HL309_2 := Aside0.mk (show Kd.V k58 58 _ w.heap.size _ _ ((rd_T53 t285 x16_5).f2) from Kd.V_mk ul309_2 ge309_2)
       clear hva_ hvn_ hvc_ ge309_2 ul309_2
       clear hcc309 hce309
       have HR309_2 := Aside0.mk hi309_2
       have HC309_2 := Aside0.mk hl309_2
       clear hi309_2 hl309_2
       replace p309 := eq_true p309
       replace q309 := eq_true q309
       have ea_ := Option.some.inj (hx308_2.symm.trans hx309_2)
       injection ea_ with ea_ en_ ec_
       subst ea_
       subst ec_
       clear en_
       go_wp2_with (first | ((with_reducible refine gate_callee (f := 18) rfl ?_); refine goesL_ (some 123) rfl rfl Try.func18 (by kernel_rfl) rfl #[.int .i64 ((rd_T53 t285 x16_5).f0)] rfl qgsleuthlaw25estimatecontains_9 ?_; (with_reducible refine (span_Partition.calls ((rd_T53 t285 x16_5).f0) t310 _ A59.out).mono ?_); rintro e w' ⟨rfl, ⟨nd, rfl⟩⟩; refine ⟨_, rfl, ?_⟩; have p311 : 0 ≤ (x16_5 : Int) := of_decide_eq_true qgsleuthlaw25estimatecontains_7; have q311 : x16_5 < (t285.length : Int) := of_decide_eq_true qgsleuthlaw25estimatecontains_7; obtain ⟨ad311, A311_2, c311_2, e311, hx311_0, hx311_1, hx311_2, hl311_2, hi311_2⟩ := at_T53 (Kd.N_reads' HO_7.out).2.2 x16_5 p311 q311; obtain rfl : ad308 = ad311 := (by injection e311); obtain ⟨ce311, hce311, hMe311, hcc311⟩ := Kd.N_get HO_7.out z53 x16_5 p311 (by first | exact q311 | exact of_decide_eq_true qgsleuthlaw25estimatecontains_7 | (have e_ := (Kd.N_reads' HO_7.out).1; omega)); obtain ⟨ua311_2, uc311_2, rfl, ul311_2, ge311_2⟩ := k53_openF hMe311; have hv311_2 := hcc311 2 _ rfl; rw [add_field _ _ 2 (by omega)] at hv311_2; replace hv311_2 := Option.some.inj (hv311_2.symm.trans hx311_2); injection hv311_2 with hva_ hvn_ hvc_; rw [hva_] at ge311_2; rw [hvc_] at ul311_2; have HL311_2 := Aside0.mk (show Kd.V k58 58 _ w.heap.size _ _ ((rd_T53 t285 x16_5).f2) from Kd.V_mk ul311_2 ge311_2); clear hva_ hvn_ hvc_ ge311_2 ul311_2; clear hcc311 hce311; have HR311_2 := Aside0.mk hi311_2; have HC311_2 := Aside0.mk hl311_2; clear hi311_2 hl311_2; replace p311 := eq_true p311; replace q311 := eq_true q311; have ea_ := Option.some.inj (hx308_2.symm.trans hx311_2); injection ea_ with ea_ en_ ec_; subst ea_; subst ec_; clear en_; have p312 : 0 ≤ (x17_6 : Int) := of_decide_eq_true qgsleuthlaw25estimatecontains_7; have q312 : x17_6 < (((rd_T53 t285 x16_5).f2).length : Int) := of_decide_eq_true qgsleuthlaw25estimatecontains_7; obtain ⟨ad312, A312_12, c312_12, A312_13, c312_13, e312, hx312_0, hx312_1, hx312_2, hx312_3, hx312_4, hx312_5, hx312_6, hx312_7, hx312_8, hx312_9, hx312_10, hx312_11, hx312_12, hx312_13, hl312_12, hi312_12, hl312_13, hi312_13⟩ := at_T58 (by repeat (first | (with_reducible exact HR311_2.out) | (with_reducible refine Kd.C_alloc ?_ _) | (with_reducible refine Kd.C_drewN ?_ _) | (with_reducible refine Kd.C_drew ?_) | exact HR311_2.out)) x17_6 p312 q312; cases e312; obtain ⟨ce312, hce312, hMe312, hcc312⟩ := Kd.V_get HL311_2.out z58 x17_6 p312 (by first | exact q312 | exact of_decide_eq_true qgsleuthlaw25estimatecontains_7 | (have e_ := (Kd.V_reads' HL311_2.out).1; omega)); obtain ⟨ua312_12, uc312_12, ua312_13, uc312_13, rfl, ul312_12, ge312_12, ul312_13, ge312_13⟩ := k58_openF hMe312; have hv312_12 := hcc312 12 _ rfl; rw [add_field _ _ 12 (by omega)] at hv312_12; replace hv312_12 := Option.some.inj (hv312_12.symm.trans hx312_12); injection hv312_12 with hva_ hvn_ hvc_; rw [hva_] at ge312_12; rw [hvc_] at ul312_12; have HL312_12 := Aside0.mk (show Kd.V k141 141 _ w.heap.size _ _ ((rd_T58 ((rd_T53 t285 x16_5).f2) x17_6).f12) from Kd.V_mk ul312_12 ge312_12); clear hva_ hvn_ hvc_ ge312_12 ul312_12; have hv312_13 := hcc312 13 _ rfl; rw [add_field _ _ 13 (by omega)] at hv312_13; replace hv312_13 := Option.some.inj (hv312_13.symm.trans hx312_13); injection hv312_13 with hva_ hvn_ hvc_; rw [hva_] at ge312_13; rw [hvc_] at ul312_13; have HL312_13 := Aside0.mk (show Kd.V k146 146 _ w.heap.size _ _ ((rd_T58 ((rd_T53 t285 x16_5).f2) x17_6).f13) from Kd.V_mk ul312_13 ge312_13); clear hva_ hvn_ hvc_ ge312_13 ul312_13; clear hcc312 hce312; have HR312_12 := Aside0.mk hi312_12; have HC312_12 := Aside0.mk hl312_12; clear hi312_12 hl312_12; have HR312_13 := Aside0.mk hi312_13; have HC312_13 := Aside0.mk hl312_13; clear hi312_13 hl312_13; replace p312 := eq_true p312; replace q312 := eq_true q312))
       go_roundg k6
       case measure => have := HJ3.out; have := HK2.out; have := HK3.out; have := HK4.out; have := HK5.out; have := HK6.out; omega
       case rel => exact ⟨(wrap64 (x15_6 + 1)), (wrap64 (x17_6 + 1)), qgsleuthlaw25estimatecontains_11, qgsleuthlaw25estimatecontains_11, H', ⟨qgsleuthlaw25estimatecontains_15⟩, ⟨qgsleuthlaw25estimatecontains_8⟩, ⟨qgsleuthlaw25estimatecontains_10⟩, ⟨qgsleuthlaw25estimatecontains_6⟩, ⟨qgsleuthlaw25estimatecontains_3⟩, ⟨qgsleuthlaw25estimatecontains_4⟩, ⟨qgsleuthlaw25estimatecontains_1⟩, ⟨qgsleuthlaw25estimatecontains_2⟩, ⟨qgsleuthlaw25estimatecontains_0⟩⟩

end Go.Proofs.Ythdifdnjodbdnaa.Q
