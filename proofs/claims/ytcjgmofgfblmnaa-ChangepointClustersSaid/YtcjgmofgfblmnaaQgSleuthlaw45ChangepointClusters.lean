-- Laid by myprint.py (a program of this session's, over the kit's printer and with functions proved by hand)
import Derived.Test.YtcjgmofgfblmnaaTy
import Derived.Test.YtcjgmofgfblmnaaPw
import Derived.Test.YtcjgmofgfblmnaaQgKnown
import Derived.Test.YtcjgmofgfblmnaaQgClu
import Derived.Test.YtcjgmofgfblmnaaQgSleuthref05Same
import Derived.Test.YtcjgmofgfblmnaaQgSrt
namespace Go.Proofs.Ytcjgmofgfblmnaa.Q
open Go.RowKit Go.Proofs.YtcjgmofgfblmnaaW.PrintWords Go.Proofs.YtcjgmofgfblmnaaW.PrintLast Go.Proofs.YtcjgmofgfblmnaaW.PrintMore
attribute [local go_sem] max2_int min2_int max_two min_two max_three min_three max_four min_four   -- for this text's walks alone
set_option linter.unusedVariables false
set_option linter.unusedSimpArgs false

abbrev T99994 : Bool := true
abbrev F99994 : Bool := false
abbrev A99994_0 : Array Bool := #[F99994, F99994, F99994, F99994, F99994, F99994, F99994, F99994, F99994, F99994]
abbrev A99994_1 : Array Bool := #[T99994, F99994, F99994, F99994, F99994, F99994, F99994, F99994, F99994, F99994]
abbrev A99994_2 : Array Bool := #[T99994, T99994, F99994, F99994, F99994, F99994, F99994, F99994, F99994, F99994]
abbrev A99994_3 : Array Bool := #[T99994, T99994, T99994, F99994, F99994, F99994, F99994, F99994, F99994, F99994]
abbrev A99994_4 : Array Bool := #[T99994, T99994, T99994, F99994, T99994, F99994, F99994, F99994, F99994, F99994]
abbrev A99994_5 : Array Bool := #[T99994, T99994, T99994, F99994, T99994, T99994, F99994, F99994, F99994, F99994]
abbrev A99994_6 : Array Bool := #[T99994, T99994, T99994, F99994, T99994, T99994, T99994, F99994, F99994, F99994]
abbrev A99994_7 : Array Bool := #[T99994, T99994, T99994, T99994, T99994, T99994, T99994, F99994, F99994, F99994]
abbrev A99994_8 : Array Bool := #[T99994, T99994, T99994, T99994, T99994, T99994, T99994, T99994, F99994, F99994]
abbrev A99994_9 : Array Bool := #[T99994, T99994, T99994, T99994, T99994, T99994, T99994, T99994, T99994, F99994]
abbrev A99994_10 : Array Bool := #[T99994, T99994, T99994, T99994, T99994, T99994, T99994, T99994, T99994, T99994]
abbrev A99994_11 : Array Bool := #[F99994, F99994, F99994, F99994, F99994, F99994, F99994, F99994, F99994, F99994, F99994, F99994, F99994, F99994, F99994, F99994]
abbrev A99994_12 : Array Bool := #[T99994, F99994, F99994, F99994, F99994, F99994, F99994, F99994, F99994, F99994, F99994, F99994, F99994, F99994, F99994, F99994]
abbrev A99994_13 : Array Bool := #[T99994, T99994, F99994, F99994, F99994, F99994, F99994, F99994, F99994, F99994, F99994, F99994, F99994, F99994, F99994, F99994]
abbrev A99994_14 : Array Bool := #[T99994, T99994, T99994, F99994, F99994, F99994, F99994, F99994, F99994, F99994, F99994, F99994, F99994, F99994, F99994, F99994]
abbrev A99994_15 : Array Bool := #[T99994, T99994, T99994, T99994, F99994, F99994, F99994, F99994, F99994, F99994, F99994, F99994, F99994, F99994, F99994, F99994]
abbrev A99994_16 : Array Bool := #[T99994, T99994, T99994, T99994, T99994, F99994, F99994, F99994, F99994, F99994, F99994, F99994, F99994, F99994, F99994, F99994]
abbrev A99994_17 : Array Bool := #[T99994, T99994, T99994, T99994, T99994, T99994, F99994, F99994, F99994, F99994, F99994, F99994, F99994, F99994, F99994, F99994]
abbrev A99994_18 : Array Bool := #[T99994, T99994, T99994, T99994, T99994, T99994, T99994, F99994, F99994, F99994, F99994, F99994, F99994, F99994, F99994, F99994]
abbrev A99994_19 : Array Bool := #[T99994, T99994, T99994, T99994, T99994, T99994, T99994, T99994, F99994, F99994, F99994, F99994, F99994, F99994, F99994, F99994]
abbrev A99994_20 : Array Bool := #[T99994, T99994, T99994, T99994, T99994, T99994, T99994, T99994, T99994, F99994, F99994, F99994, F99994, F99994, F99994, F99994]
abbrev A99994_21 : Array Bool := #[T99994, T99994, T99994, T99994, T99994, T99994, T99994, T99994, T99994, T99994, F99994, F99994, F99994, F99994, F99994, F99994]
abbrev A99994_22 : Array Bool := #[T99994, T99994, T99994, T99994, T99994, T99994, T99994, T99994, T99994, T99994, T99994, F99994, F99994, F99994, F99994, F99994]
abbrev A99994_23 : Array Bool := #[T99994, T99994, T99994, T99994, T99994, T99994, T99994, T99994, T99994, T99994, T99994, T99994, F99994, F99994, F99994, F99994]
abbrev A99994_24 : Array Bool := #[T99994, T99994, T99994, T99994, T99994, T99994, T99994, T99994, T99994, T99994, T99994, T99994, T99994, F99994, F99994, F99994]
abbrev A99994_25 : Array Bool := #[T99994, T99994, T99994, T99994, T99994, T99994, T99994, T99994, T99994, T99994, T99994, T99994, T99994, T99994, F99994, F99994]
abbrev A99994_26 : Array Bool := #[T99994, T99994, T99994, T99994, T99994, T99994, T99994, T99994, T99994, T99994, T99994, T99994, T99994, T99994, T99994, F99994]
abbrev A99994_27 : Array Bool := #[T99994, T99994, T99994, T99994, T99994, T99994, T99994, T99994, T99994, T99994, T99994, T99994, T99994, T99994, T99994, T99994]
abbrev A99994_28 : Array Bool := #[T99994, T99994, T99994, T99994, T99994, T99994, F99994, T99994, F99994, F99994, F99994, F99994, F99994, F99994, F99994, F99994]
abbrev A99994_29 : Array Bool := #[T99994, T99994, T99994, T99994, T99994, T99994, F99994, T99994, T99994, F99994, F99994, F99994, F99994, F99994, F99994, F99994]
abbrev A99994_30 : Array Bool := #[T99994, T99994, T99994, T99994, T99994, T99994, F99994, T99994, T99994, T99994, F99994, F99994, F99994, F99994, F99994, F99994]
abbrev A99994_31 : Array Bool := #[T99994, T99994, T99994, T99994, T99994, T99994, F99994, T99994, T99994, T99994, T99994, F99994, F99994, F99994, F99994, F99994]
abbrev A99994_32 : Array Bool := #[T99994, T99994, T99994, T99994, T99994, T99994, F99994, T99994, T99994, T99994, T99994, F99994, F99994, T99994, F99994, F99994]
abbrev A99994_33 : Array Bool := #[T99994, T99994, T99994, T99994, T99994, T99994, T99994, T99994, T99994, T99994, T99994, F99994, F99994, T99994, F99994, F99994]
abbrev A99994_34 : Array Bool := #[T99994, T99994, T99994, T99994, T99994, T99994, T99994, T99994, T99994, T99994, T99994, T99994, F99994, T99994, F99994, F99994]
abbrev A99994_35 : Array Bool := #[T99994, T99994, T99994, T99994, T99994, T99994, T99994, F99994, T99994, F99994, F99994, F99994, F99994, F99994, F99994, F99994]
abbrev A99994_36 : Array Bool := #[T99994, T99994, T99994, T99994, T99994, T99994, T99994, F99994, T99994, T99994, F99994, F99994, F99994, F99994, F99994, F99994]
abbrev A99994_37 : Array Bool := #[T99994, T99994, T99994, T99994, T99994, T99994, T99994, F99994, T99994, T99994, T99994, F99994, F99994, F99994, F99994, F99994]
theorem qgsleuthlaw45changepointclusters_0 {p : Prop} (h : p := by repeat (first | (with_reducible first | exact HB.out | apply below_alloc | apply pw_below_drewN | apply below_drew1) | exact HB.out)) : p := h
theorem qgsleuthlaw45changepointclusters_1 {p : Prop} (h : p := by first | (with_reducible assumption) | assumption) : p := h
theorem qgsleuthlaw45changepointclusters_2 {p : Prop} (h : p := by (with_reducible repeat (first | apply Kd.R_alloc | apply Kd.R_drewN | apply Kd.R_drew)); exact HO_10.out) : p := h
theorem qgsleuthlaw45changepointclusters_3 {p : Prop} (h : p := by (try simp only [List.map_toArray, List.map_cons, List.map_nil]); first | done | rfl | (simp only [List.length_drop, List.length_take]; rfl)) : p := h
theorem qgsleuthlaw45changepointclusters_4 {p : Prop} (h : p := by (with_reducible repeat (first | apply Kd.S_alloc | apply Kd.S_drewN | apply Kd.S_drew)); exact HO_9.out) : p := h
theorem qgsleuthlaw45changepointclusters_5 {p : Prop} (h : p := by first | rfl | (simp [errW_none, errW_some] <;> rfl) | (simp [*, errW_none, errW_some] <;> rfl)) : p := h
theorem qgsleuthlaw45changepointclusters_6 {p : Prop} (h : p := by first | rfl | (simp; done) | (simp [*]; done)) : p := h
theorem qgsleuthlaw45changepointclusters_7 {p : Prop} (h : p := by repeat (first | exact (by repeat (first | (with_reducible exact HR461_0.out) | (with_reducible refine Kd.C_alloc ?_ _) | (with_reducible refine Kd.C_drewN ?_ _) | (with_reducible refine Kd.C_drew ?_) | exact HR461_0.out)) | (with_reducible refine Kd.C_alloc ?_ _) | (with_reducible refine Kd.C_drewN ?_ _) | (with_reducible refine Kd.C_drew ?_))) : p := h
/-! ### sleuthlaw45_ChangepointClusters: function 10 -/
mutual
def sleuthlaw45_ChangepointClusters.j0 : Nat → List Int → Int → Bool → Option (Bool)
 | 0, _, _, _ => none
 | k + 1, x0, x1, x20 => if x20 = true then ((sleuthlaw45_known.f k).bind fun t432 => (some t432)) else ((changepoint_Clusters.f k x0 x1).bind fun bt => (if x1 ≥ 0 then (sleuthlaw45_ChangepointClusters.j1 k x0 x1 bt.1 bt.2 (decide (x1 ≤ 1048576))) else (sleuthlaw45_ChangepointClusters.j1 k x0 x1 bt.1 bt.2 false)))
def sleuthlaw45_ChangepointClusters.j1 : Nat → List Int → Int → List (List Int) → Int → Bool → Option (Bool)
 | 0, _, _, _, _, _ => none
 | k + 1, x0, x1, x5, x6, x7 => sleuthlaw45_ChangepointClusters.l0 k x0 x1 x5 x6 x7 0
def sleuthlaw45_ChangepointClusters.l0 : Nat → List Int → Int → List (List Int) → Int → Bool → Int → Option (Bool)
 | 0, _, _, _, _, _, _ => none
 | k + 1, x0, x1, x5, x6, x7, x8 => if x8 < (x0.length : Int) then (if x7 = true then (if 0 ≤ x8 then (if (rd x0 x8) ≥ 0 then (sleuthlaw45_ChangepointClusters.l0 k x0 x1 x5 x6 (decide ((rd x0 x8) ≤ 1048576)) (wrap64 (x8 + 1))) else (sleuthlaw45_ChangepointClusters.l0 k x0 x1 x5 x6 false (wrap64 (x8 + 1)))) else (none)) else (sleuthlaw45_ChangepointClusters.l0 k x0 x1 x5 x6 false (wrap64 (x8 + 1)))) else (if x7 = true then ((sleuthref05_Sorted.f k x0).bind fun t435 => (sleuthlaw45_ChangepointClusters.l1 k x1 x5 x6 ([] : List (List Int)) t435 0)) else (if x6 = 2 then (some ((x5.length : Int) == 0)) else (some false)))
def sleuthlaw45_ChangepointClusters.l1 : Nat → Int → List (List Int) → Int → List (List Int) → List Int → Int → Option (Bool)
 | 0, _, _, _, _, _, _ => none
 | k + 1, x1, x5, x6, x9, x10, x11 => if x11 < (x10.length : Int) then (if x11 > 0 then (if 0 ≤ x11 then (if 0 ≤ (wrap64 (x11 - 1)) then (if (wrap64 (x11 - 1)) < (x10.length : Int) then (if (wrap64 ((rd x10 x11) - (rd x10 (wrap64 (x11 - 1))))) ≤ x1 then (if 0 ≤ (wrap64 ((x9.length : Int) - 1)) then (if (wrap64 ((x9.length : Int) - 1)) < (x9.length : Int) then (if (rd_L2 x9 (wrap64 ((x9.length : Int) - 1))).length < 17592186044416 then (sleuthlaw45_ChangepointClusters.l1 k x1 x5 x6 (x9.set ((wrap64 ((x9.length : Int) - 1)) : Int).toNat ((rd_L2 x9 (wrap64 ((x9.length : Int) - 1))) ++ [rd x10 x11])) x10 (wrap64 (x11 + 1))) else (none)) else (none)) else (none)) else (if x9.length < 5864062014805 then (sleuthlaw45_ChangepointClusters.l1 k x1 x5 x6 (x9 ++ [(([rd x10 x11] : List Int))]) x10 (wrap64 (x11 + 1))) else (none))) else (none)) else (none)) else (none)) else (if 0 ≤ x11 then (if x9.length < 5864062014805 then (sleuthlaw45_ChangepointClusters.l1 k x1 x5 x6 (x9 ++ [(([rd x10 x11] : List Int))]) x10 (wrap64 (x11 + 1))) else (none)) else (none))) else (if x6 = 0 then (sleuthlaw45_ChangepointClusters.j4 k x5 x9 ((x5.length : Int) != (x9.length : Int))) else (sleuthlaw45_ChangepointClusters.j4 k x5 x9 true))
def sleuthlaw45_ChangepointClusters.j4 : Nat → List (List Int) → List (List Int) → Bool → Option (Bool)
 | 0, _, _, _ => none
 | k + 1, x5, x9, x121 => if x121 = true then (some false) else (sleuthlaw45_ChangepointClusters.l2 k x5 x9 0)
def sleuthlaw45_ChangepointClusters.l2 : Nat → List (List Int) → List (List Int) → Int → Option (Bool)
 | 0, _, _, _ => none
 | k + 1, x5, x9, x13 => if x13 < (x5.length : Int) then (if 0 ≤ x13 then (if x13 < (x9.length : Int) then ((sleuthref05_Same.f k (rd_L2 x5 x13) (rd_L2 x9 x13)).bind fun t462 => (if t462 = true then (sleuthlaw45_ChangepointClusters.l2 k x5 x9 (wrap64 (x13 + 1))) else (some false))) else (none)) else (none)) else (some true)
end
def sleuthlaw45_ChangepointClusters.f (k : Nat) (l0 : List Int) (a1 : Int) : Option (Bool) := (sleuthlaw45_known.f k).bind fun t431 => (if t431 = true then (sleuthlaw45_ChangepointClusters.j0 k l0 a1 (decide ((l0.length : Int) > 20))) else (sleuthlaw45_ChangepointClusters.j0 k l0 a1 true))
theorem sleuthlaw45_ChangepointClusters.mono_l : ∀ k, (∀ y0 y1 y2, LeO (sleuthlaw45_ChangepointClusters.j0 k y0 y1 y2) (sleuthlaw45_ChangepointClusters.j0 (k + 1) y0 y1 y2)) ∧ (∀ y0 y1 y2 y3 y4, LeO (sleuthlaw45_ChangepointClusters.j1 k y0 y1 y2 y3 y4) (sleuthlaw45_ChangepointClusters.j1 (k + 1) y0 y1 y2 y3 y4)) ∧ (∀ y0 y1 y2 y3 y4 y5, LeO (sleuthlaw45_ChangepointClusters.l0 k y0 y1 y2 y3 y4 y5) (sleuthlaw45_ChangepointClusters.l0 (k + 1) y0 y1 y2 y3 y4 y5)) ∧ (∀ y0 y1 y2 y3 y4 y5, LeO (sleuthlaw45_ChangepointClusters.l1 k y0 y1 y2 y3 y4 y5) (sleuthlaw45_ChangepointClusters.l1 (k + 1) y0 y1 y2 y3 y4 y5)) ∧ (∀ y0 y1 y2, LeO (sleuthlaw45_ChangepointClusters.j4 k y0 y1 y2) (sleuthlaw45_ChangepointClusters.j4 (k + 1) y0 y1 y2)) ∧ (∀ y0 y1 y2, LeO (sleuthlaw45_ChangepointClusters.l2 k y0 y1 y2) (sleuthlaw45_ChangepointClusters.l2 (k + 1) y0 y1 y2))
 | 0 => ⟨fun _ _ _ r h => by simp [sleuthlaw45_ChangepointClusters.j0] at h, fun _ _ _ _ _ r h => by simp [sleuthlaw45_ChangepointClusters.j1] at h, fun _ _ _ _ _ _ r h => by simp [sleuthlaw45_ChangepointClusters.l0] at h, fun _ _ _ _ _ _ r h => by simp [sleuthlaw45_ChangepointClusters.l1] at h, fun _ _ _ r h => by simp [sleuthlaw45_ChangepointClusters.j4] at h, fun _ _ _ r h => by simp [sleuthlaw45_ChangepointClusters.l2] at h⟩
 | k + 1 => by
  obtain ⟨ih0, ih1, ih2, ih3, ih4, ih5⟩ := sleuthlaw45_ChangepointClusters.mono_l k
  refine ⟨?_, ?_, ?_, ?_, ?_, ?_⟩
  ·intro y0 y1 y2
   unfold sleuthlaw45_ChangepointClusters.j0
   repeat' first
   | (with_reducible exact ih0 _ _ _)
   | (with_reducible exact ih1 _ _ _ _ _)
   | (with_reducible exact ih2 _ _ _ _ _ _)
   | (with_reducible exact ih3 _ _ _ _ _ _)
   | (with_reducible exact ih4 _ _ _)
   | (with_reducible exact ih5 _ _ _)
   | (with_reducible exact sleuthlaw45_known.mono _)
   | (with_reducible exact changepoint_Clusters.mono _ _ _)
   | (with_reducible exact sleuthref05_Same.mono _ _ _)
   | (with_reducible exact sleuthref05_Sorted.mono _ _)
   | (with_reducible exact LeO.refl _)
   | (with_reducible exact LeO.none _)
   | (with_reducible refine LeO.ite ?_ ?_)
   | (with_reducible refine LeO.bind ?_ (fun _ => ?_))
   | exact ih0 _ _ _
   | exact ih1 _ _ _ _ _
   | exact ih2 _ _ _ _ _ _
   | exact ih3 _ _ _ _ _ _
   | exact ih4 _ _ _
   | exact ih5 _ _ _
   | exact sleuthlaw45_known.mono _
   | exact sleuthref05_Same.mono _ _ _
   | exact sleuthref05_Sorted.mono _ _
   | exact LeO.none _
   | refine LeO.ite ?_ ?_
   | refine LeO.bind ?_ (fun _ => ?_)
  ·intro y0 y1 y2 y3 y4
   unfold sleuthlaw45_ChangepointClusters.j1
   repeat' first
   | (with_reducible exact ih0 _ _ _)
   | (with_reducible exact ih1 _ _ _ _ _)
   | (with_reducible exact ih2 _ _ _ _ _ _)
   | (with_reducible exact ih3 _ _ _ _ _ _)
   | (with_reducible exact ih4 _ _ _)
   | (with_reducible exact ih5 _ _ _)
   | (with_reducible exact sleuthlaw45_known.mono _)
   | (with_reducible exact changepoint_Clusters.mono _ _ _)
   | (with_reducible exact sleuthref05_Same.mono _ _ _)
   | (with_reducible exact sleuthref05_Sorted.mono _ _)
   | (with_reducible exact LeO.refl _)
   | (with_reducible exact LeO.none _)
   | (with_reducible refine LeO.ite ?_ ?_)
   | (with_reducible refine LeO.bind ?_ (fun _ => ?_))
   | exact ih0 _ _ _
   | exact ih1 _ _ _ _ _
   | exact ih2 _ _ _ _ _ _
   | exact ih3 _ _ _ _ _ _
   | exact ih4 _ _ _
   | exact ih5 _ _ _
   | exact sleuthlaw45_known.mono _
   | exact sleuthref05_Same.mono _ _ _
   | exact sleuthref05_Sorted.mono _ _
   | exact LeO.none _
   | refine LeO.ite ?_ ?_
   | refine LeO.bind ?_ (fun _ => ?_)
  ·intro y0 y1 y2 y3 y4 y5
   unfold sleuthlaw45_ChangepointClusters.l0
   repeat' first
   | (with_reducible exact ih0 _ _ _)
   | (with_reducible exact ih1 _ _ _ _ _)
   | (with_reducible exact ih2 _ _ _ _ _ _)
   | (with_reducible exact ih3 _ _ _ _ _ _)
   | (with_reducible exact ih4 _ _ _)
   | (with_reducible exact ih5 _ _ _)
   | (with_reducible exact sleuthlaw45_known.mono _)
   | (with_reducible exact changepoint_Clusters.mono _ _ _)
   | (with_reducible exact sleuthref05_Same.mono _ _ _)
   | (with_reducible exact sleuthref05_Sorted.mono _ _)
   | (with_reducible exact LeO.refl _)
   | (with_reducible exact LeO.none _)
   | (with_reducible refine LeO.ite ?_ ?_)
   | (with_reducible refine LeO.bind ?_ (fun _ => ?_))
   | exact ih0 _ _ _
   | exact ih1 _ _ _ _ _
   | exact ih2 _ _ _ _ _ _
   | exact ih3 _ _ _ _ _ _
   | exact ih4 _ _ _
   | exact ih5 _ _ _
   | exact sleuthlaw45_known.mono _
   | exact sleuthref05_Same.mono _ _ _
   | exact sleuthref05_Sorted.mono _ _
   | exact LeO.none _
   | refine LeO.ite ?_ ?_
   | refine LeO.bind ?_ (fun _ => ?_)
  ·intro y0 y1 y2 y3 y4 y5
   unfold sleuthlaw45_ChangepointClusters.l1
   repeat' first
   | (with_reducible exact ih0 _ _ _)
   | (with_reducible exact ih1 _ _ _ _ _)
   | (with_reducible exact ih2 _ _ _ _ _ _)
   | (with_reducible exact ih3 _ _ _ _ _ _)
   | (with_reducible exact ih4 _ _ _)
   | (with_reducible exact ih5 _ _ _)
   | (with_reducible exact sleuthlaw45_known.mono _)
   | (with_reducible exact changepoint_Clusters.mono _ _ _)
   | (with_reducible exact sleuthref05_Same.mono _ _ _)
   | (with_reducible exact sleuthref05_Sorted.mono _ _)
   | (with_reducible exact LeO.refl _)
   | (with_reducible exact LeO.none _)
   | (with_reducible refine LeO.ite ?_ ?_)
   | (with_reducible refine LeO.bind ?_ (fun _ => ?_))
   | exact ih0 _ _ _
   | exact ih1 _ _ _ _ _
   | exact ih2 _ _ _ _ _ _
   | exact ih3 _ _ _ _ _ _
   | exact ih4 _ _ _
   | exact ih5 _ _ _
   | exact sleuthlaw45_known.mono _
   | exact sleuthref05_Same.mono _ _ _
   | exact sleuthref05_Sorted.mono _ _
   | exact LeO.none _
   | refine LeO.ite ?_ ?_
   | refine LeO.bind ?_ (fun _ => ?_)
  ·intro y0 y1 y2
   unfold sleuthlaw45_ChangepointClusters.j4
   repeat' first
   | (with_reducible exact ih0 _ _ _)
   | (with_reducible exact ih1 _ _ _ _ _)
   | (with_reducible exact ih2 _ _ _ _ _ _)
   | (with_reducible exact ih3 _ _ _ _ _ _)
   | (with_reducible exact ih4 _ _ _)
   | (with_reducible exact ih5 _ _ _)
   | (with_reducible exact sleuthlaw45_known.mono _)
   | (with_reducible exact changepoint_Clusters.mono _ _ _)
   | (with_reducible exact sleuthref05_Same.mono _ _ _)
   | (with_reducible exact sleuthref05_Sorted.mono _ _)
   | (with_reducible exact LeO.refl _)
   | (with_reducible exact LeO.none _)
   | (with_reducible refine LeO.ite ?_ ?_)
   | (with_reducible refine LeO.bind ?_ (fun _ => ?_))
   | exact ih0 _ _ _
   | exact ih1 _ _ _ _ _
   | exact ih2 _ _ _ _ _ _
   | exact ih3 _ _ _ _ _ _
   | exact ih4 _ _ _
   | exact ih5 _ _ _
   | exact sleuthlaw45_known.mono _
   | exact sleuthref05_Same.mono _ _ _
   | exact sleuthref05_Sorted.mono _ _
   | exact LeO.none _
   | refine LeO.ite ?_ ?_
   | refine LeO.bind ?_ (fun _ => ?_)
  ·intro y0 y1 y2
   unfold sleuthlaw45_ChangepointClusters.l2
   repeat' first
   | (with_reducible exact ih0 _ _ _)
   | (with_reducible exact ih1 _ _ _ _ _)
   | (with_reducible exact ih2 _ _ _ _ _ _)
   | (with_reducible exact ih3 _ _ _ _ _ _)
   | (with_reducible exact ih4 _ _ _)
   | (with_reducible exact ih5 _ _ _)
   | (with_reducible exact sleuthlaw45_known.mono _)
   | (with_reducible exact changepoint_Clusters.mono _ _ _)
   | (with_reducible exact sleuthref05_Same.mono _ _ _)
   | (with_reducible exact sleuthref05_Sorted.mono _ _)
   | (with_reducible exact LeO.refl _)
   | (with_reducible exact LeO.none _)
   | (with_reducible refine LeO.ite ?_ ?_)
   | (with_reducible refine LeO.bind ?_ (fun _ => ?_))
   | exact ih0 _ _ _
   | exact ih1 _ _ _ _ _
   | exact ih2 _ _ _ _ _ _
   | exact ih3 _ _ _ _ _ _
   | exact ih4 _ _ _
   | exact ih5 _ _ _
   | exact sleuthlaw45_known.mono _
   | exact sleuthref05_Same.mono _ _ _
   | exact sleuthref05_Sorted.mono _ _
   | exact LeO.none _
   | refine LeO.ite ?_ ?_
   | refine LeO.bind ?_ (fun _ => ?_)
theorem sleuthlaw45_ChangepointClusters.mono : ∀ a0 a1 k, LeO (sleuthlaw45_ChangepointClusters.f k a0 a1) (sleuthlaw45_ChangepointClusters.f (k + 1) a0 a1) := by
 intro a0 a1 k
 obtain ⟨ih0, ih1, ih2, ih3, ih4, ih5⟩ := sleuthlaw45_ChangepointClusters.mono_l k
 unfold sleuthlaw45_ChangepointClusters.f
 repeat' first
   | (with_reducible exact ih0 _ _ _)
   | (with_reducible exact ih1 _ _ _ _ _)
   | (with_reducible exact ih2 _ _ _ _ _ _)
   | (with_reducible exact ih3 _ _ _ _ _ _)
   | (with_reducible exact ih4 _ _ _)
   | (with_reducible exact ih5 _ _ _)
   | (with_reducible exact sleuthlaw45_known.mono _)
   | (with_reducible exact changepoint_Clusters.mono _ _ _)
   | (with_reducible exact sleuthref05_Same.mono _ _ _)
   | (with_reducible exact sleuthref05_Sorted.mono _ _)
   | (with_reducible exact LeO.refl _)
   | (with_reducible exact LeO.none _)
   | (with_reducible refine LeO.ite ?_ ?_)
   | (with_reducible refine LeO.bind ?_ (fun _ => ?_))
   | exact ih0 _ _ _
   | exact ih1 _ _ _ _ _
   | exact ih2 _ _ _ _ _ _
   | exact ih3 _ _ _ _ _ _
   | exact ih4 _ _ _
   | exact ih5 _ _ _
   | exact sleuthlaw45_known.mono _
   | exact sleuthref05_Same.mono _ _ _
   | exact sleuthref05_Sorted.mono _ _
   | exact LeO.none _
   | refine LeO.ite ?_ ?_
   | refine LeO.bind ?_ (fun _ => ?_)
def sleuthlaw45_ChangepointClusters.T17 : Bool × List (List Nat × List Nat) := (true, [([], []), ([0], [0]), ([1], [1]), ([2], [2]), ([2], [2]), ([3, 4, 2], [2, 3, 4]), ([5, 2], [2, 5]), ([2], [2]), ([2], [2]), ([8, 2], [2, 8]), ([7, 9, 2], [2, 7, 9]), ([10, 2], [2, 10]), ([6, 11, 2], [2, 6, 11]), ([2], [2]), ([12, 13, 2], [2, 12, 13]), ([2, 14], [2, 14])])
def sleuthlaw45_ChangepointClusters.B17 : List Nat := [0, 1, 3, 7, 7, 31, 63, 7, 7, 263, 903, 1927, 4095, 7, 16383, 32767]
theorem sleuthlaw45_ChangepointClusters.tab17 : rtab .any (opsOf Try.f10 17) = sleuthlaw45_ChangepointClusters.T17 := by kernel_rfl
theorem sleuthlaw45_ChangepointClusters.bits17 : waitsOk sleuthlaw45_ChangepointClusters.T17.2 sleuthlaw45_ChangepointClusters.B17 = true := by kernel_rfl
def sleuthlaw45_ChangepointClusters.T18 : Bool × List (List Nat × List Nat) := (true, [([], []), ([], []), ([1], [1]), ([], []), ([], []), ([4], [4]), ([3, 5], [3, 5]), ([6], [6]), ([], []), ([], []), ([8, 9], [8, 9]), ([10], [10]), ([11], [11]), ([7, 12], [7, 12]), ([0, 2, 0, 1, 2, 3, 4, 5, 6, 7, 8, 9, 10, 11, 12, 13], [0, 2]), ([14, 13, 13, 0, 1, 2, 3, 4, 5, 6, 7, 8, 9, 10, 11, 12, 13], [13, 14])])
def sleuthlaw45_ChangepointClusters.B18 : List Nat := [0, 0, 2, 0, 0, 16, 56, 120, 0, 0, 768, 1792, 3840, 8184, 16383, 32767]
theorem sleuthlaw45_ChangepointClusters.tab18 : rtab .any (opsOf Try.f10 18) = sleuthlaw45_ChangepointClusters.T18 := by kernel_rfl
theorem sleuthlaw45_ChangepointClusters.bits18 : waitsOk sleuthlaw45_ChangepointClusters.T18.2 sleuthlaw45_ChangepointClusters.B18 = true := by kernel_rfl
def sleuthlaw45_ChangepointClusters.T25 : Bool × List (List Nat × List Nat) := (true, [([], []), ([], []), ([0, 1], [0, 1]), ([2], [2]), ([], []), ([], []), ([4, 5], [4, 5]), ([6], [6]), ([3, 7], [3, 7]), ([8], [8])])
def sleuthlaw45_ChangepointClusters.B25 : List Nat := [0, 0, 3, 7, 0, 0, 48, 112, 255, 511]
theorem sleuthlaw45_ChangepointClusters.tab25 : rtab .any (opsOf Try.f10 25) = sleuthlaw45_ChangepointClusters.T25 := by kernel_rfl
theorem sleuthlaw45_ChangepointClusters.bits25 : waitsOk sleuthlaw45_ChangepointClusters.T25.2 sleuthlaw45_ChangepointClusters.B25 = true := by kernel_rfl
set_option maxHeartbeats 8000000 in
set_option maxRecDepth 100000 in
theorem sleuthlaw45_ChangepointClusters.calls (k : Nat) (A0 : Option Addr) (c0 : Nat) (l0 : List Int) (a1 : Int) (r : Bool) (w : World) (hr0 : Kd.C (Kd.int .i64) w A0 l0.length l0) (hc0 : l0.length ≤ c0) (h : sleuthlaw45_ChangepointClusters.f k l0 a1 = some r) :
  Calls Try.prog 10 #[.slice A0 l0.length c0, .int .i64 a1] w fun e w' => e = .returned (.bool r) ∧ Below w.heap.size w w' := by
 have HR0 := Aside0.mk hr0
 have HC0 := Aside0.mk hc0
 clear hr0 hc0
 have HB := Aside0.mk (Below.refl w.heap.size w)
 have H : ((sleuthlaw45_known.f k).bind fun t431 => (if t431 = true then (sleuthlaw45_ChangepointClusters.j0 k l0 a1 (decide ((l0.length : Int) > 20))) else (sleuthlaw45_ChangepointClusters.j0 k l0 a1 true))) = some r := h
 clear h
 have HC5 := Aside0.mk H
 clear H
 go_enter Try.func10, Try.ntmps10
 go_upto_region 1 with (fail)
 go_cut [20] (fun v20 wc => ∃ (kq : Nat) (x20_4 : Bool), v20 = .bool x20_4 ∧ Aside0 (sleuthlaw45_ChangepointClusters.j0 kq l0 a1 x20_4 = some r) ∧ Aside0 (kq ≤ k) ∧ Aside0 (Below w.heap.size w wc))
 case first =>
  have H := HC5.out
  clear HC5
  replace H := Option.bind_eq_some_iff.mp H
  obtain ⟨t431, A60, H⟩ := H
  replace H : (if t431 = true then (sleuthlaw45_ChangepointClusters.j0 k l0 a1 (decide ((l0.length : Int) > 20))) else (sleuthlaw45_ChangepointClusters.j0 k l0 a1 true)) = some r := H
  have A6 := Aside0.mk A60
  clear A60
  by_cases c7 : t431 = true
  ·subst c7
   have H1 : (sleuthlaw45_ChangepointClusters.j0 k l0 a1 (decide ((l0.length : Int) > 20))) = some r := by rw [if_pos rfl] at H; exact H
   clear H
   have H := H1
   clear H1
   have H' := Aside0.mk H
   clear H
   go_wp2_with (first | ((with_reducible refine gate_callee (f := 13) rfl ?_); refine goesL_ (some 14) rfl rfl Try.func13 (by kernel_rfl) rfl #[] rfl qgsleuthlaw45changepointclusters_3 ?_; (with_reducible refine (sleuthlaw45_known.calls k  true _ A6.out).mono ?_); rintro e w8 ⟨rfl, hb⟩; refine ⟨_, rfl, ?_⟩; have n0_ := Aside0.mk (below_step qgsleuthlaw45changepointclusters_0 hb); clear HB; have HB := n0_; clear n0_; (try clear hb); (try clear hb2); (try clear hk); (try clear hi)))
   go_meet
   case rel => exact ⟨_, (decide ((l0.length : Int) > 20)), qgsleuthlaw45changepointclusters_6, H', ⟨by first | omega | exact Nat.le_refl _⟩, ⟨qgsleuthlaw45changepointclusters_0⟩⟩
  replace c7 := Bool.eq_false_iff.mpr c7
  subst c7
  have H1 : (sleuthlaw45_ChangepointClusters.j0 k l0 a1 true) = some r := by rw [if_neg (show ¬ (false = true) by decide)] at H; exact H
  clear H
  have H := H1
  clear H1
  have H' := Aside0.mk H
  clear H
  go_wp2_with (first | ((with_reducible refine gate_callee (f := 13) rfl ?_); refine goesL_ (some 14) rfl rfl Try.func13 (by kernel_rfl) rfl #[] rfl qgsleuthlaw45changepointclusters_3 ?_; (with_reducible refine (sleuthlaw45_known.calls k  false _ A6.out).mono ?_); rintro e w9 ⟨rfl, hb⟩; refine ⟨_, rfl, ?_⟩; have n0_ := Aside0.mk (below_step qgsleuthlaw45changepointclusters_0 hb); clear HB; have HB := n0_; clear n0_; (try clear hb); (try clear hb2); (try clear hk); (try clear hi)))
  go_meet
  case rel => exact ⟨_, (true), qgsleuthlaw45changepointclusters_6, H', ⟨by first | omega | exact Nat.le_refl _⟩, ⟨qgsleuthlaw45changepointclusters_0⟩⟩
 clear HC5
 try clear c1
 try clear c2
 try clear p2
 try clear c7
 obtain ⟨kq, x20_4, rfl, HA, HJ4, HB⟩ := hcut
 cases kq with
 | zero => exact absurd HA.out (by simp [sleuthlaw45_ChangepointClusters.j0])
 | succ kj4 =>
  have H := HA.out
  clear HA
  simp only [sleuthlaw45_ChangepointClusters.j0] at H
  by_cases c10 : x20_4 = true
  ·subst c10
   have H1 : ((sleuthlaw45_known.f kj4).bind fun t432 => (some t432)) = some r := by rw [if_pos rfl] at H; exact H
   clear H
   have H := H1
   clear H1
   replace H := Option.bind_eq_some_iff.mp H
   obtain ⟨t432, A110, H⟩ := H
   replace H : (some t432) = some r := H
   have A11 := Aside0.mk A110
   clear A110
   obtain rfl := Option.some.inj H
   go_wp2_with (first | ((with_reducible refine gate_callee (f := 13) rfl ?_); refine goesL_ (some 21) rfl rfl Try.func13 (by kernel_rfl) rfl #[] rfl qgsleuthlaw45changepointclusters_3 ?_; (with_reducible refine (sleuthlaw45_known.calls kj4  t432 _ A11.out).mono ?_); rintro e w12 ⟨rfl, hb⟩; refine ⟨_, rfl, ?_⟩; have n0_ := Aside0.mk (below_step qgsleuthlaw45changepointclusters_0 hb); clear HB; have HB := n0_; clear n0_; (try clear hb); (try clear hb2); (try clear hk); (try clear hi)))
   go_ret
   exact ⟨qgsleuthlaw45changepointclusters_5, qgsleuthlaw45changepointclusters_0⟩
  replace c10 := Bool.eq_false_iff.mpr c10
  subst c10
  have H1 : ((changepoint_Clusters.f kj4 l0 a1).bind fun bt => (if a1 ≥ 0 then (sleuthlaw45_ChangepointClusters.j1 kj4 l0 a1 bt.1 bt.2 (decide (a1 ≤ 1048576))) else (sleuthlaw45_ChangepointClusters.j1 kj4 l0 a1 bt.1 bt.2 false))) = some r := by rw [if_neg (show ¬ (false = true) by decide)] at H; exact H
  clear H
  have H := H1
  clear H1
  replace H := Option.bind_eq_some_iff.mp H
  obtain ⟨⟨l2, a3⟩, A120, H⟩ := H
  have A12 := Aside0.mk A120
  clear A120
  replace H : (if a1 ≥ 0 then (sleuthlaw45_ChangepointClusters.j1 kj4 l0 a1 l2 a3 (decide (a1 ≤ 1048576))) else (sleuthlaw45_ChangepointClusters.j1 kj4 l0 a1 l2 a3 false)) = some r := H
  have HC13 := Aside0.mk H
  clear H
  go_upto_region 4 with (first | ((with_reducible refine gate_callee (f := 27) rfl ?_); refine goesL_ (some 25) rfl rfl Try.func27 (by kernel_rfl) rfl #[.slice A0 l0.length c0, .int .i64 a1] rfl qgsleuthlaw45changepointclusters_3 ?_; (with_reducible refine (changepoint_Clusters.calls kj4 _ _ l0 a1 l2 a3 _ ?side1 ?side2 A12.out).mono ?_); (case side1 => repeat (first | exact (Kd.C_below HR0.out qgsleuthlaw45changepointclusters_0) | (with_reducible refine Kd.C_alloc ?_ _) | (with_reducible refine Kd.C_drewN ?_ _) | (with_reducible refine Kd.C_drew ?_))); (case side2 => exact HC0.out); rintro e w13 ⟨v13, rfl, ho0, hb⟩; refine ⟨_, rfl, ?_⟩; obtain ⟨A2, c2, e2⟩ := Kd.S_slice ho0; subst e2; have HR2 := Aside0.mk (Kd.S_reads' ho0).2.2; have HC2 := Aside0.mk (Kd.S_reads' ho0).2.1; have HBB := Aside0.mk (below_step qgsleuthlaw45changepointclusters_0 hb); clear ho0 hb))
  replace HR0 := Aside0.mk (Kd.C_below HR0.out HBB.out)
  clear HB
  obtain ⟨w, hww⟩ : ∃ x_, x_ = w13 := ⟨_, rfl⟩
  subst hww
  have HB := Aside0.mk (Below.refl w.heap.size w)
  go_cut [7] (fun v7 wc => ∃ (kq : Nat) (x7_12 : Bool), v7 = .bool x7_12 ∧ Aside0 (sleuthlaw45_ChangepointClusters.j1 kq l0 a1 l2 a3 x7_12 = some r) ∧ Aside0 (kq ≤ kj4) ∧ Aside0 (Below w.heap.size w wc))
  case first =>
   have H := HC13.out
   clear HC13
   by_cases c14 : a1 ≥ 0
   rotate_left
   ·rw [if_neg c14] at H
    have c14b0 : decide (0 ≤ a1) = false := decide_eq_false c14
    clear c14
    (first | rw [c14b0] | (simp only [i64_w, i32_w]; rw [c14b0]) | skip)
    have H' := Aside0.mk H
    clear H
    go_wp2
    go_meet
    case rel => exact ⟨_, (false), qgsleuthlaw45changepointclusters_6, H', ⟨by have := HJ4.out; first | omega | exact Nat.le_refl _⟩, ⟨qgsleuthlaw45changepointclusters_0⟩⟩
   rw [if_pos c14] at H
   have c14b0 : decide (0 ≤ a1) = true := decide_eq_true c14
   clear c14
   (first | rw [c14b0] | (simp only [i64_w, i32_w]; rw [c14b0]) | skip)
   have H' := Aside0.mk H
   clear H
   go_wp2
   go_meet
   case rel => exact ⟨_, (decide (a1 ≤ 1048576)), qgsleuthlaw45changepointclusters_6, H', ⟨by have := HJ4.out; first | omega | exact Nat.le_refl _⟩, ⟨qgsleuthlaw45changepointclusters_0⟩⟩
  clear HC13
  try clear c1
  try clear c2
  try clear p2
  try clear c7
  try clear c10
  try clear c13
  try clear c14
  try clear c14b0
  try clear p2
  obtain ⟨kq, x7_12, rfl, HA, HJ12, HB⟩ := hcut
  cases kq with
  | zero => exact absurd HA.out (by simp [sleuthlaw45_ChangepointClusters.j1])
  | succ kj12 =>
   have H := HA.out
   clear HA
   simp only [sleuthlaw45_ChangepointClusters.j1] at H
   have H' := Aside0.mk H
   clear H
   go_wp2
   go_loopg [7, 8] kj12 (fun kq v7 v8 w' => ∃ (x7_3 : Bool) (x8_3 : Int), v7 = .bool x7_3 ∧ v8 = .int .i64 x8_3 ∧ Aside0 (sleuthlaw45_ChangepointClusters.l0 kq l0 a1 l2 a3 x7_3 x8_3 = some r) ∧ Aside0 (kq ≤ kj12) ∧ Aside0 (Below w.heap.size w w'))
   case atStart => exact ⟨(x7_12), (0), qgsleuthlaw45changepointclusters_6, qgsleuthlaw45changepointclusters_6, H', ⟨Nat.le_refl _⟩, ⟨qgsleuthlaw45changepointclusters_0⟩⟩
   clear H'
   try clear c1
   try clear c2
   try clear p2
   try clear c7
   try clear c10
   try clear c13
   try clear c14
   try clear c14b0
   try clear p2
   obtain ⟨x7_3, x8_3, rfl, rfl, HA, HK3, HB⟩ := hrel
   cases gk with
   | zero => exact absurd HA.out (by simp [sleuthlaw45_ChangepointClusters.l0])
   | succ k3 =>
    have H := HA.out
    clear HA
    simp only [sleuthlaw45_ChangepointClusters.l0] at H
    by_cases c15 : x8_3 < (l0.length : Int)
    ·rw [if_pos c15] at H
     have c15b0 : decide (x8_3 < (l0.length : Int)) = true := decide_eq_true c15
     clear c15
     by_cases c16 : x7_3 = true
     rotate_left
     ·replace c16 := Bool.eq_false_iff.mpr c16
      subst c16
      have H1 : (sleuthlaw45_ChangepointClusters.l0 k3 l0 a1 l2 a3 false (wrap64 (x8_3 + 1))) = some r := by rw [if_neg (show ¬ (false = true) by decide)] at H; exact H
      clear H
      have H := H1
      clear H1
      have H' := Aside0.mk H
      clear H
      go_wp2
      go_roundg k3
      case measure => have := HJ4.out; have := HJ12.out; have := HK3.out; omega
      case rel => exact ⟨(false), (wrap64 (x8_3 + 1)), qgsleuthlaw45changepointclusters_6, qgsleuthlaw45changepointclusters_6, H', ⟨by have := HJ4.out; have := HJ12.out; have := HK3.out; omega⟩, ⟨qgsleuthlaw45changepointclusters_0⟩⟩
     subst c16
     have H1 : (if 0 ≤ x8_3 then (if (rd l0 x8_3) ≥ 0 then (sleuthlaw45_ChangepointClusters.l0 k3 l0 a1 l2 a3 (decide ((rd l0 x8_3) ≤ 1048576)) (wrap64 (x8_3 + 1))) else (sleuthlaw45_ChangepointClusters.l0 k3 l0 a1 l2 a3 false (wrap64 (x8_3 + 1)))) else (none)) = some r := by rw [if_pos rfl] at H; exact H
     clear H
     have H := H1
     clear H1
     by_cases c17 : 0 ≤ x8_3
     rotate_left
     ·rw [if_neg c17] at H
      exact absurd H (by simp)
     rw [if_pos c17] at H
     have c17b0 : decide (0 ≤ x8_3) = true := decide_eq_true c17
     clear c17
     by_cases c18 : (rd l0 x8_3) ≥ 0
     rotate_left
     ·rw [if_neg c18] at H
      have c18b0 : decide (0 ≤ (rd l0 x8_3)) = false := decide_eq_false c18
      clear c18
      have H' := Aside0.mk H
      clear H
      have p433 : 0 ≤ (x8_3 : Int) := of_decide_eq_true qgsleuthlaw45changepointclusters_1
      have q433 : x8_3 < (l0.length : Int) := of_decide_eq_true qgsleuthlaw45changepointclusters_1
      obtain ⟨ad433, e433, hx433_0⟩ := Kd.at_int HR0.out x8_3 p433 q433
      cases e433
      replace hx433_0 := (HB.out.cell (World.block_lt_of_cell? w _ hx433_0)).trans hx433_0
      replace p433 := eq_true p433
      replace q433 := eq_true q433
      go_wp2
      go_roundg k3
      case measure => have := HJ4.out; have := HJ12.out; have := HK3.out; omega
      case rel => exact ⟨(false), (wrap64 (x8_3 + 1)), qgsleuthlaw45changepointclusters_6, qgsleuthlaw45changepointclusters_6, H', ⟨by have := HJ4.out; have := HJ12.out; have := HK3.out; omega⟩, ⟨qgsleuthlaw45changepointclusters_0⟩⟩
     rw [if_pos c18] at H
     have c18b0 : decide (0 ≤ (rd l0 x8_3)) = true := decide_eq_true c18
     clear c18
     have H' := Aside0.mk H
     clear H
     have p433 : 0 ≤ (x8_3 : Int) := of_decide_eq_true qgsleuthlaw45changepointclusters_1
     have q433 : x8_3 < (l0.length : Int) := of_decide_eq_true qgsleuthlaw45changepointclusters_1
     obtain ⟨ad433, e433, hx433_0⟩ := Kd.at_int HR0.out x8_3 p433 q433
     cases e433
     replace hx433_0 := (HB.out.cell (World.block_lt_of_cell? w _ hx433_0)).trans hx433_0
     replace p433 := eq_true p433
     replace q433 := eq_true q433
     have p434 : 0 ≤ (x8_3 : Int) := of_decide_eq_true qgsleuthlaw45changepointclusters_1
     have q434 : x8_3 < (l0.length : Int) := of_decide_eq_true qgsleuthlaw45changepointclusters_1
     obtain ⟨ad434, e434, hx434_0⟩ := Kd.at_int HR0.out x8_3 p434 q434
     obtain rfl : ad433 = ad434 := (by injection e434)
     replace hx434_0 := (HB.out.cell (World.block_lt_of_cell? w _ hx434_0)).trans hx434_0
     replace p434 := eq_true p434
     replace q434 := eq_true q434
     go_wp2
     go_roundg k3
     case measure => have := HJ4.out; have := HJ12.out; have := HK3.out; omega
     case rel => exact ⟨(decide ((rd l0 x8_3) ≤ 1048576)), (wrap64 (x8_3 + 1)), qgsleuthlaw45changepointclusters_6, qgsleuthlaw45changepointclusters_6, H', ⟨by have := HJ4.out; have := HJ12.out; have := HK3.out; omega⟩, ⟨qgsleuthlaw45changepointclusters_0⟩⟩
    rw [if_neg c15] at H
    have c15b0 : decide (x8_3 < (l0.length : Int)) = false := decide_eq_false c15
    clear c15
    by_cases c19 : x7_3 = true
    rotate_left
    ·replace c19 := Bool.eq_false_iff.mpr c19
     subst c19
     have H1 : (if a3 = 2 then (some ((l2.length : Int) == 0)) else (some false)) = some r := by rw [if_neg (show ¬ (false = true) by decide)] at H; exact H
     clear H
     have H := H1
     clear H1
     by_cases c74 : a3 = 2
     rotate_left
     ·rw [if_neg c74] at H
      have c74b0 : (a3 == 2) = false := beq_eq_false_iff_ne.mpr c74
      have c74b1 : (a3 != 2) = true := bne_iff_ne.mpr c74
      obtain rfl := Option.some.inj H
      go_wp2
      go_ret
      exact ⟨qgsleuthlaw45changepointclusters_5, below_step HBB.out qgsleuthlaw45changepointclusters_0⟩
     rw [if_pos c74] at H
     have c74b0 : (a3 == 2) = true := beq_iff_eq.mpr c74
     have c74b1 : (a3 != 2) = false := bne_eq_false_iff_eq.mpr c74
     clear c74
     obtain rfl := Option.some.inj H
     go_wp2
     go_ret
     exact ⟨qgsleuthlaw45changepointclusters_5, below_step HBB.out qgsleuthlaw45changepointclusters_0⟩
    subst c19
    have H1 : ((sleuthref05_Sorted.f k3 l0).bind fun t435 => (sleuthlaw45_ChangepointClusters.l1 k3 a1 l2 a3 ([] : List (List Int)) t435 0)) = some r := by rw [if_pos rfl] at H; exact H
    clear H
    have H := H1
    clear H1
    replace H := Option.bind_eq_some_iff.mp H
    obtain ⟨t435, A200, H⟩ := H
    replace H : (sleuthlaw45_ChangepointClusters.l1 k3 a1 l2 a3 ([] : List (List Int)) t435 0) = some r := H
    have A20 := Aside0.mk A200
    clear A200
    have H' := Aside0.mk H
    clear H
    go_wp2_with (first | ((with_reducible refine gate_callee (f := 28) rfl ?_); refine goesL_ (some 65) rfl rfl Try.func28 (by kernel_rfl) rfl #[.slice A0 l0.length c0] rfl qgsleuthlaw45changepointclusters_3 ?_; (with_reducible refine (sleuthref05_Sorted.calls k3 _ _ l0 t435 _ ?side1 ?side2 A20.out).mono ?_); (case side1 => repeat (first | exact (Kd.C_below HR0.out HB.out) | (with_reducible refine Kd.C_alloc ?_ _) | (with_reducible refine Kd.C_drewN ?_ _) | (with_reducible refine Kd.C_drew ?_))); (case side2 => exact HC0.out); rintro e w21 ⟨v436, rfl, ho0, hb⟩; refine ⟨_, rfl, ?_⟩; have n0_ := Aside0.mk (Kd.R_lower ho0 (below_size qgsleuthlaw45changepointclusters_0)); have n1_ := Aside0.mk (below_step qgsleuthlaw45changepointclusters_0 hb); clear HB; have HO437 := n0_; have HB := n1_; clear n0_ n1_; (try clear hb); (try clear hb2); (try clear hk); (try clear hi); (try clear ho0)))
    go_loopg [9, 11] k3 (fun kq v9 v11 w' => ∃ (x9_4 : List (List Int)) (x11_4 : Int), v11 = .int .i64 x11_4 ∧ Aside0 (sleuthlaw45_ChangepointClusters.l1 kq a1 l2 a3 x9_4 t435 x11_4 = some r) ∧ Aside0 (kq ≤ k3) ∧ Aside0 (Kd.S (Kd.slice 3 (Kd.int .i64)) 26 w' w.heap.size (fun k_ => some k_ ≠ (v436 : Value).ownBlock) v9 x9_4) ∧ Aside0 (Kd.R (Kd.int .i64) 3 w' w.heap.size (fun _ => True) v436 t435) ∧ Aside0 (Below w.heap.size w w'))
    case atStart => exact ⟨(([] : List (List Int))), (0), qgsleuthlaw45changepointclusters_6, H', ⟨Nat.le_refl _⟩, ⟨by first | exact Kd.S_nil _ _ _ _ _ | exact Kd.N_nil _ _ _ _ _ | exact Kd.V_nil _ _ _ _ _ | exact Kd.Q_nil _ _ _ _ _ | exact Kd.R_nil _ _ _ _ _⟩, ⟨by (with_reducible repeat (first | apply Kd.R_alloc | apply Kd.R_drewN | apply Kd.R_drew)); exact HO437.out⟩, ⟨qgsleuthlaw45changepointclusters_0⟩⟩
    clear H'
    try clear c1
    try clear c2
    try clear p2
    try clear p4
    try clear q4
    try clear hx4
    try clear p6
    try clear c7
    try clear c10
    try clear c13
    try clear c14
    try clear c14b0
    try clear c15
    try clear c15b0
    try clear c16
    try clear c17
    try clear c17b0
    try clear c18
    try clear c18b0
    try clear c19
    try clear hx433_0
    try clear hx434_0
    try clear p2
    try clear p433
    try clear p434
    try clear q433
    try clear q434
    obtain ⟨x9_4, x11_4, rfl, HA, HK4, HO_9, HO_10, HB⟩ := hrel
    cases gk with
    | zero => exact absurd HA.out (by simp [sleuthlaw45_ChangepointClusters.l1])
    | succ k4 =>
     have H := HA.out
     clear HA
     simp only [sleuthlaw45_ChangepointClusters.l1] at H
     by_cases c22 : x11_4 < (t435.length : Int)
     rotate_left
     ·rw [if_neg c22] at H
      have c22b0 : decide (x11_4 < (t435.length : Int)) = false := decide_eq_false c22
      clear c22
      have HC60 := Aside0.mk H
      clear H
      obtain ⟨Ao61, co61, eo61⟩ := Kd.R_slice HO_10.out
      subst eo61
      go_upto_region 20 with (fail)
      go_cut [121] (fun v121 wc => ∃ (kq : Nat) (x121_59 : Bool), v121 = .bool x121_59 ∧ Aside0 (sleuthlaw45_ChangepointClusters.j4 kq l2 x9_4 x121_59 = some r) ∧ Aside0 (kq ≤ k4) ∧ Aside0 (Kd.S (Kd.slice 3 (Kd.int .i64)) 26 wc w.heap.size (fun _ => True) u9 x9_4) ∧ Aside0 (Below w.heap.size w wc))
      case first =>
       have H := HC60.out
       clear HC60
       by_cases c62 : a3 = 0
       rotate_left
       ·rw [if_neg c62] at H
        have c62b0 : (a3 == 0) = false := beq_eq_false_iff_ne.mpr c62
        have c62b1 : (a3 != 0) = true := bne_iff_ne.mpr c62
        (first | rw [c62b0] | (simp only [i64_w, i32_w]; rw [c62b0]) | skip)
        have H' := Aside0.mk H
        clear H
        go_wp2
        go_meet
        case rel => exact ⟨_, (true), qgsleuthlaw45changepointclusters_6, H', ⟨by have := HJ4.out; have := HJ12.out; have := HK3.out; have := HK4.out; first | omega | exact Nat.le_refl _⟩, ⟨by (with_reducible repeat (first | apply Kd.S_alloc | apply Kd.S_drewN | apply Kd.S_drew)); exact Kd.S_mono HO_9.out (fun _ hk => trivial)⟩, ⟨qgsleuthlaw45changepointclusters_0⟩⟩
       rw [if_pos c62] at H
       have c62b0 : (a3 == 0) = true := beq_iff_eq.mpr c62
       have c62b1 : (a3 != 0) = false := bne_eq_false_iff_eq.mpr c62
       clear c62
       (first | rw [c62b0] | (simp only [i64_w, i32_w]; rw [c62b0]) | skip)
       have H' := Aside0.mk H
       clear H
       obtain ⟨Ao63, co63, eo63⟩ := Kd.S_slice HO_9.out
       subst eo63
       go_wp2
       go_meet
       case rel => exact ⟨_, (((l2.length : Int) != (x9_4.length : Int))), qgsleuthlaw45changepointclusters_6, H', ⟨by have := HJ4.out; have := HJ12.out; have := HK3.out; have := HK4.out; first | omega | exact Nat.le_refl _⟩, ⟨by (with_reducible repeat (first | apply Kd.S_alloc | apply Kd.S_drewN | apply Kd.S_drew)); exact Kd.S_mono HO_9.out (fun _ hk => trivial)⟩, ⟨qgsleuthlaw45changepointclusters_0⟩⟩
      clear HC60
      try clear c2
      try clear p2
      try clear c3
      try clear p3
      try clear q3
      try clear c4
      try clear p4
      try clear q4
      try clear hx4
      try clear hf4
      try clear c5
      try clear c6
      try clear p6
      try clear c22
      try clear c22b0
      try clear c23
      try clear c23b0
      try clear c24
      try clear c26
      try clear c27
      try clear c28
      try clear c28b0
      try clear c30
      try clear c31
      try clear c32
      try clear p33
      try clear q33
      try clear c38
      try clear c40
      try clear hx40
      try clear hf40
      try clear c43
      try clear p43
      try clear q43
      try clear hx43
      try clear c44
      try clear p44
      try clear q44
      try clear hx44
      try clear p45
      try clear q45
      try clear hx45
      try clear c51
      try clear c51b0
      try clear c52
      try clear c62
      try clear c62b0
      try clear c62b1
      try clear hx40_0
      try clear hx438_0
      try clear hx439_0
      try clear hx440_0
      try clear hx441_0
      try clear hx446_0
      try clear hx453_0
      try clear p33
      try clear p438
      try clear p439
      try clear p440
      try clear p441
      try clear p446
      try clear p453
      try clear q33
      try clear q438
      try clear q439
      try clear q440
      try clear q441
      try clear q446
      try clear q453
      obtain ⟨kq, x121_59, rfl, HA, HJ59, HO_9, HB⟩ := hcut
      cases kq with
      | zero => exact absurd HA.out (by simp [sleuthlaw45_ChangepointClusters.j4])
      | succ kj59 =>
       have H := HA.out
       clear HA
       simp only [sleuthlaw45_ChangepointClusters.j4] at H
       by_cases c64 : x121_59 = true
       ·subst c64
        have H1 : (some false) = some r := by rw [if_pos rfl] at H; exact H
        clear H
        have H := H1
        clear H1
        obtain rfl := Option.some.inj H
        go_wp2
        go_ret
        exact ⟨qgsleuthlaw45changepointclusters_5, below_step HBB.out qgsleuthlaw45changepointclusters_0⟩
       replace c64 := Bool.eq_false_iff.mpr c64
       subst c64
       have H1 : (sleuthlaw45_ChangepointClusters.l2 kj59 l2 x9_4 0) = some r := by rw [if_neg (show ¬ (false = true) by decide)] at H; exact H
       clear H
       have H := H1
       clear H1
       have H' := Aside0.mk H
       clear H
       go_wp2
       go_loopg [13] kj59 (fun kq v13 w' => ∃ (x13_6 : Int), v13 = .int .i64 x13_6 ∧ Aside0 (sleuthlaw45_ChangepointClusters.l2 kq l2 x9_4 x13_6 = some r) ∧ Aside0 (kq ≤ kj59) ∧ Aside0 (Kd.S (Kd.slice 3 (Kd.int .i64)) 26 w' w.heap.size (fun _ => True) u9 x9_4) ∧ Aside0 (Below w.heap.size w w'))
       case atStart => exact ⟨(0), qgsleuthlaw45changepointclusters_6, H', ⟨Nat.le_refl _⟩, ⟨qgsleuthlaw45changepointclusters_4⟩, ⟨qgsleuthlaw45changepointclusters_0⟩⟩
       clear H'
       try clear c2
       try clear p2
       try clear c3
       try clear p3
       try clear q3
       try clear c4
       try clear p4
       try clear q4
       try clear hx4
       try clear hf4
       try clear c5
       try clear c6
       try clear p6
       try clear c22
       try clear c22b0
       try clear c23
       try clear c23b0
       try clear c24
       try clear c26
       try clear c27
       try clear c28
       try clear c28b0
       try clear c30
       try clear c31
       try clear c32
       try clear p33
       try clear q33
       try clear c38
       try clear c40
       try clear hx40
       try clear hf40
       try clear c43
       try clear p43
       try clear q43
       try clear hx43
       try clear c44
       try clear p44
       try clear q44
       try clear hx44
       try clear p45
       try clear q45
       try clear hx45
       try clear c51
       try clear c51b0
       try clear c52
       try clear c62
       try clear c62b0
       try clear c62b1
       try clear c64
       try clear p64
       try clear hx40_0
       try clear hx438_0
       try clear hx439_0
       try clear hx440_0
       try clear hx441_0
       try clear hx446_0
       try clear hx453_0
       try clear p2
       try clear p3
       try clear p33
       try clear p4
       try clear p43
       try clear p438
       try clear p439
       try clear p44
       try clear p440
       try clear p441
       try clear p446
       try clear p45
       try clear p453
       try clear p6
       try clear q3
       try clear q33
       try clear q4
       try clear q43
       try clear q438
       try clear q439
       try clear q44
       try clear q440
       try clear q441
       try clear q446
       try clear q45
       try clear q453
       obtain ⟨x13_6, rfl, HA, HK6, HO_9, HB⟩ := hrel
       cases gk with
       | zero => exact absurd HA.out (by simp [sleuthlaw45_ChangepointClusters.l2])
       | succ k6 =>
        have H := HA.out
        clear HA
        simp only [sleuthlaw45_ChangepointClusters.l2] at H
        by_cases c65 : x13_6 < (l2.length : Int)
        rotate_left
        ·rw [if_neg c65] at H
         have c65b0 : decide (x13_6 < (l2.length : Int)) = false := decide_eq_false c65
         clear c65
         obtain rfl := Option.some.inj H
         go_wp2
         go_ret
         exact ⟨qgsleuthlaw45changepointclusters_5, below_step HBB.out qgsleuthlaw45changepointclusters_0⟩
        rw [if_pos c65] at H
        have c65b0 : decide (x13_6 < (l2.length : Int)) = true := decide_eq_true c65
        clear c65
        by_cases c66 : 0 ≤ x13_6
        rotate_left
        ·rw [if_neg c66] at H
         exact absurd H (by simp)
        rw [if_pos c66] at H
        have c66b0 : decide (0 ≤ x13_6) = true := decide_eq_true c66
        clear c66
        by_cases c67 : x13_6 < (x9_4.length : Int)
        rotate_left
        ·rw [if_neg c67] at H
         exact absurd H (by simp)
        rw [if_pos c67] at H
        have c67b0 : decide (x13_6 < (x9_4.length : Int)) = true := decide_eq_true c67
        clear c67
        replace H := Option.bind_eq_some_iff.mp H
        obtain ⟨t462, A680, H⟩ := H
        replace H : (if t462 = true then (sleuthlaw45_ChangepointClusters.l2 k6 l2 x9_4 (wrap64 (x13_6 + 1))) else (some false)) = some r := H
        have A68 := Aside0.mk A680
        clear A680
        by_cases c69 : t462 = true
        rotate_left
        ·replace c69 := Bool.eq_false_iff.mpr c69
         subst c69
         have H1 : (some false) = some r := by rw [if_neg (show ¬ (false = true) by decide)] at H; exact H
         clear H
         have H := H1
         clear H1
         obtain rfl := Option.some.inj H
         try go_wp2
         have n0_ := Aside0.mk (Kd.S_drew HO_9.out)
         have n1_ := Aside0.mk (below_drew1 HB.out)
         clear HO_9
         clear HB
         have HO_9 := n0_
         have HB := n1_
         clear n0_ n1_
         have p460 : 0 ≤ (x13_6 : Int) := of_decide_eq_true qgsleuthlaw45changepointclusters_1
         have q460 : x13_6 < (l2.length : Int) := of_decide_eq_true qgsleuthlaw45changepointclusters_1
         obtain ⟨ad460, A460_0, c460_0, e460, hx460_0, hl460_0, hi460_0⟩ := at_L2 HR2.out x13_6 p460 q460
         have hw460_0 := hx460_0
         cases e460
         replace hx460_0 := (HB.out.cell (World.block_lt_of_cell? w _ hx460_0)).trans hx460_0
         have HR460_0 := Aside0.mk hi460_0
         have HC460_0 := Aside0.mk hl460_0
         clear hi460_0 hl460_0
         replace p460 := eq_true p460
         replace q460 := eq_true q460
         obtain ⟨Ao73, co73, eo73⟩ := Kd.S_slice HO_9.out
         (first | subst eo73 | (injection eo73 with f1_ f2_ f3_; have f4_ := f1_.symm; have f5_ := f3_.symm; clear f1_ f2_ f3_; subst f4_; subst f5_))
         have p461 : 0 ≤ (x13_6 : Int) := of_decide_eq_true qgsleuthlaw45changepointclusters_1
         have q461 : x13_6 < (x9_4.length : Int) := of_decide_eq_true qgsleuthlaw45changepointclusters_1
         obtain ⟨ad461, A461_0, c461_0, e461, hx461_0, hl461_0, hi461_0⟩ := at_L2 (Kd.S_reads' HO_9.out).2.2 x13_6 p461 q461
         cases e461
         obtain ⟨ce461, hce461, hMe461, hcc461⟩ := Kd.S_get HO_9.out [] x13_6 p461 (by first | exact q461 | exact of_decide_eq_true qgsleuthlaw45changepointclusters_1 | (have e_ := (Kd.S_reads' HO_9.out).1; omega))
         obtain ⟨ve461_0, rfl, ge461_0⟩ := hMe461
         have hv461_0 := hcc461 0 _ rfl
         rw [Nat.add_zero, show ((Kd.slice 3 (Kd.int .i64))).sz = 1 from rfl, Nat.mul_one] at hv461_0
         replace hv461_0 := Option.some.inj (hv461_0.symm.trans hx461_0)
         rw [hv461_0] at ge461_0
         have HL461_0 := Aside0.mk (show Kd.R (Kd.int .i64) 3 _ _ _ _ (rd_L2 x9_4 x13_6) from ge461_0)
         clear hv461_0 ge461_0
         have HX461_0 := Aside0.mk hx461_0
         clear hcc461 hce461
         have HR461_0 := Aside0.mk hi461_0
         have HC461_0 := Aside0.mk hl461_0
         clear hi461_0 hl461_0
         replace p461 := eq_true p461
         replace q461 := eq_true q461
         refine start_ (n := 10) (S := fun w' => w'.cell? (ad460.add (x13_6).toNat) = some (.slice A460_0 (rd_L2 l2 x13_6).length c460_0) ∧ w'.cell? (ad461.add (x13_6).toNat) = some (.slice A461_0 (rd_L2 x9_4 x13_6).length c461_0)) (ds := []) A99994_0 (by kernel_rfl) rfl rfl ⟨((HB.out.cell (World.block_lt_of_cell? w _ hw460_0)).trans hw460_0), hx461_0⟩ (fun hHeld => ?_); refine with_tabW sleuthlaw45_ChangepointClusters.tab25 sleuthlaw45_ChangepointClusters.bits25 (fun HT_ HW_ => ?_)
         generalize wr.drew = w72 at HO_9 HB HL461_0 HR460_0 HR461_0 HX461_0 hx460_0 hx461_0 hHeld ⊢
         refine pA_ 0 128 A99994_1 HT_ ?_
         refine pA_ 1 129 A99994_2 HT_ ?_
         refine pA_ 2 130 A99994_3 HT_ ?_
         refine pA_ 4 132 A99994_4 HT_ ?_
         refine pA_ 5 133 A99994_5 HT_ ?_
         refine pA_ 6 134 A99994_6 HT_ ?_
         refine take_ (i := 3) (N := some 131) (v := ?_) (a' := ?_) A99994_7 rfl rfl (take_ofW HT_.out HW_.out (by kernel_rfl)) (fun _ _ _ h => h) (Or.inl ⟨by rfl, ?_⟩) hHeld ?_ ?_
         rotate_left
         ·rintro w' ⟨s0, s1⟩
          go_simp
          with_reducible rfl
         rotate_left
         ·simp only [Act.put, List.setIfInBounds_toArray, List.set_cons_zero, List.set_cons_succ, i64_w, i32_w]
          rfl
         refine take_ (i := 7) (N := some 135) (v := ?_) (a' := ?_) A99994_8 rfl rfl (take_ofW HT_.out HW_.out (by kernel_rfl)) (fun _ _ _ h => h) (Or.inl ⟨by rfl, ?_⟩) hHeld ?_ ?_
         rotate_left
         ·rintro w' ⟨s0, s1⟩
          go_simp
          with_reducible rfl
         rotate_left
         ·simp only [Act.put, List.setIfInBounds_toArray, List.set_cons_zero, List.set_cons_succ, i64_w, i32_w]
          rfl
         refine one_ (i := 8) (N := some 136) A99994_9 rfl rfl (one_of HT_.out (by kernel_rfl)) (by decide) (fun K hK => ?_)
         refine goes_ Try.func29 (by kernel_rfl) rfl #[.slice A460_0 (rd_L2 l2 x13_6).length c460_0, .slice A461_0 (rd_L2 x9_4 x13_6).length c461_0] (by rfl) rfl rfl qgsleuthlaw45changepointclusters_3 ?_
         with_reducible refine (sleuthref05_Same.calls k6 _ _ (rd_L2 l2 x13_6) _ _ (rd_L2 x9_4 x13_6) false _ ?side1 ?side2 ?side3 ?side4 A68.out).mono ?_
         (case side1 => repeat (first | exact (Kd.C_below HR460_0.out HB.out) | (with_reducible refine Kd.C_alloc ?_ _) | (with_reducible refine Kd.C_drewN ?_ _) | (with_reducible refine Kd.C_drew ?_)))
         (case side2 => exact HC460_0.out)
         (case side3 => exact qgsleuthlaw45changepointclusters_7)
         (case side4 => exact HC461_0.out)
         rintro e w' ⟨rfl, ⟨nd, rfl⟩⟩
         refine ⟨_, rfl, ?_⟩
         refine hK.out _ _ ⟨((HB.out.cell (World.block_lt_of_cell? w _ hw460_0)).trans hw460_0), hHeld.2⟩ (fun hHeld => ?_)
         clear hK K
         refine norm_ (a' := ?_) ?_ ?_
         rotate_left
         ·show Act.put _ (some 136) _ = _
          simp only [Act.put, List.setIfInBounds_toArray, List.set_cons_zero, List.set_cons_succ, i64_w, i32_w]
          rfl
         refine pA_ 9 137 A99994_10 HT_ ?_
         refine done_ (done_of HT_.out (by kernel_rfl)) ?_
         try go_wp2
         go_ret
         exact ⟨qgsleuthlaw45changepointclusters_5, below_step HBB.out qgsleuthlaw45changepointclusters_0⟩
        subst c69
        have H1 : (sleuthlaw45_ChangepointClusters.l2 k6 l2 x9_4 (wrap64 (x13_6 + 1))) = some r := by rw [if_pos rfl] at H; exact H
        clear H
        have H := H1
        clear H1
        have H' := Aside0.mk H
        clear H
        try go_wp2
        have n0_ := Aside0.mk (Kd.S_drew HO_9.out)
        have n1_ := Aside0.mk (below_drew1 HB.out)
        clear HO_9
        clear HB
        have HO_9 := n0_
        have HB := n1_
        clear n0_ n1_
        have p460 : 0 ≤ (x13_6 : Int) := of_decide_eq_true qgsleuthlaw45changepointclusters_1
        have q460 : x13_6 < (l2.length : Int) := of_decide_eq_true qgsleuthlaw45changepointclusters_1
        obtain ⟨ad460, A460_0, c460_0, e460, hx460_0, hl460_0, hi460_0⟩ := at_L2 HR2.out x13_6 p460 q460
        have hw460_0 := hx460_0
        cases e460
        replace hx460_0 := (HB.out.cell (World.block_lt_of_cell? w _ hx460_0)).trans hx460_0
        have HR460_0 := Aside0.mk hi460_0
        have HC460_0 := Aside0.mk hl460_0
        clear hi460_0 hl460_0
        replace p460 := eq_true p460
        replace q460 := eq_true q460
        obtain ⟨Ao71, co71, eo71⟩ := Kd.S_slice HO_9.out
        (first | subst eo71 | (injection eo71 with f1_ f2_ f3_; have f4_ := f1_.symm; have f5_ := f3_.symm; clear f1_ f2_ f3_; subst f4_; subst f5_))
        have p461 : 0 ≤ (x13_6 : Int) := of_decide_eq_true qgsleuthlaw45changepointclusters_1
        have q461 : x13_6 < (x9_4.length : Int) := of_decide_eq_true qgsleuthlaw45changepointclusters_1
        obtain ⟨ad461, A461_0, c461_0, e461, hx461_0, hl461_0, hi461_0⟩ := at_L2 (Kd.S_reads' HO_9.out).2.2 x13_6 p461 q461
        cases e461
        obtain ⟨ce461, hce461, hMe461, hcc461⟩ := Kd.S_get HO_9.out [] x13_6 p461 (by first | exact q461 | exact of_decide_eq_true qgsleuthlaw45changepointclusters_1 | (have e_ := (Kd.S_reads' HO_9.out).1; omega))
        obtain ⟨ve461_0, rfl, ge461_0⟩ := hMe461
        have hv461_0 := hcc461 0 _ rfl
        rw [Nat.add_zero, show ((Kd.slice 3 (Kd.int .i64))).sz = 1 from rfl, Nat.mul_one] at hv461_0
        replace hv461_0 := Option.some.inj (hv461_0.symm.trans hx461_0)
        rw [hv461_0] at ge461_0
        have HL461_0 := Aside0.mk (show Kd.R (Kd.int .i64) 3 _ _ _ _ (rd_L2 x9_4 x13_6) from ge461_0)
        clear hv461_0 ge461_0
        have HX461_0 := Aside0.mk hx461_0
        clear hcc461 hce461
        have HR461_0 := Aside0.mk hi461_0
        have HC461_0 := Aside0.mk hl461_0
        clear hi461_0 hl461_0
        replace p461 := eq_true p461
        replace q461 := eq_true q461
        refine start_ (n := 10) (S := fun w' => w'.cell? (ad460.add (x13_6).toNat) = some (.slice A460_0 (rd_L2 l2 x13_6).length c460_0) ∧ w'.cell? (ad461.add (x13_6).toNat) = some (.slice A461_0 (rd_L2 x9_4 x13_6).length c461_0)) (ds := []) A99994_0 (by kernel_rfl) rfl rfl ⟨((HB.out.cell (World.block_lt_of_cell? w _ hw460_0)).trans hw460_0), hx461_0⟩ (fun hHeld => ?_); refine with_tabW sleuthlaw45_ChangepointClusters.tab25 sleuthlaw45_ChangepointClusters.bits25 (fun HT_ HW_ => ?_)
        generalize wr.drew = w70 at HO_9 HB HL461_0 HR460_0 HR461_0 HX461_0 hx460_0 hx461_0 hHeld ⊢
        refine pA_ 0 128 A99994_1 HT_ ?_
        refine pA_ 1 129 A99994_2 HT_ ?_
        refine pA_ 2 130 A99994_3 HT_ ?_
        refine pA_ 4 132 A99994_4 HT_ ?_
        refine pA_ 5 133 A99994_5 HT_ ?_
        refine pA_ 6 134 A99994_6 HT_ ?_
        refine take_ (i := 3) (N := some 131) (v := ?_) (a' := ?_) A99994_7 rfl rfl (take_ofW HT_.out HW_.out (by kernel_rfl)) (fun _ _ _ h => h) (Or.inl ⟨by rfl, ?_⟩) hHeld ?_ ?_
        rotate_left
        ·rintro w' ⟨s0, s1⟩
         go_simp
         with_reducible rfl
        rotate_left
        ·simp only [Act.put, List.setIfInBounds_toArray, List.set_cons_zero, List.set_cons_succ, i64_w, i32_w]
         rfl
        refine take_ (i := 7) (N := some 135) (v := ?_) (a' := ?_) A99994_8 rfl rfl (take_ofW HT_.out HW_.out (by kernel_rfl)) (fun _ _ _ h => h) (Or.inl ⟨by rfl, ?_⟩) hHeld ?_ ?_
        rotate_left
        ·rintro w' ⟨s0, s1⟩
         go_simp
         with_reducible rfl
        rotate_left
        ·simp only [Act.put, List.setIfInBounds_toArray, List.set_cons_zero, List.set_cons_succ, i64_w, i32_w]
         rfl
        refine one_ (i := 8) (N := some 136) A99994_9 rfl rfl (one_of HT_.out (by kernel_rfl)) (by decide) (fun K hK => ?_)
        refine goes_ Try.func29 (by kernel_rfl) rfl #[.slice A460_0 (rd_L2 l2 x13_6).length c460_0, .slice A461_0 (rd_L2 x9_4 x13_6).length c461_0] (by rfl) rfl rfl qgsleuthlaw45changepointclusters_3 ?_
        with_reducible refine (sleuthref05_Same.calls k6 _ _ (rd_L2 l2 x13_6) _ _ (rd_L2 x9_4 x13_6) true _ ?side1 ?side2 ?side3 ?side4 A68.out).mono ?_
        (case side1 => repeat (first | exact (Kd.C_below HR460_0.out HB.out) | (with_reducible refine Kd.C_alloc ?_ _) | (with_reducible refine Kd.C_drewN ?_ _) | (with_reducible refine Kd.C_drew ?_)))
        (case side2 => exact HC460_0.out)
        (case side3 => exact qgsleuthlaw45changepointclusters_7)
        (case side4 => exact HC461_0.out)
        rintro e w' ⟨rfl, ⟨nd, rfl⟩⟩
        refine ⟨_, rfl, ?_⟩
        refine hK.out _ _ ⟨((HB.out.cell (World.block_lt_of_cell? w _ hw460_0)).trans hw460_0), hHeld.2⟩ (fun hHeld => ?_)
        clear hK K
        refine norm_ (a' := ?_) ?_ ?_
        rotate_left
        ·show Act.put _ (some 136) _ = _
         simp only [Act.put, List.setIfInBounds_toArray, List.set_cons_zero, List.set_cons_succ, i64_w, i32_w]
         rfl
        refine pA_ 9 137 A99994_10 HT_ ?_
        refine done_ (done_of HT_.out (by kernel_rfl)) ?_
        try go_wp2
        go_roundg k6
        case measure => have := HJ4.out; have := HJ12.out; have := HK3.out; have := HK4.out; have := HJ59.out; have := HK6.out; omega
        case rel => exact ⟨(wrap64 (x13_6 + 1)), qgsleuthlaw45changepointclusters_6, H', ⟨by have := HJ4.out; have := HJ12.out; have := HK3.out; have := HK4.out; have := HJ59.out; have := HK6.out; omega⟩, ⟨qgsleuthlaw45changepointclusters_4⟩, ⟨qgsleuthlaw45changepointclusters_0⟩⟩
     rw [if_pos c22] at H
     have c22b0 : decide (x11_4 < (t435.length : Int)) = true := decide_eq_true c22
     clear c22
     by_cases c23 : x11_4 > 0
     rotate_left
     ·rw [if_neg c23] at H
      have c23b0 : decide (0 < x11_4) = false := decide_eq_false c23
      clear c23
      by_cases c51 : 0 ≤ x11_4
      rotate_left
      ·rw [if_neg c51] at H
       exact absurd H (by simp)
      rw [if_pos c51] at H
      have c51b0 : decide (0 ≤ x11_4) = true := decide_eq_true c51
      clear c51
      obtain ⟨y454, hy454⟩ : ∃ y_ : List Int, y_ = (([rd t435 x11_4] : List Int)) := ⟨_, rfl⟩
      replace H : (if x9_4.length < 5864062014805 then (sleuthlaw45_ChangepointClusters.l1 k4 a1 l2 a3 (x9_4 ++ [y454]) t435 (wrap64 (x11_4 + 1))) else (none)) = some r := by first | (rw [hy454]; with_reducible exact H) | (have H2_ := (Option.bind_some _ _).symm.trans H; rw [hy454]; with_reducible exact H2_) | (have H2_ := (Option.bind_some _ _).symm.trans H; with_reducible exact H2_) | with_reducible exact H | (rw [hy454]; exact H) | exact H
      have Ny454 := Aside0.mk hy454
      clear hy454
      by_cases c52 : x9_4.length < 5864062014805
      rotate_left
      ·rw [if_neg c52] at H
       exact absurd H (by simp)
      rw [if_pos c52] at H
      have LMc52 := Aside0.mk c52
      clear c52
      obtain ⟨y457, hy457⟩ : ∃ y_ : List (List Int), y_ = (x9_4 ++ [y454]) := ⟨_, rfl⟩
      replace H : (sleuthlaw45_ChangepointClusters.l1 k4 a1 l2 a3 y457 t435 (wrap64 (x11_4 + 1))) = some r := by first | (rw [hy457]; with_reducible exact H) | (have H2_ := (Option.bind_some _ _).symm.trans H; rw [hy457]; with_reducible exact H2_) | (have H2_ := (Option.bind_some _ _).symm.trans H; with_reducible exact H2_) | with_reducible exact H | (rw [hy457]; exact H) | exact H
      have Ny457 := Aside0.mk hy457
      clear hy457
      have H' := Aside0.mk H
      clear H
      obtain ⟨Ao53, co53, eo53⟩ := Kd.R_slice HO_10.out
      subst eo53
      obtain ⟨Ao54, co54, eo54⟩ := Kd.S_slice HO_9.out
      subst eo54
      try go_wp2
      have n0_ := Aside0.mk (Kd.S_drew HO_9.out)
      have n1_ := Aside0.mk (Kd.R_drew HO_10.out)
      have n2_ := Aside0.mk (below_drew1 HB.out)
      clear HO_9
      clear HO_10
      clear HB
      have HO_9 := n0_
      have HO_10 := n1_
      have HB := n2_
      clear n0_ n1_ n2_
      refine start_ (n := 16) (S := fun w' => True) (ds := []) A99994_11 (by kernel_rfl) rfl rfl trivial (fun hHeld => ?_); refine with_tabW sleuthlaw45_ChangepointClusters.tab17 sleuthlaw45_ChangepointClusters.bits17 (fun HT_ HW_ => ?_)
      generalize wr.drew = w55 at HO_9 HO_10 HB hHeld ⊢
      refine pA_ 0 74 A99994_12 HT_ ?_
      refine pA_ 1 75 A99994_13 HT_ ?_
      refine pA_ 2 76 A99994_14 HT_ ?_
      refine pB_ 3 77 A99994_15 HT_ ?_
      refine pB_ 4 78 A99994_16 HT_ ?_
      refine pB_ 5 79 A99994_17 HT_ ?_
      refine pB_ 6 80 A99994_18 HT_ ?_
      refine pB_ 7 81 A99994_19 HT_ ?_
      refine pB_ 8 82 A99994_20 HT_ ?_
      refine pB_ 9 83 A99994_21 HT_ ?_
      refine pB_ 10 84 A99994_22 HT_ ?_
      refine pB_ 11 85 A99994_23 HT_ ?_
      refine pB_ 12 86 A99994_24 HT_ ?_
      refine pB_ 13 87 A99994_25 HT_ ?_
      refine pB_ 14 88 A99994_26 HT_ ?_
      refine pA_ 15 89 A99994_27 HT_ ?_
      refine done_ (done_of HT_.out (by kernel_rfl)) ?_
      have p453 : 0 ≤ (x11_4 : Int) := of_decide_eq_true qgsleuthlaw45changepointclusters_1
      have q453 : x11_4 < (t435.length : Int) := of_decide_eq_true qgsleuthlaw45changepointclusters_1
      obtain ⟨ad453, e453, hx453_0⟩ := Kd.at_int (Kd.R_reads' HO_10.out).2.2 x11_4 p453 q453
      cases e453
      replace p453 := eq_true p453
      replace q453 := eq_true q453
      try go_wp2_with (first | ((with_reducible refine gate_dst (N := 110) rfl ?_); (try (refine gate_guard (by rfl) ?_; dsimp only)); refine Kd.R_lit (Kd.int .i64) _ 3 ?hg (N := 110) ?hd (xs := ([rd t435 x11_4] : List Int)) (inner := [.int .i64 (rd t435 x11_4)]) (ok := fun _ => True) (okp := fun _ => True) ?hr ?hp (fun _ hk => hk) trivial (Below.refl _ _) (Nat.le_refl _) (by simp) ?_; (case hd => rfl); (case hg => rfl); (case hr => first | (go_simp; done) | (go_simp; rfl)); (case hp => exact (Reps.one (show Kd.M (Kd.int .i64) _ _ _ (rd t435 x11_4) [.int .i64 (rd t435 x11_4)] from rfl) (Reps.none _ _))); intro v455 w56 ho57 hb hg_ hnew_; clear hg_ hnew_; (first | rw [← Ny454.out] at ho57 | (simp only [Int.reduceToNat] at ho57; rw [← Ny454.out] at ho57)); have n0_ := Aside0.mk (Kd.S_elder' qgsleuthlaw45changepointclusters_4 (Kd.R_base ho57) hb); have n1_ := Aside0.mk (Kd.R_elder' qgsleuthlaw45changepointclusters_2 (Kd.R_base ho57) hb); have n2_ := Aside0.mk (Kd.R_lower (Kd.R_new' ho57 (Kd.R_lt qgsleuthlaw45changepointclusters_2)) (below_size qgsleuthlaw45changepointclusters_0)); have n3_ := Aside0.mk (below_step qgsleuthlaw45changepointclusters_0 hb); clear HO_9; clear HO_10; clear HB; have HO_9 := n0_; have HO_10 := n1_; have HO456 := n2_; have HB := n3_; clear n0_ n1_ n2_ n3_; clear hb ho57; obtain ⟨Ao59, co59, eo59⟩ := Kd.R_slice HO456.out; subst eo59) | ((with_reducible refine gate_builtin (b := .append) (xs := #[.tmp 105, .tmp 111]) rfl ?_); (try (refine gate_guard (by rfl) ?_; dsimp only)); at_builtin; refine Kd.S_append (Kd.slice 3 (Kd.int .i64)) (w0 := w) w.heap.size rfl (.tmp 105) (.tmp 111) 65 26 (.slice none 0 0) 24 rfl Try.underlying65 info26 rfl (by decide) (by omega) (.slice Ao54 x9_4.length co54) x9_4 y454 [.slice Ao59 y454.length co59] (fun k_ => some k_ ≠ (.slice (some ad453) t435.length co53 : Value).ownBlock) (fun k_ => some k_ = (.slice Ao59 y454.length co59 : Value).ownBlock) rfl rfl ?aP (fun k_ hk_ => ((Kd.R_mono (ok' := fun k_ => ((fun k_ => some k_ ≠ (.slice (some ad453) t435.length co53 : Value).ownBlock)) k_ ∧ some k_ ≠ (.slice Ao54 x9_4.length co54 : Value).ownBlock) (Kd.R_apart' (HO456.out) (Kd.S_typed HO_9.out) (by decide)) (fun k_ hk => ⟨hk.1.2, hk.2⟩))).1 k_ hk_.symm) ?aF ?aO ?aB ?aS ?aL ?_; (case aP => exact Kd.M_row (Kd.R_mono (Kd.R_tight rfl (Kd.R_mono (ok' := fun k_ => ((fun k_ => some k_ ≠ (.slice (some ad453) t435.length co53 : Value).ownBlock)) k_ ∧ some k_ ≠ (.slice Ao54 x9_4.length co54 : Value).ownBlock) (Kd.R_apart' (HO456.out) (Kd.S_typed HO_9.out) (by decide)) (fun k_ hk => ⟨hk.1.2, hk.2⟩))) (fun _ h_ => h_))); (case aB => exact qgsleuthlaw45changepointclusters_0); (case aF => exact (fun k_ hk => Kd.fresh' (Kd.R_lt qgsleuthlaw45changepointclusters_2) k_ hk)); (case aO => exact (by (with_reducible repeat (first | apply Kd.S_alloc | apply Kd.S_drewN | apply Kd.S_drew)); exact Kd.S_mono HO_9.out (fun k_ hk => ⟨hk.1, fun e_ => hk.2 e_⟩))); (case aS => exact (below_size qgsleuthlaw45changepointclusters_0)); (case aL => have := LMc52.out; omega); intro v458 w58 ho hb hg hat; rw [← Ny457.out] at ho; have n0_ := Aside0.mk (Kd.R_over' qgsleuthlaw45changepointclusters_2 (Kd.S_typed qgsleuthlaw45changepointclusters_4) (by decide) hg); have n1_ := Aside0.mk (hb); have n2_ := Aside0.mk (ho); clear HO_10; clear HB; clear HO_9; clear HO456; have HO_10 := n0_; have HB := n1_; have HO459 := n2_; clear n0_ n1_ n2_; clear ho hb hg hat))
      go_roundg k4
      case measure => have := HJ4.out; have := HJ12.out; have := HK3.out; have := HK4.out; omega
      case rel => exact ⟨(y457), (wrap64 (x11_4 + 1)), qgsleuthlaw45changepointclusters_6, H', ⟨by have := HJ4.out; have := HJ12.out; have := HK3.out; have := HK4.out; omega⟩, ⟨by (with_reducible repeat (first | apply Kd.S_alloc | apply Kd.S_drewN | apply Kd.S_drew)); exact HO459.out⟩, ⟨by (with_reducible repeat (first | apply Kd.R_alloc | apply Kd.R_drewN | apply Kd.R_drew)); exact Kd.R_mono HO_10.out (fun _ hk => trivial)⟩, ⟨qgsleuthlaw45changepointclusters_0⟩⟩
     rw [if_pos c23] at H
     have c23b0 : decide (0 < x11_4) = true := decide_eq_true c23
     clear c23
     by_cases c24 : 0 ≤ x11_4
     rotate_left
     ·rw [if_neg c24] at H
      exact absurd H (by simp)
     rw [if_pos c24] at H
     have c24b0 : decide (0 ≤ x11_4) = true := decide_eq_true c24
     clear c24
     obtain ⟨ji25, hji25⟩ : ∃ j_ : Int, (wrap64 (x11_4 - 1)) = j_ := ⟨_, rfl⟩
     replace H : (if 0 ≤ (ji25) then (if (ji25) < (t435.length : Int) then (if (wrap64 ((rd t435 x11_4) - (rd t435 (ji25)))) ≤ a1 then (if 0 ≤ (wrap64 ((x9_4.length : Int) - 1)) then (if (wrap64 ((x9_4.length : Int) - 1)) < (x9_4.length : Int) then (if (rd_L2 x9_4 (wrap64 ((x9_4.length : Int) - 1))).length < 17592186044416 then (sleuthlaw45_ChangepointClusters.l1 k4 a1 l2 a3 (x9_4.set ((wrap64 ((x9_4.length : Int) - 1)) : Int).toNat ((rd_L2 x9_4 (wrap64 ((x9_4.length : Int) - 1))) ++ [rd t435 x11_4])) t435 (wrap64 (x11_4 + 1))) else (none)) else (none)) else (none)) else (if x9_4.length < 5864062014805 then (sleuthlaw45_ChangepointClusters.l1 k4 a1 l2 a3 (x9_4 ++ [(([rd t435 x11_4] : List Int))]) t435 (wrap64 (x11_4 + 1))) else (none))) else (none)) else (none)) = some r := by first | (rw [hji25] at H; exact H) | (simp only [hji25] at H ⊢; exact H)
     have hji25w : (IntKind.i64.wrap (x11_4 - 1)) = ji25 := (i64_w _).trans hji25
     by_cases c26 : 0 ≤ (ji25)
     rotate_left
     ·rw [if_neg c26] at H
      exact absurd H (by simp)
     rw [if_pos c26] at H
     have c26b0 : decide (0 ≤ (ji25)) = true := decide_eq_true c26
     clear c26
     by_cases c27 : (ji25) < (t435.length : Int)
     rotate_left
     ·rw [if_neg c27] at H
      exact absurd H (by simp)
     rw [if_pos c27] at H
     have c27b0 : decide ((ji25) < (t435.length : Int)) = true := decide_eq_true c27
     clear c27
     by_cases c28 : (wrap64 ((rd t435 x11_4) - (rd t435 (ji25)))) ≤ a1
     rotate_left
     ·rw [if_neg c28] at H
      have c28b0 : decide ((wrap64 ((rd t435 x11_4) - (rd t435 (ji25)))) ≤ a1) = false := decide_eq_false c28
      clear c28
      obtain ⟨y447, hy447⟩ : ∃ y_ : List Int, y_ = (([rd t435 x11_4] : List Int)) := ⟨_, rfl⟩
      replace H : (if x9_4.length < 5864062014805 then (sleuthlaw45_ChangepointClusters.l1 k4 a1 l2 a3 (x9_4 ++ [y447]) t435 (wrap64 (x11_4 + 1))) else (none)) = some r := by first | (rw [hy447]; with_reducible exact H) | (have H2_ := (Option.bind_some _ _).symm.trans H; rw [hy447]; with_reducible exact H2_) | (have H2_ := (Option.bind_some _ _).symm.trans H; with_reducible exact H2_) | with_reducible exact H | (rw [hy447]; exact H) | exact H
      have Ny447 := Aside0.mk hy447
      clear hy447
      by_cases c43 : x9_4.length < 5864062014805
      rotate_left
      ·rw [if_neg c43] at H
       exact absurd H (by simp)
      rw [if_pos c43] at H
      have LMc43 := Aside0.mk c43
      clear c43
      obtain ⟨y450, hy450⟩ : ∃ y_ : List (List Int), y_ = (x9_4 ++ [y447]) := ⟨_, rfl⟩
      replace H : (sleuthlaw45_ChangepointClusters.l1 k4 a1 l2 a3 y450 t435 (wrap64 (x11_4 + 1))) = some r := by first | (rw [hy450]; with_reducible exact H) | (have H2_ := (Option.bind_some _ _).symm.trans H; rw [hy450]; with_reducible exact H2_) | (have H2_ := (Option.bind_some _ _).symm.trans H; with_reducible exact H2_) | with_reducible exact H | (rw [hy450]; exact H) | exact H
      have Ny450 := Aside0.mk hy450
      clear hy450
      have H' := Aside0.mk H
      clear H
      obtain ⟨Ao44, co44, eo44⟩ := Kd.R_slice HO_10.out
      subst eo44
      obtain ⟨Ao45, co45, eo45⟩ := Kd.S_slice HO_9.out
      subst eo45
      try go_wp2
      have n0_ := Aside0.mk (Kd.S_drew HO_9.out)
      have n1_ := Aside0.mk (Kd.R_drew HO_10.out)
      have n2_ := Aside0.mk (below_drew1 HB.out)
      clear HO_9
      clear HO_10
      clear HB
      have HO_9 := n0_
      have HO_10 := n1_
      have HB := n2_
      clear n0_ n1_ n2_
      have p438 : 0 ≤ (x11_4 : Int) := of_decide_eq_true qgsleuthlaw45changepointclusters_1
      have q438 : x11_4 < (t435.length : Int) := of_decide_eq_true qgsleuthlaw45changepointclusters_1
      obtain ⟨ad438, e438, hx438_0⟩ := Kd.at_int (Kd.R_reads' HO_10.out).2.2 x11_4 p438 q438
      cases e438
      replace p438 := eq_true p438
      replace q438 := eq_true q438
      have p439 : 0 ≤ ((ji25) : Int) := of_decide_eq_true qgsleuthlaw45changepointclusters_1
      have q439 : (ji25) < (t435.length : Int) := of_decide_eq_true qgsleuthlaw45changepointclusters_1
      obtain ⟨ad439, e439, hx439_0⟩ := Kd.at_int (Kd.R_reads' HO_10.out).2.2 (ji25) p439 q439
      obtain rfl : ad438 = ad439 := (by injection e439)
      replace p439 := eq_true p439
      replace q439 := eq_true q439
      refine start_ (n := 16) (S := fun w' => w'.cell? (ad438.add (x11_4).toNat) = some (.int .i64 (rd t435 x11_4)) ∧ w'.cell? (ad438.add ((ji25)).toNat) = some (.int .i64 (rd t435 (ji25)))) (ds := []) A99994_11 (by kernel_rfl) rfl rfl ⟨hx438_0, hx439_0⟩ (fun hHeld => ?_); refine with_tabW sleuthlaw45_ChangepointClusters.tab17 sleuthlaw45_ChangepointClusters.bits17 (fun HT_ HW_ => ?_)
      generalize wr.drew = w46 at HO_9 HO_10 HB hx438_0 hx439_0 hHeld ⊢
      refine pA_ 0 74 A99994_12 HT_ ?_
      refine pA_ 1 75 A99994_13 HT_ ?_
      refine pA_ 2 76 A99994_14 HT_ ?_
      refine pA_ 3 77 A99994_15 HT_ ?_
      refine pA_ 4 78 A99994_16 HT_ ?_
      refine pA_ 5 79 A99994_17 HT_ ?_
      refine pA_ 7 81 A99994_28 HT_ ?_
      refine pA_ 8 82 A99994_29 HT_ ?_
      refine pA_ 9 83 A99994_30 HT_ ?_
      refine pA_ 10 84 A99994_31 HT_ ?_
      refine pA_ 13 87 A99994_32 HT_ ?_
      refine take_ (i := 6) (N := some 80) (v := ?_) (a' := ?_) A99994_33 rfl rfl (take_ofW HT_.out HW_.out (by kernel_rfl)) (fun _ _ _ h => h) (Or.inl ⟨by rfl, ?_⟩) hHeld ?_ ?_
      rotate_left
      ·rintro w' ⟨s0, s1⟩
       go_simp
       with_reducible rfl
      rotate_left
      ·simp only [Act.put, List.setIfInBounds_toArray, List.set_cons_zero, List.set_cons_succ, i64_w, i32_w]
       rfl
      refine take_ (i := 11) (N := some 85) (v := ?_) (a' := ?_) A99994_34 rfl rfl (take_ofW HT_.out HW_.out (by kernel_rfl)) (fun _ _ _ h => h) (Or.inl ⟨by rfl, ?_⟩) hHeld ?_ ?_
      rotate_left
      ·rintro w' ⟨s0, s1⟩
       go_simp
       with_reducible rfl
      rotate_left
      ·simp only [Act.put, List.setIfInBounds_toArray, List.set_cons_zero, List.set_cons_succ, i64_w, i32_w]
       rfl
      refine pA_ 12 86 A99994_25 HT_ ?_
      refine pA_ 14 88 A99994_26 HT_ ?_
      refine pA_ 15 89 A99994_27 HT_ ?_
      refine done_ (done_of HT_.out (by kernel_rfl)) ?_
      have p446 : 0 ≤ (x11_4 : Int) := of_decide_eq_true qgsleuthlaw45changepointclusters_1
      have q446 : x11_4 < (t435.length : Int) := of_decide_eq_true qgsleuthlaw45changepointclusters_1
      obtain ⟨ad446, e446, hx446_0⟩ := Kd.at_int (Kd.R_reads' HO_10.out).2.2 x11_4 p446 q446
      obtain rfl : ad438 = ad446 := (by injection e446)
      replace p446 := eq_true p446
      replace q446 := eq_true q446
      try go_wp2_with (first | ((with_reducible refine gate_dst (N := 110) rfl ?_); (try (refine gate_guard (by rfl) ?_; dsimp only)); refine Kd.R_lit (Kd.int .i64) _ 3 ?hg (N := 110) ?hd (xs := ([rd t435 x11_4] : List Int)) (inner := [.int .i64 (rd t435 x11_4)]) (ok := fun _ => True) (okp := fun _ => True) ?hr ?hp (fun _ hk => hk) trivial (Below.refl _ _) (Nat.le_refl _) (by simp) ?_; (case hd => rfl); (case hg => rfl); (case hr => first | (go_simp; done) | (go_simp; rfl)); (case hp => exact (Reps.one (show Kd.M (Kd.int .i64) _ _ _ (rd t435 x11_4) [.int .i64 (rd t435 x11_4)] from rfl) (Reps.none _ _))); intro v448 w47 ho48 hb hg_ hnew_; clear hg_ hnew_; (first | rw [← Ny447.out] at ho48 | (simp only [Int.reduceToNat] at ho48; rw [← Ny447.out] at ho48)); have n0_ := Aside0.mk (Kd.S_elder' qgsleuthlaw45changepointclusters_4 (Kd.R_base ho48) hb); have n1_ := Aside0.mk (Kd.R_elder' qgsleuthlaw45changepointclusters_2 (Kd.R_base ho48) hb); have n2_ := Aside0.mk (Kd.R_lower (Kd.R_new' ho48 (Kd.R_lt qgsleuthlaw45changepointclusters_2)) (below_size qgsleuthlaw45changepointclusters_0)); have n3_ := Aside0.mk (below_step qgsleuthlaw45changepointclusters_0 hb); clear HO_9; clear HO_10; clear HB; have HO_9 := n0_; have HO_10 := n1_; have HO449 := n2_; have HB := n3_; clear n0_ n1_ n2_ n3_; clear hb ho48; obtain ⟨Ao50, co50, eo50⟩ := Kd.R_slice HO449.out; subst eo50) | ((with_reducible refine gate_builtin (b := .append) (xs := #[.tmp 105, .tmp 111]) rfl ?_); (try (refine gate_guard (by rfl) ?_; dsimp only)); at_builtin; refine Kd.S_append (Kd.slice 3 (Kd.int .i64)) (w0 := w) w.heap.size rfl (.tmp 105) (.tmp 111) 65 26 (.slice none 0 0) 24 rfl Try.underlying65 info26 rfl (by decide) (by omega) (.slice Ao45 x9_4.length co45) x9_4 y447 [.slice Ao50 y447.length co50] (fun k_ => some k_ ≠ (.slice (some ad438) t435.length co44 : Value).ownBlock) (fun k_ => some k_ = (.slice Ao50 y447.length co50 : Value).ownBlock) rfl rfl ?aP (fun k_ hk_ => ((Kd.R_mono (ok' := fun k_ => ((fun k_ => some k_ ≠ (.slice (some ad438) t435.length co44 : Value).ownBlock)) k_ ∧ some k_ ≠ (.slice Ao45 x9_4.length co45 : Value).ownBlock) (Kd.R_apart' (HO449.out) (Kd.S_typed HO_9.out) (by decide)) (fun k_ hk => ⟨hk.1.2, hk.2⟩))).1 k_ hk_.symm) ?aF ?aO ?aB ?aS ?aL ?_; (case aP => exact Kd.M_row (Kd.R_mono (Kd.R_tight rfl (Kd.R_mono (ok' := fun k_ => ((fun k_ => some k_ ≠ (.slice (some ad438) t435.length co44 : Value).ownBlock)) k_ ∧ some k_ ≠ (.slice Ao45 x9_4.length co45 : Value).ownBlock) (Kd.R_apart' (HO449.out) (Kd.S_typed HO_9.out) (by decide)) (fun k_ hk => ⟨hk.1.2, hk.2⟩))) (fun _ h_ => h_))); (case aB => exact qgsleuthlaw45changepointclusters_0); (case aF => exact (fun k_ hk => Kd.fresh' (Kd.R_lt qgsleuthlaw45changepointclusters_2) k_ hk)); (case aO => exact (by (with_reducible repeat (first | apply Kd.S_alloc | apply Kd.S_drewN | apply Kd.S_drew)); exact Kd.S_mono HO_9.out (fun k_ hk => ⟨hk.1, fun e_ => hk.2 e_⟩))); (case aS => exact (below_size qgsleuthlaw45changepointclusters_0)); (case aL => have := LMc43.out; omega); intro v451 w49 ho hb hg hat; rw [← Ny450.out] at ho; have n0_ := Aside0.mk (Kd.R_over' qgsleuthlaw45changepointclusters_2 (Kd.S_typed qgsleuthlaw45changepointclusters_4) (by decide) hg); have n1_ := Aside0.mk (hb); have n2_ := Aside0.mk (ho); clear HO_10; clear HB; clear HO_9; clear HO449; have HO_10 := n0_; have HB := n1_; have HO452 := n2_; clear n0_ n1_ n2_; clear ho hb hg hat))
      go_roundg k4
      case measure => have := HJ4.out; have := HJ12.out; have := HK3.out; have := HK4.out; omega
      case rel => exact ⟨(y450), (wrap64 (x11_4 + 1)), qgsleuthlaw45changepointclusters_6, H', ⟨by have := HJ4.out; have := HJ12.out; have := HK3.out; have := HK4.out; omega⟩, ⟨by (with_reducible repeat (first | apply Kd.S_alloc | apply Kd.S_drewN | apply Kd.S_drew)); exact HO452.out⟩, ⟨by (with_reducible repeat (first | apply Kd.R_alloc | apply Kd.R_drewN | apply Kd.R_drew)); exact Kd.R_mono HO_10.out (fun _ hk => trivial)⟩, ⟨qgsleuthlaw45changepointclusters_0⟩⟩
     rw [if_pos c28] at H
     have c28b0 : decide ((wrap64 ((rd t435 x11_4) - (rd t435 (ji25)))) ≤ a1) = true := decide_eq_true c28
     clear c28
     obtain ⟨ji29, hji29⟩ : ∃ j_ : Int, (wrap64 ((x9_4.length : Int) - 1)) = j_ := ⟨_, rfl⟩
     replace H : (if 0 ≤ (ji29) then (if (ji29) < (x9_4.length : Int) then (if (rd_L2 x9_4 (ji29)).length < 17592186044416 then (sleuthlaw45_ChangepointClusters.l1 k4 a1 l2 a3 (x9_4.set ((ji29) : Int).toNat ((rd_L2 x9_4 (ji29)) ++ [rd t435 x11_4])) t435 (wrap64 (x11_4 + 1))) else (none)) else (none)) else (none)) = some r := by first | (rw [hji29] at H; exact H) | (simp only [hji29] at H ⊢; exact H)
     have hji29w : (IntKind.i64.wrap ((x9_4.length : Int) - 1)) = ji29 := (i64_w _).trans hji29
     by_cases c30 : 0 ≤ (ji29)
     rotate_left
     ·rw [if_neg c30] at H
      exact absurd H (by simp)
     rw [if_pos c30] at H
     have c30b0 : decide (0 ≤ (ji29)) = true := decide_eq_true c30
     clear c30
     by_cases c31 : (ji29) < (x9_4.length : Int)
     rotate_left
     ·rw [if_neg c31] at H
      exact absurd H (by simp)
     rw [if_pos c31] at H
     have c31b0 : decide ((ji29) < (x9_4.length : Int)) = true := decide_eq_true c31
     clear c31
     by_cases c32 : (rd_L2 x9_4 (ji29)).length < 17592186044416
     rotate_left
     ·rw [if_neg c32] at H
      exact absurd H (by simp)
     rw [if_pos c32] at H
     have LMc32 := Aside0.mk c32
     clear c32
     obtain ⟨y442, hy442⟩ : ∃ y_ : List Int, y_ = ((rd_L2 x9_4 (ji29)) ++ [rd t435 x11_4]) := ⟨_, rfl⟩
     replace H : (sleuthlaw45_ChangepointClusters.l1 k4 a1 l2 a3 (x9_4.set ((ji29) : Int).toNat y442) t435 (wrap64 (x11_4 + 1))) = some r := by first | (rw [hy442]; with_reducible exact H) | (have H2_ := (Option.bind_some _ _).symm.trans H; rw [hy442]; with_reducible exact H2_) | (have H2_ := (Option.bind_some _ _).symm.trans H; with_reducible exact H2_) | with_reducible exact H | (rw [hy442]; exact H) | exact H
     have Ny442 := Aside0.mk hy442
     clear hy442
     obtain ⟨y445, hy445⟩ : ∃ y_ : List (List Int), y_ = (x9_4.set ((ji29) : Int).toNat y442) := ⟨_, rfl⟩
     replace H : (sleuthlaw45_ChangepointClusters.l1 k4 a1 l2 a3 y445 t435 (wrap64 (x11_4 + 1))) = some r := by first | (rw [hy445]; with_reducible exact H) | (have H2_ := (Option.bind_some _ _).symm.trans H; rw [hy445]; with_reducible exact H2_) | (have H2_ := (Option.bind_some _ _).symm.trans H; with_reducible exact H2_) | with_reducible exact H | (rw [hy445]; exact H) | exact H
     have Ny445 := Aside0.mk hy445
     clear hy445
     have H' := Aside0.mk H
     clear H
     obtain ⟨Ao34, co34, eo34⟩ := Kd.R_slice HO_10.out
     subst eo34
     obtain ⟨Ao35, co35, eo35⟩ := Kd.S_slice HO_9.out
     subst eo35
     try go_wp2
     have n0_ := Aside0.mk (Kd.S_drew HO_9.out)
     have n1_ := Aside0.mk (Kd.R_drew HO_10.out)
     have n2_ := Aside0.mk (below_drew1 HB.out)
     clear HO_9
     clear HO_10
     clear HB
     have HO_9 := n0_
     have HO_10 := n1_
     have HB := n2_
     clear n0_ n1_ n2_
     have p438 : 0 ≤ (x11_4 : Int) := of_decide_eq_true qgsleuthlaw45changepointclusters_1
     have q438 : x11_4 < (t435.length : Int) := of_decide_eq_true qgsleuthlaw45changepointclusters_1
     obtain ⟨ad438, e438, hx438_0⟩ := Kd.at_int (Kd.R_reads' HO_10.out).2.2 x11_4 p438 q438
     cases e438
     replace p438 := eq_true p438
     replace q438 := eq_true q438
     have p439 : 0 ≤ ((ji25) : Int) := of_decide_eq_true qgsleuthlaw45changepointclusters_1
     have q439 : (ji25) < (t435.length : Int) := of_decide_eq_true qgsleuthlaw45changepointclusters_1
     obtain ⟨ad439, e439, hx439_0⟩ := Kd.at_int (Kd.R_reads' HO_10.out).2.2 (ji25) p439 q439
     obtain rfl : ad438 = ad439 := (by injection e439)
     replace p439 := eq_true p439
     replace q439 := eq_true q439
     refine start_ (n := 16) (S := fun w' => w'.cell? (ad438.add (x11_4).toNat) = some (.int .i64 (rd t435 x11_4)) ∧ w'.cell? (ad438.add ((ji25)).toNat) = some (.int .i64 (rd t435 (ji25)))) (ds := []) A99994_11 (by kernel_rfl) rfl rfl ⟨hx438_0, hx439_0⟩ (fun hHeld => ?_); refine with_tabW sleuthlaw45_ChangepointClusters.tab17 sleuthlaw45_ChangepointClusters.bits17 (fun HT_ HW_ => ?_)
     generalize wr.drew = w36 at HO_9 HO_10 HB hx438_0 hx439_0 hHeld ⊢
     refine pA_ 0 74 A99994_12 HT_ ?_
     refine pA_ 1 75 A99994_13 HT_ ?_
     refine pA_ 2 76 A99994_14 HT_ ?_
     refine pA_ 3 77 A99994_15 HT_ ?_
     refine pA_ 4 78 A99994_16 HT_ ?_
     refine pA_ 5 79 A99994_17 HT_ ?_
     refine pA_ 7 81 A99994_28 HT_ ?_
     refine pA_ 8 82 A99994_29 HT_ ?_
     refine pA_ 9 83 A99994_30 HT_ ?_
     refine pA_ 10 84 A99994_31 HT_ ?_
     refine pA_ 13 87 A99994_32 HT_ ?_
     refine take_ (i := 6) (N := some 80) (v := ?_) (a' := ?_) A99994_33 rfl rfl (take_ofW HT_.out HW_.out (by kernel_rfl)) (fun _ _ _ h => h) (Or.inl ⟨by rfl, ?_⟩) hHeld ?_ ?_
     rotate_left
     ·rintro w' ⟨s0, s1⟩
      go_simp
      with_reducible rfl
     rotate_left
     ·simp only [Act.put, List.setIfInBounds_toArray, List.set_cons_zero, List.set_cons_succ, i64_w, i32_w]
      rfl
     refine take_ (i := 11) (N := some 85) (v := ?_) (a' := ?_) A99994_34 rfl rfl (take_ofW HT_.out HW_.out (by kernel_rfl)) (fun _ _ _ h => h) (Or.inl ⟨by rfl, ?_⟩) hHeld ?_ ?_
     rotate_left
     ·rintro w' ⟨s0, s1⟩
      go_simp
      with_reducible rfl
     rotate_left
     ·simp only [Act.put, List.setIfInBounds_toArray, List.set_cons_zero, List.set_cons_succ, i64_w, i32_w]
      rfl
     refine pA_ 12 86 A99994_25 HT_ ?_
     refine pA_ 14 88 A99994_26 HT_ ?_
     refine pA_ 15 89 A99994_27 HT_ ?_
     refine done_ (done_of HT_.out (by kernel_rfl)) ?_
     try go_wp2
     have n0_ := Aside0.mk (Kd.S_drew HO_9.out)
     have n1_ := Aside0.mk (Kd.R_drew HO_10.out)
     have n2_ := Aside0.mk (below_drew1 HB.out)
     clear HO_9
     clear HO_10
     clear HB
     have HO_9 := n0_
     have HO_10 := n1_
     have HB := n2_
     clear n0_ n1_ n2_
     have p440 : 0 ≤ ((ji29) : Int) := of_decide_eq_true qgsleuthlaw45changepointclusters_1
     have q440 : (ji29) < (x9_4.length : Int) := of_decide_eq_true qgsleuthlaw45changepointclusters_1
     obtain ⟨ad440, A440_0, c440_0, e440, hx440_0, hl440_0, hi440_0⟩ := at_L2 (Kd.S_reads' HO_9.out).2.2 (ji29) p440 q440
     cases e440
     obtain ⟨ce440, hce440, hMe440, hcc440⟩ := Kd.S_get HO_9.out [] (ji29) p440 (by first | exact q440 | exact of_decide_eq_true qgsleuthlaw45changepointclusters_1 | (have e_ := (Kd.S_reads' HO_9.out).1; omega))
     obtain ⟨ve440_0, rfl, ge440_0⟩ := hMe440
     have hv440_0 := hcc440 0 _ rfl
     rw [Nat.add_zero, show ((Kd.slice 3 (Kd.int .i64))).sz = 1 from rfl, Nat.mul_one] at hv440_0
     replace hv440_0 := Option.some.inj (hv440_0.symm.trans hx440_0)
     rw [hv440_0] at ge440_0
     have HL440_0 := Aside0.mk (show Kd.R (Kd.int .i64) 3 _ _ _ _ (rd_L2 x9_4 (ji29)) from ge440_0)
     clear hv440_0 ge440_0
     have HX440_0 := Aside0.mk hx440_0
     clear hcc440 hce440
     have HR440_0 := Aside0.mk hi440_0
     have HC440_0 := Aside0.mk hl440_0
     clear hi440_0 hl440_0
     replace p440 := eq_true p440
     replace q440 := eq_true q440
     have p441 : 0 ≤ (x11_4 : Int) := of_decide_eq_true qgsleuthlaw45changepointclusters_1
     have q441 : x11_4 < (t435.length : Int) := of_decide_eq_true qgsleuthlaw45changepointclusters_1
     obtain ⟨ad441, e441, hx441_0⟩ := Kd.at_int (Kd.R_reads' HO_10.out).2.2 x11_4 p441 q441
     obtain rfl : ad438 = ad441 := (by injection e441)
     replace p441 := eq_true p441
     replace q441 := eq_true q441
     obtain ⟨go38, co38, eo38, gb38, gl38, cl38, HG38⟩ := Kd.S_form HO_9.out (by have h_ : ((ji29) : Int) < ((x9_4.length : Int) : Int) := of_decide_eq_true qgsleuthlaw45changepointclusters_1; have h2_ : 0 ≤ ((ji29) : Int) := (of_decide_eq_true qgsleuthlaw45changepointclusters_1); omega)
     (first | cases eo38 | (injection eo38 with ea_ en_ ec_; (first | subst ea_ | (injection ea_ with ea_; subst ea_)); subst ec_; clear en_))
     have GB38 := Aside0.mk gb38
     have GG38 := Aside0.mk HG38
     clear gb38 gl38 HG38
     (first | simp only [add_plain] at hx440_0 | skip)
     obtain ⟨oki38, ce38, hcl38, hM38, hcc38, _, _, hH38⟩ := Kd.S_elem HO_9.out [] ((ji29) : Int) (of_decide_eq_true qgsleuthlaw45changepointclusters_1) (by have h_ : ((ji29) : Int) < ((x9_4.length : Int) : Int) := of_decide_eq_true qgsleuthlaw45changepointclusters_1; first | exact h_ | (have e_ := (Kd.S_reads' HO_9.out).1; omega) | simpa using h_)
     obtain ⟨ve38_0, rfl, ge38_0⟩ := hM38
     have hv38 := hcc38 0 _ rfl
     have hX38 := HX440_0.out
     (try simp only [add_plain] at hX38)
     (try simp only [Nat.add_zero] at hv38)
     (try rw [show ((Kd.slice 3 (Kd.int .i64))).sz = 1 from rfl, Nat.mul_one] at hv38)
     replace hv38 := Option.some.inj (hv38.symm.trans hX38)
     subst hv38
     clear hX38 hcc38 hcl38
     have UU38 := Aside0.mk (show Kd.R (Kd.int .i64) 3 _ w.heap.size oki38 (.slice A440_0 (rd_L2 x9_4 (ji29)).length c440_0) (rd_L2 x9_4 (ji29)) from ge38_0)
     have HH38 := Aside0.mk hH38
     have HN38 := Aside0.mk (Kd.S_reads' HO_9.out).1
     clear hH38 ge38_0
     refine start_ (n := 16) (S := fun w' => w'.cell? ⟨go38, ((ji29)).toNat, none⟩ = some (.slice A440_0 (rd_L2 x9_4 (ji29)).length c440_0) ∧ w'.cell? (ad438.add (x11_4).toNat) = some (.int .i64 (rd t435 x11_4))) (ds := [13, 15]) A99994_11 (by kernel_rfl) rfl rfl ⟨hx440_0, hx441_0⟩ (fun hHeld => ?_); refine with_tabW sleuthlaw45_ChangepointClusters.tab18 sleuthlaw45_ChangepointClusters.bits18 (fun HT_ HW_ => ?_)
     generalize w36.drew = w37 at HO_9 HO_10 HB GG38 HH38 HL440_0 HR440_0 HX440_0 UU38 hx440_0 hx441_0 hHeld ⊢
     refine pA_ 0 90 A99994_12 HT_ ?_
     refine pA_ 1 91 A99994_13 HT_ ?_
     refine pA_ 2 92 A99994_14 HT_ ?_
     refine pA_ 3 93 A99994_15 HT_ ?_
     refine pA_ 4 94 A99994_16 HT_ ?_
     refine pA_ 5 95 A99994_17 HT_ ?_
     refine pA_ 6 96 A99994_18 HT_ ?_
     refine pA_ 8 98 A99994_35 HT_ ?_
     refine pA_ 9 99 A99994_36 HT_ ?_
     refine pA_ 10 100 A99994_37 HT_ ?_
     refine take_ (i := 7) (N := some 97) (v := ?_) (a' := ?_) A99994_22 rfl rfl (take_ofW HT_.out HW_.out (by kernel_rfl)) (fun _ _ _ h => h) (Or.inl ⟨by rfl, ?_⟩) hHeld ?_ ?_
     rotate_left
     ·rintro w' ⟨s0, s1⟩
      go_simp
      with_reducible rfl
     rotate_left
     ·simp only [Act.put, List.setIfInBounds_toArray, List.set_cons_zero, List.set_cons_succ, i64_w, i32_w]
      rfl
     refine take_ (i := 11) (N := some 101) (v := ?_) (a' := ?_) A99994_23 rfl rfl (take_ofW HT_.out HW_.out (by kernel_rfl)) (fun _ _ _ h => h) (Or.inl ⟨by rfl, ?_⟩) hHeld ?_ ?_
     rotate_left
     ·rintro w' ⟨s0, s1⟩
      go_simp
      with_reducible rfl
     rotate_left
     ·simp only [Act.put, List.setIfInBounds_toArray, List.set_cons_zero, List.set_cons_succ, i64_w, i32_w]
      rfl
     refine one_ (i := 12) (N := some 102) A99994_24 rfl rfl (one_of HT_.out (by kernel_rfl)) (by decide) (fun K hK => ?_)
     refine value_ (w1 := ?_) (v := ?_) (by rfl) rfl ?_ ?_
     rotate_left 2
     ·go_simp
      constructor
      ·rfl
      ·rfl
     refine hK.out _ _ ⟨(World.cell?_alloc_lt _ _ _ (World.block_lt_of_cell? _ _ (hHeld.1))).trans (hHeld.1), (World.cell?_alloc_lt _ _ _ (World.block_lt_of_cell? _ _ (hHeld.2))).trans (hHeld.2)⟩ (fun hHeld => ?_)
     clear hK K
     refine norm_ (a' := ?_) ?_ ?_
     rotate_left
     ·show Act.put _ (some 102) _ = _
      simp only [Act.put, List.setIfInBounds_toArray, List.set_cons_zero, List.set_cons_succ, i64_w, i32_w]
      rfl
     refine last_ (i := 13) (N := some 103) A99994_25 rfl rfl (one_of HT_.out (by kernel_rfl)) (by decide) (fun K hK => ?_)
     refine Kd.R_append_step (Kd.int .i64) (w0 := w) w.heap.size (by rfl) (.tmp 97) (.tmp 102) 26 3 (.int .i64 0) 8 rfl Try.underlying26 info3 rfl (by decide) (by omega) (.slice A440_0 (rd_L2 x9_4 (ji29)).length c440_0) (rd_L2 x9_4 (ji29)) (rd t435 x11_4) [.int .i64 (rd t435 x11_4)] (fun k_ => oki38 k_ ∨ ((fun k_ => some k_ ≠ (.slice (some ad438) t435.length co34 : Value).ownBlock)) k_ ∧ w37.heap.size ≤ k_) (fun _ => False) rfl rfl ?aP (fun _ hk => hk.elim) ?aF ?aO ?aB ?aS ?aL ?_
     (case aP => exact rfl)
     (case aB => exact qgsleuthlaw45changepointclusters_0)
     (case aF => exact (fun k_ hk => .inr ⟨Kd.fresh' (Kd.R_lt qgsleuthlaw45changepointclusters_2) k_ hk, hk⟩))
     (case aO => exact (by (with_reducible repeat (first | apply Kd.R_alloc | apply Kd.R_drewN | apply Kd.R_drew)); exact Kd.R_mono UU38.out (fun _ hk => .inl hk)))
     (case aS => exact (below_size qgsleuthlaw45changepointclusters_0))
     (case aL => have := LMc32.out; omega)
     intro v443 w39 ho hb hg hat
     rw [← Ny442.out] at ho
     have n0_ := Aside0.mk (Kd.R_grown2 qgsleuthlaw45changepointclusters_2 rfl hg (fun k_ e_ => (HL440_0.out.1 k_ e_).1))
     have n1_ := Aside0.mk (hb)
     have n2_ := Aside0.mk (Kd.H_grown (Kd.H_widen (by repeat (first | exact HH38.out | refine Kd.H_alloc ?_ _ | refine Kd.H_drewN ?_ _ | refine Kd.H_drew ?_))) hg (fun k_ e_ => .inl (UU38.out.1 k_ e_)))
     have n3_ := Aside0.mk (ho)
     clear HO_10
     clear HB
     clear HH38
     clear HO_9
     clear UU38
     clear HL440_0
     have HO_10 := n0_
     have HB := n1_
     have HH38 := n2_
     have HO444 := n3_
     clear n0_ n1_ n2_ n3_
     clear ho hb hg hat
     have p33 : 0 ≤ ((ji29) : Int) := of_decide_eq_true qgsleuthlaw45changepointclusters_1
     have q33 : ((ji29) : Int) < ((x9_4.length : Int) : Int) := of_decide_eq_true qgsleuthlaw45changepointclusters_1
     replace p33 := eq_true p33
     replace q33 := eq_true q33
     obtain ⟨Ao42, co42, eo42⟩ := Kd.R_slice HO444.out
     (first | subst eo42 | (injection eo42 with f1_ f2_ f3_; have f4_ := f1_.symm; have f5_ := f3_.symm; clear f1_ f2_ f3_; subst f4_; subst f5_))
     obtain ⟨_, _, hraw40, _, _, hcc40, _⟩ := Kd.H_raw HH38.out (of_decide_eq_true qgsleuthlaw45changepointclusters_1) (by have h_ : ((ji29) : Int) < ((x9_4.length : Int) : Int) := of_decide_eq_true qgsleuthlaw45changepointclusters_1; first | exact h_ | (have e_ := (HN38.out); omega) | simpa using h_)
     obtain ⟨_, hfr40⟩ := Kd.H_at HH38.out (of_decide_eq_true qgsleuthlaw45changepointclusters_1) (by have h_ : ((ji29) : Int) < ((x9_4.length : Int) : Int) := of_decide_eq_true qgsleuthlaw45changepointclusters_1; first | exact h_ | (have e_ := (HN38.out); omega) | simpa using h_)
     have hx40_0 := hcc40 0 _ rfl
     have hf40_0 := hfr40 0
     (try simp only [Nat.add_zero] at hx40_0 hf40_0)
     (try rw [show ((Kd.slice 3 (Kd.int .i64))).sz = 1 from rfl, Nat.mul_one] at hx40_0)
     (try rw [show ((Kd.slice 3 (Kd.int .i64))).sz = 1 from rfl, Nat.mul_one] at hf40_0)
     have HP40 := Kd.S_seg0 HH38.out (of_decide_eq_true qgsleuthlaw45changepointclusters_1) (by have h_ : ((ji29) : Int) < ((x9_4.length : Int) : Int) := of_decide_eq_true qgsleuthlaw45changepointclusters_1; first | exact h_ | (have e_ := (HN38.out); omega) | simpa using h_) (seg := [.slice Ao42 y442.length co42]) (j := 0) (show 1 ≤ 1 from by decide) (x' := y442) (Kd.M_row HO444.out) (fun _ hk => hk)
     (try simp only [show ((Kd.slice 3 (Kd.int .i64))).sz = 1 from rfl, Nat.mul_one, Nat.add_zero] at HP40)
     clear hcc40 hfr40
     have HS40 := HP40.1
     rw [← Ny445.out] at HS40
     have HQ40 := Aside0.mk HS40
     obtain ⟨_, hgg40⟩ := Kd.R_typed hraw40 go38 rfl
     have GG40_ := Aside0.mk hgg40
     clear HP40 HS40 hgg40
     refine hK.out _ _ ?_
     clear hK K
     refine norm_ (a' := ?_) ?_ ?_
     rotate_left
     ·show Act.put _ (some 103) _ = _
      simp only [Act.put, List.setIfInBounds_toArray, List.set_cons_zero, List.set_cons_succ, i64_w, i32_w]
      rfl
     refine pA_ 14 104 A99994_26 HT_ ?_
     refine last_ (i := 15) (N := none) A99994_27 rfl rfl (one_of HT_.out (by kernel_rfl)) (by decide) (fun K hK => ?_)
     refine skip_ (w1 := ?_) (by rfl) rfl ?_ ?_
     rotate_left
     ·go_simp
      rfl
     refine hK.out _ _ ?_
     clear hK K
     refine done_ (done_of HT_.out (by kernel_rfl)) ?_
     try go_wp2
     go_roundg k4
     case measure => have := HJ4.out; have := HJ12.out; have := HK3.out; have := HK4.out; omega
     case rel => exact ⟨(y445), (wrap64 (x11_4 + 1)), qgsleuthlaw45changepointclusters_6, H', ⟨by have := HJ4.out; have := HJ12.out; have := HK3.out; have := HK4.out; omega⟩, ⟨by (with_reducible repeat (first | apply Kd.S_alloc | apply Kd.S_drewN | apply Kd.S_drew)); exact HQ40.out⟩, ⟨by (with_reducible repeat (first | apply Kd.R_alloc | apply Kd.R_drewN | apply Kd.R_drew)); exact Kd.R_mono (Kd.R_far (p := ⟨go38, ((ji29) : Int).toNat, none⟩) (Kd.R_types HO_10.out GG40_.out (by decide)) (fun _ hk => hk.2) (.slice Ao42 y442.length co42)) (fun _ hk => trivial)⟩, ⟨by repeat (first | (with_reducible first | exact HB.out | apply below_alloc | apply pw_below_drewN | apply below_drew1 | refine below_set ?_ GB38.out) | exact HB.out)⟩⟩

end Go.Proofs.Ytcjgmofgfblmnaa.Q