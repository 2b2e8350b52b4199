-- Laid by myprint.py (a program of this session's, over the kit's printer and with functions proved by hand)
import Derived.Test.YtcjgmofgfblmnaaTy
import Derived.Test.YtcjgmofgfblmnaaPw
import Derived.Test.YtcjgmofgfblmnaaRws
import Derived.Test.YtcjgmofgfblmnaaQgKnown
namespace Go.Proofs.Ytcjgmofgfblmnaa.Q
open Go.RowKit Go.Proofs.YtcjgmofgfblmnaaW.PrintWords Go.Proofs.YtcjgmofgfblmnaaW.PrintLast Go.Proofs.YtcjgmofgfblmnaaW.PrintMore
attribute [local go_sem] max2_int min2_int max_two min_two max_three min_three max_four min_four   -- for this text's walks alone
set_option linter.unusedVariables false
set_option linter.unusedSimpArgs false

abbrev T99991 : Bool := true
abbrev F99991 : Bool := false
abbrev A99991_0 : Array Bool := #[F99991, F99991, F99991, F99991, F99991, F99991, F99991, F99991, F99991, F99991, F99991, F99991, F99991, F99991, F99991, F99991, F99991, F99991, F99991, F99991, F99991, F99991, F99991, F99991, F99991, F99991, F99991, F99991, F99991, F99991, F99991]
abbrev A99991_1 : Array Bool := #[T99991, F99991, F99991, F99991, F99991, F99991, F99991, F99991, F99991, F99991, F99991, F99991, F99991, F99991, F99991, F99991, F99991, F99991, F99991, F99991, F99991, F99991, F99991, F99991, F99991, F99991, F99991, F99991, F99991, F99991, F99991]
abbrev A99991_2 : Array Bool := #[T99991, T99991, F99991, F99991, F99991, F99991, F99991, F99991, F99991, F99991, F99991, F99991, F99991, F99991, F99991, F99991, F99991, F99991, F99991, F99991, F99991, F99991, F99991, F99991, F99991, F99991, F99991, F99991, F99991, F99991, F99991]
abbrev A99991_3 : Array Bool := #[T99991, T99991, T99991, F99991, F99991, F99991, F99991, F99991, F99991, F99991, F99991, F99991, F99991, F99991, F99991, F99991, F99991, F99991, F99991, F99991, F99991, F99991, F99991, F99991, F99991, F99991, F99991, F99991, F99991, F99991, F99991]
abbrev A99991_4 : Array Bool := #[T99991, T99991, T99991, T99991, F99991, F99991, F99991, F99991, F99991, F99991, F99991, F99991, F99991, F99991, F99991, F99991, F99991, F99991, F99991, F99991, F99991, F99991, F99991, F99991, F99991, F99991, F99991, F99991, F99991, F99991, F99991]
abbrev A99991_5 : Array Bool := #[T99991, T99991, T99991, T99991, F99991, F99991, F99991, F99991, T99991, F99991, F99991, F99991, F99991, F99991, F99991, F99991, F99991, F99991, F99991, F99991, F99991, F99991, F99991, F99991, F99991, F99991, F99991, F99991, F99991, F99991, F99991]
abbrev A99991_6 : Array Bool := #[T99991, T99991, T99991, T99991, F99991, F99991, F99991, F99991, T99991, T99991, F99991, F99991, F99991, F99991, F99991, F99991, F99991, F99991, F99991, F99991, F99991, F99991, F99991, F99991, F99991, F99991, F99991, F99991, F99991, F99991, F99991]
abbrev A99991_7 : Array Bool := #[T99991, T99991, T99991, T99991, F99991, F99991, F99991, F99991, T99991, T99991, T99991, F99991, F99991, F99991, F99991, F99991, F99991, F99991, F99991, F99991, F99991, F99991, F99991, F99991, F99991, F99991, F99991, F99991, F99991, F99991, F99991]
abbrev A99991_8 : Array Bool := #[T99991, T99991, T99991, T99991, F99991, F99991, F99991, F99991, T99991, T99991, T99991, T99991, F99991, F99991, F99991, F99991, F99991, F99991, F99991, F99991, F99991, F99991, F99991, F99991, F99991, F99991, F99991, F99991, F99991, F99991, F99991]
abbrev A99991_9 : Array Bool := #[T99991, T99991, T99991, T99991, F99991, F99991, F99991, F99991, T99991, T99991, T99991, T99991, F99991, F99991, T99991, F99991, F99991, F99991, F99991, F99991, F99991, F99991, F99991, F99991, F99991, F99991, F99991, F99991, F99991, F99991, F99991]
abbrev A99991_10 : Array Bool := #[T99991, T99991, T99991, T99991, F99991, F99991, F99991, F99991, T99991, T99991, T99991, T99991, F99991, F99991, T99991, T99991, F99991, F99991, F99991, F99991, F99991, F99991, F99991, F99991, F99991, F99991, F99991, F99991, F99991, F99991, F99991]
abbrev A99991_11 : Array Bool := #[T99991, T99991, T99991, T99991, F99991, F99991, F99991, F99991, T99991, T99991, T99991, T99991, F99991, F99991, T99991, T99991, F99991, F99991, F99991, T99991, F99991, F99991, F99991, F99991, F99991, F99991, F99991, F99991, F99991, F99991, F99991]
abbrev A99991_12 : Array Bool := #[T99991, T99991, T99991, T99991, F99991, F99991, F99991, F99991, T99991, T99991, T99991, T99991, F99991, F99991, T99991, T99991, F99991, F99991, F99991, T99991, T99991, F99991, F99991, F99991, F99991, F99991, F99991, F99991, F99991, F99991, F99991]
abbrev A99991_13 : Array Bool := #[T99991, T99991, T99991, T99991, F99991, F99991, F99991, F99991, T99991, T99991, T99991, T99991, F99991, F99991, T99991, T99991, F99991, F99991, F99991, T99991, T99991, T99991, F99991, F99991, F99991, F99991, F99991, F99991, F99991, F99991, F99991]
abbrev A99991_14 : Array Bool := #[T99991, T99991, T99991, T99991, F99991, F99991, F99991, F99991, T99991, T99991, T99991, T99991, F99991, F99991, T99991, T99991, F99991, F99991, F99991, T99991, T99991, T99991, T99991, F99991, F99991, F99991, F99991, F99991, F99991, F99991, F99991]
abbrev A99991_15 : Array Bool := #[T99991, T99991, T99991, T99991, T99991, F99991, F99991, F99991, T99991, T99991, T99991, T99991, F99991, F99991, T99991, T99991, F99991, F99991, F99991, T99991, T99991, T99991, T99991, F99991, F99991, F99991, F99991, F99991, F99991, F99991, F99991]
abbrev A99991_16 : Array Bool := #[T99991, T99991, T99991, T99991, T99991, T99991, F99991, F99991, T99991, T99991, T99991, T99991, F99991, F99991, T99991, T99991, F99991, F99991, F99991, T99991, T99991, T99991, T99991, F99991, F99991, F99991, F99991, F99991, F99991, F99991, F99991]
abbrev A99991_17 : Array Bool := #[T99991, T99991, T99991, T99991, T99991, T99991, F99991, F99991, T99991, T99991, T99991, T99991, T99991, F99991, T99991, T99991, F99991, F99991, F99991, T99991, T99991, T99991, T99991, F99991, F99991, F99991, F99991, F99991, F99991, F99991, F99991]
abbrev A99991_18 : Array Bool := #[T99991, T99991, T99991, T99991, T99991, T99991, F99991, F99991, T99991, T99991, T99991, T99991, T99991, T99991, T99991, T99991, F99991, F99991, F99991, T99991, T99991, T99991, T99991, F99991, F99991, F99991, F99991, F99991, F99991, F99991, F99991]
abbrev A99991_19 : Array Bool := #[T99991, T99991, T99991, T99991, T99991, T99991, F99991, F99991, T99991, T99991, T99991, T99991, T99991, T99991, T99991, T99991, T99991, F99991, F99991, T99991, T99991, T99991, T99991, F99991, F99991, F99991, F99991, F99991, F99991, F99991, F99991]
abbrev A99991_20 : Array Bool := #[T99991, T99991, T99991, T99991, T99991, T99991, F99991, F99991, T99991, T99991, T99991, T99991, T99991, T99991, T99991, T99991, T99991, F99991, F99991, T99991, T99991, T99991, T99991, T99991, F99991, F99991, F99991, F99991, F99991, F99991, F99991]
abbrev A99991_21 : Array Bool := #[T99991, T99991, T99991, T99991, T99991, T99991, F99991, F99991, T99991, T99991, T99991, T99991, T99991, T99991, T99991, T99991, T99991, F99991, F99991, T99991, T99991, T99991, T99991, T99991, T99991, F99991, F99991, F99991, F99991, F99991, F99991]
abbrev A99991_22 : Array Bool := #[T99991, T99991, T99991, T99991, T99991, T99991, F99991, F99991, T99991, T99991, T99991, T99991, T99991, T99991, T99991, T99991, T99991, F99991, F99991, T99991, T99991, T99991, T99991, T99991, T99991, T99991, F99991, F99991, F99991, F99991, F99991]
abbrev A99991_23 : Array Bool := #[T99991, T99991, T99991, T99991, T99991, T99991, T99991, T99991, T99991, T99991, T99991, T99991, T99991, T99991, T99991, T99991, T99991, T99991, T99991, T99991, T99991, T99991, T99991, T99991, T99991, T99991, T99991, F99991, F99991, F99991, F99991]
abbrev A99991_24 : Array Bool := #[T99991, T99991, T99991, T99991, T99991, T99991, T99991, T99991, T99991, T99991, T99991, T99991, T99991, T99991, T99991, T99991, T99991, T99991, T99991, T99991, T99991, T99991, T99991, T99991, T99991, T99991, F99991, F99991, F99991, F99991, F99991]
abbrev A99991_25 : Array Bool := #[T99991, T99991, T99991, T99991, T99991, T99991, T99991, T99991, T99991, T99991, T99991, T99991, T99991, T99991, T99991, T99991, T99991, T99991, F99991, T99991, T99991, T99991, T99991, T99991, T99991, T99991, T99991, F99991, F99991, F99991, F99991]
abbrev A99991_26 : Array Bool := #[T99991, T99991, T99991, T99991, T99991, T99991, T99991, T99991, T99991, T99991, T99991, T99991, T99991, T99991, T99991, T99991, T99991, T99991, F99991, T99991, T99991, T99991, T99991, T99991, T99991, T99991, F99991, F99991, F99991, F99991, F99991]
abbrev A99991_27 : Array Bool := #[T99991, T99991, T99991, T99991, T99991, T99991, T99991, T99991, T99991, T99991, T99991, T99991, T99991, T99991, T99991, T99991, T99991, F99991, F99991, T99991, T99991, T99991, T99991, T99991, T99991, T99991, T99991, F99991, F99991, F99991, F99991]
abbrev A99991_28 : Array Bool := #[T99991, T99991, T99991, T99991, T99991, T99991, T99991, F99991, T99991, T99991, T99991, T99991, T99991, T99991, T99991, T99991, T99991, T99991, F99991, T99991, T99991, T99991, T99991, T99991, T99991, T99991, T99991, F99991, F99991, F99991, F99991]
abbrev A99991_29 : Array Bool := #[T99991, T99991, T99991, T99991, T99991, T99991, T99991, T99991, T99991, T99991, T99991, T99991, T99991, T99991, T99991, T99991, T99991, F99991, F99991, T99991, T99991, T99991, T99991, T99991, T99991, T99991, F99991, F99991, F99991, F99991, F99991]
abbrev A99991_30 : Array Bool := #[T99991, T99991, T99991, T99991, T99991, T99991, T99991, F99991, T99991, T99991, T99991, T99991, T99991, T99991, T99991, T99991, T99991, T99991, F99991, T99991, T99991, T99991, T99991, T99991, T99991, T99991, F99991, F99991, F99991, F99991, F99991]
abbrev A99991_31 : Array Bool := #[T99991, T99991, T99991, T99991, T99991, T99991, T99991, F99991, T99991, T99991, T99991, T99991, T99991, T99991, T99991, T99991, T99991, F99991, F99991, T99991, T99991, T99991, T99991, T99991, T99991, T99991, T99991, F99991, F99991, F99991, F99991]
abbrev A99991_32 : Array Bool := #[T99991, T99991, T99991, T99991, T99991, T99991, F99991, F99991, T99991, T99991, T99991, T99991, T99991, T99991, T99991, T99991, T99991, T99991, F99991, T99991, T99991, T99991, T99991, T99991, T99991, T99991, T99991, F99991, F99991, F99991, F99991]
abbrev A99991_33 : Array Bool := #[T99991, T99991, T99991, T99991, T99991, T99991, T99991, F99991, T99991, T99991, T99991, T99991, T99991, T99991, T99991, T99991, T99991, F99991, F99991, T99991, T99991, T99991, T99991, T99991, T99991, T99991, F99991, F99991, F99991, F99991, F99991]
abbrev A99991_34 : Array Bool := #[T99991, T99991, T99991, T99991, T99991, T99991, F99991, F99991, T99991, T99991, T99991, T99991, T99991, T99991, T99991, T99991, T99991, T99991, F99991, T99991, T99991, T99991, T99991, T99991, T99991, T99991, F99991, F99991, F99991, F99991, F99991]
abbrev A99991_35 : Array Bool := #[T99991, T99991, T99991, T99991, T99991, T99991, F99991, F99991, T99991, T99991, T99991, T99991, T99991, T99991, T99991, T99991, T99991, F99991, F99991, T99991, T99991, T99991, T99991, T99991, T99991, T99991, T99991, F99991, F99991, F99991, F99991]
abbrev A99991_36 : Array Bool := #[T99991, T99991, T99991, T99991, T99991, T99991, T99991, T99991, T99991, T99991, T99991, T99991, T99991, T99991, T99991, T99991, T99991, T99991, T99991, T99991, T99991, T99991, T99991, T99991, T99991, T99991, T99991, T99991, F99991, F99991, F99991]
abbrev A99991_37 : Array Bool := #[T99991, T99991, T99991, T99991, T99991, T99991, T99991, T99991, T99991, T99991, T99991, T99991, T99991, T99991, T99991, T99991, T99991, T99991, T99991, T99991, T99991, T99991, T99991, T99991, T99991, T99991, T99991, T99991, T99991, F99991, F99991]
abbrev A99991_38 : Array Bool := #[T99991, T99991, T99991, T99991, T99991, T99991, T99991, T99991, T99991, T99991, T99991, T99991, T99991, T99991, T99991, T99991, T99991, T99991, T99991, T99991, T99991, T99991, T99991, T99991, T99991, T99991, T99991, T99991, T99991, T99991, F99991]
abbrev A99991_39 : Array Bool := #[T99991, T99991, T99991, T99991, T99991, T99991, T99991, T99991, T99991, T99991, T99991, T99991, T99991, T99991, T99991, T99991, T99991, T99991, T99991, T99991, T99991, T99991, T99991, T99991, T99991, T99991, T99991, T99991, T99991, T99991, T99991]
theorem qgsleuthlaw45changepointfair_0 {p : Prop} (h : p := by repeat (first | (with_reducible first | exact HB.out | apply below_alloc | apply pw_below_drewN | apply below_drew1) | exact HB.out)) : p := h
theorem qgsleuthlaw45changepointfair_2 {p : Prop} (h : p := by (with_reducible repeat (first | apply Kd.R_alloc | apply Kd.R_drewN | apply Kd.R_drew)); exact HO_11.out) : p := h
theorem qgsleuthlaw45changepointfair_3 {p : Prop} (h : p := by (with_reducible repeat (first | apply Kd.R_alloc | apply Kd.R_drewN | apply Kd.R_drew)); exact HO_9.out) : p := h
theorem qgsleuthlaw45changepointfair_4 {p : Prop} (h : p := by (with_reducible repeat (first | apply Kd.R_alloc | apply Kd.R_drewN | apply Kd.R_drew)); exact HO_7.out) : p := h
theorem qgsleuthlaw45changepointfair_5 {p : Prop} (h : p := by (with_reducible repeat (first | apply Kd.R_alloc | apply Kd.R_drewN | apply Kd.R_drew)); exact HO_12.out) : p := h
theorem qgsleuthlaw45changepointfair_6 {p : Prop} (h : p := by (with_reducible repeat (first | apply Kd.R_alloc | apply Kd.R_drewN | apply Kd.R_drew)); exact HO_10.out) : p := h
theorem qgsleuthlaw45changepointfair_7 {p : Prop} (h : p := by (with_reducible repeat (first | apply Kd.R_alloc | apply Kd.R_drewN | apply Kd.R_drew)); exact HO_8.out) : p := h
theorem qgsleuthlaw45changepointfair_12 {p : Prop} (h : p := by (try simp only [List.map_toArray, List.map_cons, List.map_nil]); first | done | rfl | (simp only [List.length_drop, List.length_take]; rfl)) : p := h
theorem qgsleuthlaw45changepointfair_13 {p : Prop} (h : p := by first | rfl | (simp [errW_none, errW_some] <;> rfl) | (simp [*, errW_none, errW_some] <;> rfl)) : p := h
theorem qgsleuthlaw45changepointfair_22 {p : Prop} (h : p := by first | exact Kd.R_nil _ _ _ _ _ | exact Kd.N_nil _ _ _ _ _ | exact Kd.V_nil _ _ _ _ _ | exact Kd.Q_nil _ _ _ _ _ | exact Kd.S_nil _ _ _ _ _) : p := h
theorem qgsleuthlaw45changepointfair_23 {p : Prop} (h : p := by repeat (first | exact (Kd.R_reads' HO_7.out).2.2 | (with_reducible refine Kd.C_alloc ?_ _) | (with_reducible refine Kd.C_drewN ?_ _) | (with_reducible refine Kd.C_drew ?_))) : p := h
theorem qgsleuthlaw45changepointfair_24 {p : Prop} (h : p := by repeat (first | exact (Kd.R_reads' HO_8.out).2.2 | (with_reducible refine Kd.C_alloc ?_ _) | (with_reducible refine Kd.C_drewN ?_ _) | (with_reducible refine Kd.C_drew ?_))) : p := h
theorem qgsleuthlaw45changepointfair_62 {p : Prop} (h : p := by first | (with_reducible assumption) | assumption) : p := h
theorem qgsleuthlaw45changepointfair_90 {p : Prop} (h : p := by first | rfl | (simp; done) | (simp [*]; done)) : p := h
/-! ### sleuthlaw45_ChangepointFair: function 6 -/
mutual
def sleuthlaw45_ChangepointFair.j0 : Nat → List Int → List Int → Int → Bool → Option (Bool)
 | 0, _, _, _, _ => none
 | k + 1, x0, x1, x2, x48 => if x48 = true then ((sleuthlaw45_known.f k).bind fun t400 => (some t400)) else (sleuthlaw45_ChangepointFair.l0 k x0 x1 x2 ([] : List Int) ([] : List Int) ([] : List Int) 0)
def sleuthlaw45_ChangepointFair.l0 : Nat → List Int → List Int → Int → List Int → List Int → List Int → Int → Option (Bool)
 | 0, _, _, _, _, _, _, _ => none
 | k + 1, x0, x1, x2, x7, x9, x11, x13 => if x13 < (x0.length : Int) then (if 0 ≤ x13 then ((some (([wrap64 (rd x0 x13)] : List Int) : List Int)).bind fun y402 => (if x7.length + y402.length < 17592186044416 then ((some (([wrap64 ((wrap64 (rd x0 x13)) + (wrap64 (x2)))] : List Int) : List Int)).bind fun y409 => (if x9.length + y409.length < 17592186044416 then ((some (([wrap64 (-(wrap64 (rd x0 x13)))] : List Int) : List Int)).bind fun y416 => (if x11.length + y416.length < 17592186044416 then (sleuthlaw45_ChangepointFair.l0 k x0 x1 x2 (x7 ++ y402) (x9 ++ y409) (x11 ++ y416) (wrap64 (x13 + 1))) else (none))) else (none))) else (none))) else (none)) else (sleuthlaw45_ChangepointFair.l1 k x1 x2 x7 ([] : List Int) x9 ([] : List Int) x11 ([] : List Int) 0)
def sleuthlaw45_ChangepointFair.l1 : Nat → List Int → Int → List Int → List Int → List Int → List Int → List Int → List Int → Int → Option (Bool)
 | 0, _, _, _, _, _, _, _, _, _ => none
 | k + 1, x1, x2, x7, x8, x9, x10, x11, x12, x14 => if x14 < (x1.length : Int) then (if 0 ≤ x14 then ((some (([wrap64 (rd x1 x14)] : List Int) : List Int)).bind fun y423 => (if x8.length + y423.length < 17592186044416 then ((some (([wrap64 ((wrap64 (rd x1 x14)) + (wrap64 (x2)))] : List Int) : List Int)).bind fun y430 => (if x10.length + y430.length < 17592186044416 then ((some (([wrap64 (-(wrap64 (rd x1 x14)))] : List Int) : List Int)).bind fun y437 => (if x12.length + y437.length < 17592186044416 then (sleuthlaw45_ChangepointFair.l1 k x1 x2 x7 (x8 ++ y423) x9 (x10 ++ y430) x11 (x12 ++ y437) (wrap64 (x14 + 1))) else (none))) else (none))) else (none))) else (none)) else ((changepoint_Test.f x7 x8).bind fun bt443 => (if (wrap64 ((x7.length : Int) + (x8.length : Int))) > 32 then (if bt443.2.2 = 6 then (if bt443.1 = 0 then (some (bt443.2.1 == 0)) else (some false)) else (some false)) else ((changepoint_Test.f x8 x7).bind fun bt446 => ((changepoint_Test.f x9 x10).bind fun bt449 => ((changepoint_Test.f x11 x12).bind fun bt452 => (sleuthlaw45_ChangepointFair.l2 k x7 x8 bt443.1 bt443.2.1 bt443.2.2 bt446.1 bt446.2.1 bt446.2.2 bt449.1 bt449.2.1 bt449.2.2 bt452.1 bt452.2.1 bt452.2.2 1 1))))))
def sleuthlaw45_ChangepointFair.l2 : Nat → List Int → List Int → Int → Int → Int → Int → Int → Int → Int → Int → Int → Int → Int → Int → Int → Int → Option (Bool)
 | 0, _, _, _, _, _, _, _, _, _, _, _, _, _, _, _, _ => none
 | k + 1, x7, x8, x15, x16, x17, x18, x19, x20, x21, x22, x23, x24, x25, x26, x27, x28 => if x28 ≤ (x7.length : Int) then (if x28 = 0 then (none) else (sleuthlaw45_ChangepointFair.l2 k x7 x8 x15 x16 x17 x18 x19 x20 x21 x22 x23 x24 x25 x26 (wrap64 (Int.tdiv (wrap64 (x27 * (wrap64 ((x8.length : Int) + x28)))) x28)) (wrap64 (x28 + 1)))) else (if x17 = 0 then (if x20 = 0 then (if x23 = 0 then (if x26 = 0 then (if x15 = x18 then (if x15 = x21 then (if x15 = x24 then (if x16 = x19 then (if x16 = x22 then (if x16 = x25 then (if x16 = x27 then (if x15 ≥ 1 then (some (decide (x15 ≤ x16))) else (some false)) else (some false)) else (some false)) else (some false)) else (some false)) else (some false)) else (some false)) else (some false)) else (some false)) else (some false)) else (some false)) else (some false))
end
def sleuthlaw45_ChangepointFair.f (k : Nat) (l0 : List Int) (l1 : List Int) (a2 : Int) : Option (Bool) := (sleuthlaw45_known.f k).bind fun t399 => (if t399 = true then (if (l0.length : Int) = 0 then (sleuthlaw45_ChangepointFair.j0 k l0 l1 a2 true) else (if (l1.length : Int) = 0 then (sleuthlaw45_ChangepointFair.j0 k l0 l1 a2 true) else (sleuthlaw45_ChangepointFair.j0 k l0 l1 a2 (decide ((wrap64 ((l0.length : Int) + (l1.length : Int))) > 34))))) else (sleuthlaw45_ChangepointFair.j0 k l0 l1 a2 true))
theorem sleuthlaw45_ChangepointFair.mono_l : ∀ k, (∀ y0 y1 y2 y3, LeO (sleuthlaw45_ChangepointFair.j0 k y0 y1 y2 y3) (sleuthlaw45_ChangepointFair.j0 (k + 1) y0 y1 y2 y3)) ∧ (∀ y0 y1 y2 y3 y4 y5 y6, LeO (sleuthlaw45_ChangepointFair.l0 k y0 y1 y2 y3 y4 y5 y6) (sleuthlaw45_ChangepointFair.l0 (k + 1) y0 y1 y2 y3 y4 y5 y6)) ∧ (∀ y0 y1 y2 y3 y4 y5 y6 y7 y8, LeO (sleuthlaw45_ChangepointFair.l1 k y0 y1 y2 y3 y4 y5 y6 y7 y8) (sleuthlaw45_ChangepointFair.l1 (k + 1) y0 y1 y2 y3 y4 y5 y6 y7 y8)) ∧ (∀ y0 y1 y2 y3 y4 y5 y6 y7 y8 y9 y10 y11 y12 y13 y14 y15, LeO (sleuthlaw45_ChangepointFair.l2 k y0 y1 y2 y3 y4 y5 y6 y7 y8 y9 y10 y11 y12 y13 y14 y15) (sleuthlaw45_ChangepointFair.l2 (k + 1) y0 y1 y2 y3 y4 y5 y6 y7 y8 y9 y10 y11 y12 y13 y14 y15))
 | 0 => ⟨fun _ _ _ _ r h => by simp [sleuthlaw45_ChangepointFair.j0] at h, fun _ _ _ _ _ _ _ r h => by simp [sleuthlaw45_ChangepointFair.l0] at h, fun _ _ _ _ _ _ _ _ _ r h => by simp [sleuthlaw45_ChangepointFair.l1] at h, fun _ _ _ _ _ _ _ _ _ _ _ _ _ _ _ _ r h => by simp [sleuthlaw45_ChangepointFair.l2] at h⟩
 | k + 1 => by
  obtain ⟨ih0, ih1, ih2, ih3⟩ := sleuthlaw45_ChangepointFair.mono_l k
  refine ⟨?_, ?_, ?_, ?_⟩
  ·intro y0 y1 y2 y3
   unfold sleuthlaw45_ChangepointFair.j0
   repeat' first
   | (with_reducible exact ih0 _ _ _ _)
   | (with_reducible exact ih1 _ _ _ _ _ _ _)
   | (with_reducible exact ih2 _ _ _ _ _ _ _ _ _)
   | (with_reducible exact ih3 _ _ _ _ _ _ _ _ _ _ _ _ _ _ _ _)
   | (with_reducible exact sleuthlaw45_known.mono _)
   | (with_reducible exact LeO.refl _)
   | (with_reducible exact LeO.none _)
   | (with_reducible refine LeO.ite ?_ ?_)
   | (with_reducible refine LeO.bind ?_ (fun _ => ?_))
   | exact ih0 _ _ _ _
   | exact ih1 _ _ _ _ _ _ _
   | exact ih2 _ _ _ _ _ _ _ _ _
   | exact ih3 _ _ _ _ _ _ _ _ _ _ _ _ _ _ _ _
   | exact sleuthlaw45_known.mono _
   | exact LeO.none _
   | refine LeO.ite ?_ ?_
   | refine LeO.bind ?_ (fun _ => ?_)
  ·intro y0 y1 y2 y3 y4 y5 y6
   unfold sleuthlaw45_ChangepointFair.l0
   repeat' first
   | (with_reducible exact ih0 _ _ _ _)
   | (with_reducible exact ih1 _ _ _ _ _ _ _)
   | (with_reducible exact ih2 _ _ _ _ _ _ _ _ _)
   | (with_reducible exact ih3 _ _ _ _ _ _ _ _ _ _ _ _ _ _ _ _)
   | (with_reducible exact sleuthlaw45_known.mono _)
   | (with_reducible exact LeO.refl _)
   | (with_reducible exact LeO.none _)
   | (with_reducible refine LeO.ite ?_ ?_)
   | (with_reducible refine LeO.bind ?_ (fun _ => ?_))
   | exact ih0 _ _ _ _
   | exact ih1 _ _ _ _ _ _ _
   | exact ih2 _ _ _ _ _ _ _ _ _
   | exact ih3 _ _ _ _ _ _ _ _ _ _ _ _ _ _ _ _
   | exact sleuthlaw45_known.mono _
   | exact LeO.none _
   | refine LeO.ite ?_ ?_
   | refine LeO.bind ?_ (fun _ => ?_)
  ·intro y0 y1 y2 y3 y4 y5 y6 y7 y8
   unfold sleuthlaw45_ChangepointFair.l1
   repeat' first
   | (with_reducible exact ih0 _ _ _ _)
   | (with_reducible exact ih1 _ _ _ _ _ _ _)
   | (with_reducible exact ih2 _ _ _ _ _ _ _ _ _)
   | (with_reducible exact ih3 _ _ _ _ _ _ _ _ _ _ _ _ _ _ _ _)
   | (with_reducible exact sleuthlaw45_known.mono _)
   | (with_reducible exact LeO.refl _)
   | (with_reducible exact LeO.none _)
   | (with_reducible refine LeO.ite ?_ ?_)
   | (with_reducible refine LeO.bind ?_ (fun _ => ?_))
   | exact ih0 _ _ _ _
   | exact ih1 _ _ _ _ _ _ _
   | exact ih2 _ _ _ _ _ _ _ _ _
   | exact ih3 _ _ _ _ _ _ _ _ _ _ _ _ _ _ _ _
   | exact sleuthlaw45_known.mono _
   | exact LeO.none _
   | refine LeO.ite ?_ ?_
   | refine LeO.bind ?_ (fun _ => ?_)
  ·intro y0 y1 y2 y3 y4 y5 y6 y7 y8 y9 y10 y11 y12 y13 y14 y15
   unfold sleuthlaw45_ChangepointFair.l2
   repeat' first
   | (with_reducible exact ih0 _ _ _ _)
   | (with_reducible exact ih1 _ _ _ _ _ _ _)
   | (with_reducible exact ih2 _ _ _ _ _ _ _ _ _)
   | (with_reducible exact ih3 _ _ _ _ _ _ _ _ _ _ _ _ _ _ _ _)
   | (with_reducible exact sleuthlaw45_known.mono _)
   | (with_reducible exact LeO.refl _)
   | (with_reducible exact LeO.none _)
   | (with_reducible refine LeO.ite ?_ ?_)
   | (with_reducible refine LeO.bind ?_ (fun _ => ?_))
   | exact ih0 _ _ _ _
   | exact ih1 _ _ _ _ _ _ _
   | exact ih2 _ _ _ _ _ _ _ _ _
   | exact ih3 _ _ _ _ _ _ _ _ _ _ _ _ _ _ _ _
   | exact sleuthlaw45_known.mono _
   | exact LeO.none _
   | refine LeO.ite ?_ ?_
   | refine LeO.bind ?_ (fun _ => ?_)
theorem sleuthlaw45_ChangepointFair.mono : ∀ a0 a1 a2 k, LeO (sleuthlaw45_ChangepointFair.f k a0 a1 a2) (sleuthlaw45_ChangepointFair.f (k + 1) a0 a1 a2) := by
 intro a0 a1 a2 k
 obtain ⟨ih0, ih1, ih2, ih3⟩ := sleuthlaw45_ChangepointFair.mono_l k
 unfold sleuthlaw45_ChangepointFair.f
 repeat' first
   | (with_reducible exact ih0 _ _ _ _)
   | (with_reducible exact ih1 _ _ _ _ _ _ _)
   | (with_reducible exact ih2 _ _ _ _ _ _ _ _ _)
   | (with_reducible exact ih3 _ _ _ _ _ _ _ _ _ _ _ _ _ _ _ _)
   | (with_reducible exact sleuthlaw45_known.mono _)
   | (with_reducible exact LeO.refl _)
   | (with_reducible exact LeO.none _)
   | (with_reducible refine LeO.ite ?_ ?_)
   | (with_reducible refine LeO.bind ?_ (fun _ => ?_))
   | exact ih0 _ _ _ _
   | exact ih1 _ _ _ _ _ _ _
   | exact ih2 _ _ _ _ _ _ _ _ _
   | exact ih3 _ _ _ _ _ _ _ _ _ _ _ _ _ _ _ _
   | exact sleuthlaw45_known.mono _
   | exact LeO.none _
   | refine LeO.ite ?_ ?_
   | refine LeO.bind ?_ (fun _ => ?_)
def sleuthlaw45_ChangepointFair.T7 : Bool × List (List Nat × List Nat) := (true, [([], []), ([], []), ([], []), ([1, 2], [1, 2]), ([3], [3]), ([4], [4]), ([5], [5]), ([0, 6], [0, 6]), ([], []), ([], []), ([], []), ([9, 10], [9, 10]), ([11], [11]), ([12], [12]), ([], []), ([14], [14]), ([13, 15], [13, 15]), ([16], [16]), ([8, 17, 7], [8, 17]), ([], []), ([], []), ([], []), ([20, 21], [20, 21]), ([22], [22]), ([23], [23]), ([24], [24]), ([25], [25]), ([19, 26, 18], [19, 26]), ([7, 27, 0, 1, 2, 3, 4, 5, 6, 7], [0, 7]), ([18, 28, 0, 1, 2, 3, 4, 5, 6, 7, 8, 9, 10, 11, 12, 13, 14, 15, 16, 17, 18, 28], [8, 18]), ([27, 29, 0, 1, 2, 3, 4, 5, 6, 7, 8, 9, 10, 11, 12, 13, 14, 15, 16, 17, 18, 19, 20, 21, 22, 23, 24, 25, 26, 27, 28, 29], [19, 27])])
def sleuthlaw45_ChangepointFair.B7 : List Nat := [0, 0, 0, 6, 14, 30, 62, 127, 0, 0, 0, 1536, 3584, 7680, 0, 16384, 65024, 130560, 262143, 0, 0, 0, 3145728, 7340032, 15728640, 32505856, 66060288, 134217727, 268435455, 536870911, 1073741823]
theorem sleuthlaw45_ChangepointFair.tab7 : rtab .any (opsOf Try.f6 7) = sleuthlaw45_ChangepointFair.T7 := by kernel_rfl
theorem sleuthlaw45_ChangepointFair.bits7 : waitsOk sleuthlaw45_ChangepointFair.T7.2 sleuthlaw45_ChangepointFair.B7 = true := by kernel_rfl
def sleuthlaw45_ChangepointFair.T11 : Bool × List (List Nat × List Nat) := (true, [([], []), ([], []), ([], []), ([1, 2], [1, 2]), ([3], [3]), ([4], [4]), ([5], [5]), ([0, 6], [0, 6]), ([], []), ([], []), ([], []), ([9, 10], [9, 10]), ([11], [11]), ([12], [12]), ([], []), ([14], [14]), ([13, 15], [13, 15]), ([16], [16]), ([8, 17, 7], [8, 17]), ([], []), ([], []), ([], []), ([20, 21], [20, 21]), ([22], [22]), ([23], [23]), ([24], [24]), ([25], [25]), ([19, 26, 18], [19, 26]), ([7, 27, 0, 1, 2, 3, 4, 5, 6, 7], [0, 7]), ([18, 28, 0, 1, 2, 3, 4, 5, 6, 7, 8, 9, 10, 11, 12, 13, 14, 15, 16, 17, 18, 28], [8, 18]), ([27, 29, 0, 1, 2, 3, 4, 5, 6, 7, 8, 9, 10, 11, 12, 13, 14, 15, 16, 17, 18, 19, 20, 21, 22, 23, 24, 25, 26, 27, 28, 29], [19, 27])])
def sleuthlaw45_ChangepointFair.B11 : List Nat := [0, 0, 0, 6, 14, 30, 62, 127, 0, 0, 0, 1536, 3584, 7680, 0, 16384, 65024, 130560, 262143, 0, 0, 0, 3145728, 7340032, 15728640, 32505856, 66060288, 134217727, 268435455, 536870911, 1073741823]
theorem sleuthlaw45_ChangepointFair.tab11 : rtab .any (opsOf Try.f6 11) = sleuthlaw45_ChangepointFair.T11 := by kernel_rfl
theorem sleuthlaw45_ChangepointFair.bits11 : waitsOk sleuthlaw45_ChangepointFair.T11.2 sleuthlaw45_ChangepointFair.B11 = true := by kernel_rfl
set_option maxHeartbeats 8000000 in
set_option maxRecDepth 100000 in
theorem sleuthlaw45_ChangepointFair.calls (k : Nat) (A0 : Option Addr) (c0 : Nat) (l0 : List Int) (A1 : Option Addr) (c1 : Nat) (l1 : List Int) (a2 : Int) (r : Bool) (w : World) (hr0 : Kd.C (Kd.int .u8) w A0 l0.length l0) (hc0 : l0.length ≤ c0) (hr1 : Kd.C (Kd.int .u8) w A1 l1.length l1) (hc1 : l1.length ≤ c1) (h : sleuthlaw45_ChangepointFair.f k l0 l1 a2 = some r) :
  Calls Try.prog 6 #[.slice A0 l0.length c0, .slice A1 l1.length c1, .int .i16 a2] w fun e w' => e = .returned (.bool r) ∧ Below w.heap.size w w' := by
 have HR0 := Aside0.mk hr0
 have HC0 := Aside0.mk hc0
 clear hr0 hc0
 have HR1 := Aside0.mk hr1
 have HC1 := Aside0.mk hc1
 clear hr1 hc1
 have HB := Aside0.mk (Below.refl w.heap.size w)
 have H : ((sleuthlaw45_known.f k).bind fun t399 => (if t399 = true then (if (l0.length : Int) = 0 then (sleuthlaw45_ChangepointFair.j0 k l0 l1 a2 true) else (if (l1.length : Int) = 0 then (sleuthlaw45_ChangepointFair.j0 k l0 l1 a2 true) else (sleuthlaw45_ChangepointFair.j0 k l0 l1 a2 (decide ((wrap64 ((l0.length : Int) + (l1.length : Int))) > 34))))) else (sleuthlaw45_ChangepointFair.j0 k l0 l1 a2 true))) = some r := h
 clear h
 have HC4 := Aside0.mk H
 clear H
 go_enter Try.func6, Try.ntmps6
 go_upto_region 1 with (fail)
 go_cut [48] (fun v48 wc => ∃ (kq : Nat) (x48_3 : Bool), v48 = .bool x48_3 ∧ Aside0 (sleuthlaw45_ChangepointFair.j0 kq l0 l1 a2 x48_3 = some r) ∧ Aside0 (kq ≤ k) ∧ Aside0 (Below w.heap.size w wc))
 case first => as_aux_lemma =>
   have H := HC4.out
   clear HC4
   replace H := Option.bind_eq_some_iff.mp H
   obtain ⟨t399, A50, H⟩ := H
   replace H : (if t399 = true then (if (l0.length : Int) = 0 then (sleuthlaw45_ChangepointFair.j0 k l0 l1 a2 true) else (if (l1.length : Int) = 0 then (sleuthlaw45_ChangepointFair.j0 k l0 l1 a2 true) else (sleuthlaw45_ChangepointFair.j0 k l0 l1 a2 (decide ((wrap64 ((l0.length : Int) + (l1.length : Int))) > 34))))) else (sleuthlaw45_ChangepointFair.j0 k l0 l1 a2 true)) = some r := H
   have A5 := Aside0.mk A50
   clear A50
   by_cases c6 : t399 = true
   rotate_left
   ·as_aux_lemma =>
     replace c6 := Bool.eq_false_iff.mpr c6
     subst c6
     have H1 : (sleuthlaw45_ChangepointFair.j0 k l0 l1 a2 true) = some r := by rw [if_neg (show ¬ (false = true) by decide)] at H; exact H
     clear H
     have H := H1
     clear H1
     have H' := Aside0.mk H
     clear H
     go_wp2_with (first | ((with_reducible refine gate_callee (f := 13) rfl ?_); refine goesL_ (some 29) rfl rfl Try.func13 (by kernel_rfl) rfl #[] rfl qgsleuthlaw45changepointfair_12 ?_; (with_reducible refine (sleuthlaw45_known.calls k  false _ A5.out).mono ?_); rintro e w12 ⟨rfl, hb⟩; refine ⟨_, rfl, ?_⟩; have n0_ := Aside0.mk (below_step qgsleuthlaw45changepointfair_0 hb); clear HB; have HB := n0_; clear n0_; (try clear hb); (try clear hb2); (try clear hk); (try clear hi)))
     go_meet
     case rel =>
      exact ⟨_, (true), qgsleuthlaw45changepointfair_90, H', ⟨by first | omega | exact Nat.le_refl _⟩, ⟨qgsleuthlaw45changepointfair_0⟩⟩
   as_aux_lemma =>
    subst c6
    have H1 : (if (l0.length : Int) = 0 then (sleuthlaw45_ChangepointFair.j0 k l0 l1 a2 true) else (if (l1.length : Int) = 0 then (sleuthlaw45_ChangepointFair.j0 k l0 l1 a2 true) else (sleuthlaw45_ChangepointFair.j0 k l0 l1 a2 (decide ((wrap64 ((l0.length : Int) + (l1.length : Int))) > 34))))) = some r := by rw [if_pos rfl] at H; exact H
    clear H
    have H := H1
    clear H1
    by_cases c7 : (l0.length : Int) = 0
    ·as_aux_lemma =>
      rw [if_pos c7] at H
      have c7b0 : ((l0.length : Int) == 0) = true := beq_iff_eq.mpr c7
      have c7b1 : ((l0.length : Int) != 0) = false := bne_eq_false_iff_eq.mpr c7
      clear c7
      (first | rw [c7b0] | (simp only [i64_w, i32_w]; rw [c7b0]) | skip)
      have H' := Aside0.mk H
      clear H
      go_wp2_with (first | ((with_reducible refine gate_callee (f := 13) rfl ?_); refine goesL_ (some 29) rfl rfl Try.func13 (by kernel_rfl) rfl #[] rfl qgsleuthlaw45changepointfair_12 ?_; (with_reducible refine (sleuthlaw45_known.calls k  true _ A5.out).mono ?_); rintro e w8 ⟨rfl, hb⟩; refine ⟨_, rfl, ?_⟩; have n0_ := Aside0.mk (below_step qgsleuthlaw45changepointfair_0 hb); clear HB; have HB := n0_; clear n0_; (try clear hb); (try clear hb2); (try clear hk); (try clear hi)))
      go_meet
      case rel =>
       exact ⟨_, (true), qgsleuthlaw45changepointfair_90, H', ⟨by first | omega | exact Nat.le_refl _⟩, ⟨qgsleuthlaw45changepointfair_0⟩⟩
    rw [if_neg c7] at H
    have c7b0 : ((l0.length : Int) == 0) = false := beq_eq_false_iff_ne.mpr c7
    have c7b1 : ((l0.length : Int) != 0) = true := bne_iff_ne.mpr c7
    have c7b2 : ¬ (l0 = []) := fun h_ => c7 (by rw [h_]; rfl)
    (first | rw [c7b0] | (simp only [i64_w, i32_w]; rw [c7b0]) | skip)
    by_cases c9 : (l1.length : Int) = 0
    ·as_aux_lemma =>
      rw [if_pos c9] at H
      have c9b0 : ((l1.length : Int) == 0) = true := beq_iff_eq.mpr c9
      have c9b1 : ((l1.length : Int) != 0) = false := bne_eq_false_iff_eq.mpr c9
      clear c9
      have H' := Aside0.mk H
      clear H
      go_wp2_with (first | ((with_reducible refine gate_callee (f := 13) rfl ?_); refine goesL_ (some 29) rfl rfl Try.func13 (by kernel_rfl) rfl #[] rfl qgsleuthlaw45changepointfair_12 ?_; (with_reducible refine (sleuthlaw45_known.calls k  true _ A5.out).mono ?_); rintro e w10 ⟨rfl, hb⟩; refine ⟨_, rfl, ?_⟩; have n0_ := Aside0.mk (below_step qgsleuthlaw45changepointfair_0 hb); clear HB; have HB := n0_; clear n0_; (try clear hb); (try clear hb2); (try clear hk); (try clear hi)))
      go_meet
      case rel =>
       exact ⟨_, (true), qgsleuthlaw45changepointfair_90, H', ⟨by first | omega | exact Nat.le_refl _⟩, ⟨qgsleuthlaw45changepointfair_0⟩⟩
    rw [if_neg c9] at H
    have c9b0 : ((l1.length : Int) == 0) = false := beq_eq_false_iff_ne.mpr c9
    have c9b1 : ((l1.length : Int) != 0) = true := bne_iff_ne.mpr c9
    have c9b2 : ¬ (l1 = []) := fun h_ => c9 (by rw [h_]; rfl)
    have H' := Aside0.mk H
    clear H
    go_wp2_with (first | ((with_reducible refine gate_callee (f := 13) rfl ?_); refine goesL_ (some 29) rfl rfl Try.func13 (by kernel_rfl) rfl #[] rfl qgsleuthlaw45changepointfair_12 ?_; (with_reducible refine (sleuthlaw45_known.calls k  true _ A5.out).mono ?_); rintro e w11 ⟨rfl, hb⟩; refine ⟨_, rfl, ?_⟩; have n0_ := Aside0.mk (below_step qgsleuthlaw45changepointfair_0 hb); clear HB; have HB := n0_; clear n0_; (try clear hb); (try clear hb2); (try clear hk); (try clear hi)))
    go_meet
    case rel =>
     exact ⟨_, (decide ((wrap64 ((l0.length : Int) + (l1.length : Int))) > 34)), qgsleuthlaw45changepointfair_90, H', ⟨by first | omega | exact Nat.le_refl _⟩, ⟨qgsleuthlaw45changepointfair_0⟩⟩
 clear HC4
 try clear c1
 try clear p2
 try clear c6
 try clear p6
 try clear c7
 try clear c7b0
 try clear c7b1
 try clear c7b2
 try clear c9
 try clear c9b0
 try clear c9b1
 try clear c9b2
 obtain ⟨kq, x48_3, rfl, HA, HJ3, HB⟩ := hcut
 cases kq with
 | zero =>
  exact absurd HA.out (by simp [sleuthlaw45_ChangepointFair.j0])
 | succ kj3 => as_aux_lemma =>
   have H := HA.out
   clear HA
   simp only [sleuthlaw45_ChangepointFair.j0] at H
   by_cases c13 : x48_3 = true
   ·as_aux_lemma =>
     subst c13
     have H1 : ((sleuthlaw45_known.f kj3).bind fun t400 => (some t400)) = some r := by rw [if_pos rfl] at H; exact H
     clear H
     have H := H1
     clear H1
     replace H := Option.bind_eq_some_iff.mp H
     obtain ⟨t400, A140, H⟩ := H
     replace H : (some t400) = some r := H
     have A14 := Aside0.mk A140
     clear A140
     obtain rfl := Option.some.inj H
     go_wp2_with (first | ((with_reducible refine gate_callee (f := 13) rfl ?_); refine goesL_ (some 49) rfl rfl Try.func13 (by kernel_rfl) rfl #[] rfl qgsleuthlaw45changepointfair_12 ?_; (with_reducible refine (sleuthlaw45_known.calls kj3  t400 _ A14.out).mono ?_); rintro e w15 ⟨rfl, hb⟩; refine ⟨_, rfl, ?_⟩; have n0_ := Aside0.mk (below_step qgsleuthlaw45changepointfair_0 hb); clear HB; have HB := n0_; clear n0_; (try clear hb); (try clear hb2); (try clear hk); (try clear hi)))
     go_ret
     exact ⟨qgsleuthlaw45changepointfair_13, qgsleuthlaw45changepointfair_0⟩
   replace c13 := Bool.eq_false_iff.mpr c13
   subst c13
   have H1 : (sleuthlaw45_ChangepointFair.l0 kj3 l0 l1 a2 ([] : List Int) ([] : List Int) ([] : List Int) 0) = some r := by rw [if_neg (show ¬ (false = true) by decide)] at H; exact H
   clear H
   have H := H1
   clear H1
   have H' := Aside0.mk H
   clear H
   go_wp2
   go_loopg [7, 9, 11, 13] kj3 (fun kq v7 v9 v11 v13 w' => ∃ (x7_2 : List Int) (x9_2 : List Int) (x11_2 : List Int) (x13_2 : Int), v13 = .int .i64 x13_2 ∧ Aside0 (sleuthlaw45_ChangepointFair.l0 kq l0 l1 a2 x7_2 x9_2 x11_2 x13_2 = some r) ∧ Aside0 (kq ≤ kj3) ∧ Aside0 (Kd.R (Kd.int .i64) 3 w' w.heap.size (fun k_ => some k_ ≠ (v9 : Value).ownBlock ∧ some k_ ≠ (v11 : Value).ownBlock) v7 x7_2) ∧ Aside0 (Kd.R (Kd.int .i64) 3 w' w.heap.size (fun k_ => some k_ ≠ (v7 : Value).ownBlock ∧ some k_ ≠ (v11 : Value).ownBlock) v9 x9_2) ∧ Aside0 (Kd.R (Kd.int .i64) 3 w' w.heap.size (fun k_ => some k_ ≠ (v7 : Value).ownBlock ∧ some k_ ≠ (v9 : Value).ownBlock) v11 x11_2) ∧ Aside0 (Below w.heap.size w w'))
   case atStart => as_aux_lemma =>
     exact ⟨(([] : List Int)), (([] : List Int)), (([] : List Int)), (0), qgsleuthlaw45changepointfair_90, H', ⟨Nat.le_refl _⟩, ⟨qgsleuthlaw45changepointfair_22⟩, ⟨qgsleuthlaw45changepointfair_22⟩, ⟨qgsleuthlaw45changepointfair_22⟩, ⟨qgsleuthlaw45changepointfair_0⟩⟩
   clear H'
   try clear c1
   try clear p2
   try clear c6
   try clear p6
   try clear c7
   try clear c7b0
   try clear c7b1
   try clear c7b2
   try clear c9
   try clear c9b0
   try clear c9b1
   try clear c9b2
   try clear c13
   try clear p2
   try clear p6
   obtain ⟨x7_2, x9_2, x11_2, x13_2, rfl, HA, HK2, HO_7, HO_9, HO_11, HB⟩ := hrel
   cases gk with
   | zero =>
    exact absurd HA.out (by simp [sleuthlaw45_ChangepointFair.l0])
   | succ k2 => as_aux_lemma =>
     have H := HA.out
     clear HA
     simp only [sleuthlaw45_ChangepointFair.l0] at H
     by_cases c16 : x13_2 < (l0.length : Int)
     ·as_aux_lemma =>
       rw [if_pos c16] at H
       have c16b0 : decide (x13_2 < (l0.length : Int)) = true := decide_eq_true c16
       clear c16
       by_cases c17 : 0 ≤ x13_2
       rotate_left
       ·rw [if_neg c17] at H
        exact absurd H (by simp)
       as_aux_lemma =>
        rw [if_pos c17] at H
        have c17b0 : decide (0 ≤ x13_2) = true := decide_eq_true c17
        clear c17
        obtain ⟨y402, hy402⟩ : ∃ y_ : List Int, y_ = (([wrap64 (rd l0 x13_2)] : List Int)) := ⟨_, rfl⟩
        replace H : (if x7_2.length + y402.length < 17592186044416 then ((some (([wrap64 ((wrap64 (rd l0 x13_2)) + (wrap64 (a2)))] : List Int) : List Int)).bind fun y409 => (if x9_2.length + y409.length < 17592186044416 then ((some (([wrap64 (-(wrap64 (rd l0 x13_2)))] : List Int) : List Int)).bind fun y416 => (if x11_2.length + y416.length < 17592186044416 then (sleuthlaw45_ChangepointFair.l0 k2 l0 l1 a2 (x7_2 ++ y402) (x9_2 ++ y409) (x11_2 ++ y416) (wrap64 (x13_2 + 1))) else (none))) else (none))) else (none)) = some r := by first | (rw [hy402]; with_reducible exact H) | (have H2_ := (Option.bind_some _ _).symm.trans H; rw [hy402]; with_reducible exact H2_) | (have H2_ := (Option.bind_some _ _).symm.trans H; with_reducible exact H2_) | with_reducible exact H | (rw [hy402]; exact H) | exact H
        have Ny402 := Aside0.mk hy402
        clear hy402
        by_cases c18 : x7_2.length + y402.length < 17592186044416
        rotate_left
        ·rw [if_neg c18] at H
         exact absurd H (by simp)
        as_aux_lemma =>
         rw [if_pos c18] at H
         have LMc18 := Aside0.mk c18
         clear c18
         obtain ⟨y405, hy405⟩ : ∃ y_ : List Int, y_ = (x7_2 ++ y402) := ⟨_, rfl⟩
         replace H : ((some (([wrap64 ((wrap64 (rd l0 x13_2)) + (wrap64 (a2)))] : List Int) : List Int)).bind fun y409 => (if x9_2.length + y409.length < 17592186044416 then ((some (([wrap64 (-(wrap64 (rd l0 x13_2)))] : List Int) : List Int)).bind fun y416 => (if x11_2.length + y416.length < 17592186044416 then (sleuthlaw45_ChangepointFair.l0 k2 l0 l1 a2 y405 (x9_2 ++ y409) (x11_2 ++ y416) (wrap64 (x13_2 + 1))) else (none))) else (none))) = some r := by first | (rw [hy405]; with_reducible exact H) | (have H2_ := (Option.bind_some _ _).symm.trans H; rw [hy405]; with_reducible exact H2_) | (have H2_ := (Option.bind_some _ _).symm.trans H; with_reducible exact H2_) | with_reducible exact H | (rw [hy405]; exact H) | exact H
         have Ny405 := Aside0.mk hy405
         clear hy405
         obtain ⟨y409, hy409⟩ : ∃ y_ : List Int, y_ = (([wrap64 ((wrap64 (rd l0 x13_2)) + (wrap64 (a2)))] : List Int)) := ⟨_, rfl⟩
         replace H : (if x9_2.length + y409.length < 17592186044416 then ((some (([wrap64 (-(wrap64 (rd l0 x13_2)))] : List Int) : List Int)).bind fun y416 => (if x11_2.length + y416.length < 17592186044416 then (sleuthlaw45_ChangepointFair.l0 k2 l0 l1 a2 y405 (x9_2 ++ y409) (x11_2 ++ y416) (wrap64 (x13_2 + 1))) else (none))) else (none)) = some r := by first | (rw [hy409]; with_reducible exact H) | (have H2_ := (Option.bind_some _ _).symm.trans H; rw [hy409]; with_reducible exact H2_) | (have H2_ := (Option.bind_some _ _).symm.trans H; with_reducible exact H2_) | with_reducible exact H | (rw [hy409]; exact H) | exact H
         have Ny409 := Aside0.mk hy409
         clear hy409
         by_cases c19 : x9_2.length + y409.length < 17592186044416
         rotate_left
         ·rw [if_neg c19] at H
          exact absurd H (by simp)
         as_aux_lemma =>
          rw [if_pos c19] at H
          have LMc19 := Aside0.mk c19
          clear c19
          obtain ⟨y412, hy412⟩ : ∃ y_ : List Int, y_ = (x9_2 ++ y409) := ⟨_, rfl⟩
          replace H : ((some (([wrap64 (-(wrap64 (rd l0 x13_2)))] : List Int) : List Int)).bind fun y416 => (if x11_2.length + y416.length < 17592186044416 then (sleuthlaw45_ChangepointFair.l0 k2 l0 l1 a2 y405 y412 (x11_2 ++ y416) (wrap64 (x13_2 + 1))) else (none))) = some r := by first | (rw [hy412]; with_reducible exact H) | (have H2_ := (Option.bind_some _ _).symm.trans H; rw [hy412]; with_reducible exact H2_) | (have H2_ := (Option.bind_some _ _).symm.trans H; with_reducible exact H2_) | with_reducible exact H | (rw [hy412]; exact H) | exact H
          have Ny412 := Aside0.mk hy412
          clear hy412
          obtain ⟨y416, hy416⟩ : ∃ y_ : List Int, y_ = (([wrap64 (-(wrap64 (rd l0 x13_2)))] : List Int)) := ⟨_, rfl⟩
          replace H : (if x11_2.length + y416.length < 17592186044416 then (sleuthlaw45_ChangepointFair.l0 k2 l0 l1 a2 y405 y412 (x11_2 ++ y416) (wrap64 (x13_2 + 1))) else (none)) = some r := by first | (rw [hy416]; with_reducible exact H) | (have H2_ := (Option.bind_some _ _).symm.trans H; rw [hy416]; with_reducible exact H2_) | (have H2_ := (Option.bind_some _ _).symm.trans H; with_reducible exact H2_) | with_reducible exact H | (rw [hy416]; exact H) | exact H
          have Ny416 := Aside0.mk hy416
          clear hy416
          by_cases c20 : x11_2.length + y416.length < 17592186044416
          rotate_left
          ·rw [if_neg c20] at H
           exact absurd H (by simp)
          as_aux_lemma =>
           rw [if_pos c20] at H
           have LMc20 := Aside0.mk c20
           clear c20
           obtain ⟨y419, hy419⟩ : ∃ y_ : List Int, y_ = (x11_2 ++ y416) := ⟨_, rfl⟩
           replace H : (sleuthlaw45_ChangepointFair.l0 k2 l0 l1 a2 y405 y412 y419 (wrap64 (x13_2 + 1))) = some r := by first | (rw [hy419]; with_reducible exact H) | (have H2_ := (Option.bind_some _ _).symm.trans H; rw [hy419]; with_reducible exact H2_) | (have H2_ := (Option.bind_some _ _).symm.trans H; with_reducible exact H2_) | with_reducible exact H | (rw [hy419]; exact H) | exact H
           have Ny419 := Aside0.mk hy419
           clear hy419
           have H' := Aside0.mk H
           clear H
           obtain ⟨Ao21, co21, eo21⟩ := Kd.R_slice HO_7.out
           subst eo21
           obtain ⟨Ao22, co22, eo22⟩ := Kd.R_slice HO_9.out
           subst eo22
           obtain ⟨Ao23, co23, eo23⟩ := Kd.R_slice HO_11.out
           subst eo23
           try go_wp2
           have n0_ := Aside0.mk (Kd.R_drew HO_7.out)
           have n1_ := Aside0.mk (Kd.R_drew HO_9.out)
           have n2_ := Aside0.mk (Kd.R_drew HO_11.out)
           have n3_ := Aside0.mk (below_drew1 HB.out)
           clear HO_7
           clear HO_9
           clear HO_11
           clear HB
           have HO_7 := n0_
           have HO_9 := n1_
           have HO_11 := n2_
           have HB := n3_
           clear n0_ n1_ n2_ n3_
           have p401 : 0 ≤ (x13_2 : Int) := of_decide_eq_true qgsleuthlaw45changepointfair_62
           have q401 : x13_2 < (l0.length : Int) := of_decide_eq_true qgsleuthlaw45changepointfair_62
           obtain ⟨ad401, e401, hx401_0⟩ := Kd.at_int HR0.out x13_2 p401 q401
           have hw401_0 := hx401_0
           cases e401
           replace hx401_0 := (HB.out.cell (World.block_lt_of_cell? w _ hx401_0)).trans hx401_0
           replace p401 := eq_true p401
           replace q401 := eq_true q401
           have p408 : 0 ≤ (x13_2 : Int) := of_decide_eq_true qgsleuthlaw45changepointfair_62
           have q408 : x13_2 < (l0.length : Int) := of_decide_eq_true qgsleuthlaw45changepointfair_62
           obtain ⟨ad408, e408, hx408_0⟩ := Kd.at_int HR0.out x13_2 p408 q408
           have hw408_0 := hx408_0
           obtain rfl : ad401 = ad408 := (by injection e408)
           replace hx408_0 := (HB.out.cell (World.block_lt_of_cell? w _ hx408_0)).trans hx408_0
           replace p408 := eq_true p408
           replace q408 := eq_true q408
           have p415 : 0 ≤ (x13_2 : Int) := of_decide_eq_true qgsleuthlaw45changepointfair_62
           have q415 : x13_2 < (l0.length : Int) := of_decide_eq_true qgsleuthlaw45changepointfair_62
           obtain ⟨ad415, e415, hx415_0⟩ := Kd.at_int HR0.out x13_2 p415 q415
           have hw415_0 := hx415_0
           obtain rfl : ad401 = ad415 := (by injection e415)
           replace hx415_0 := (HB.out.cell (World.block_lt_of_cell? w _ hx415_0)).trans hx415_0
           replace p415 := eq_true p415
           replace q415 := eq_true q415
           refine start_ (n := 31) (S := fun w' => w'.cell? (ad401.add (x13_2).toNat) = some (.int .u8 (rd l0 x13_2)) ∧ w'.cell? (ad401.add (x13_2).toNat) = some (.int .u8 (rd l0 x13_2)) ∧ w'.cell? (ad401.add (x13_2).toNat) = some (.int .u8 (rd l0 x13_2))) (ds := []) A99991_0 (by kernel_rfl) rfl rfl ⟨((HB.out.cell (World.block_lt_of_cell? w _ hw401_0)).trans hw401_0), ((HB.out.cell (World.block_lt_of_cell? w _ hw408_0)).trans hw408_0), ((HB.out.cell (World.block_lt_of_cell? w _ hw415_0)).trans hw415_0)⟩ (fun hHeld => ?_); refine with_tabW sleuthlaw45_ChangepointFair.tab7 sleuthlaw45_ChangepointFair.bits7 (fun HT_ HW_ => ?_)
           generalize wr.drew = w24 at HO_7 HO_9 HO_11 HB hx401_0 hx408_0 hx415_0 hHeld ⊢
           refine pA_ 0 56 A99991_1 HT_ ?_
           refine pA_ 1 57 A99991_2 HT_ ?_
           refine pA_ 2 58 A99991_3 HT_ ?_
           refine pA_ 3 59 A99991_4 HT_ ?_
           refine pA_ 8 64 A99991_5 HT_ ?_
           refine pA_ 9 65 A99991_6 HT_ ?_
           refine pA_ 10 66 A99991_7 HT_ ?_
           refine pA_ 11 67 A99991_8 HT_ ?_
           refine pA_ 14 70 A99991_9 HT_ ?_
           refine pA_ 15 71 A99991_10 HT_ ?_
           refine pA_ 19 75 A99991_11 HT_ ?_
           refine pA_ 20 76 A99991_12 HT_ ?_
           refine pA_ 21 77 A99991_13 HT_ ?_
           refine pA_ 22 78 A99991_14 HT_ ?_
           refine take_ (i := 4) (N := some 60) (v := ?_) (a' := ?_) A99991_15 rfl rfl (take_ofW HT_.out HW_.out (by kernel_rfl)) (fun _ _ _ h => h) (Or.inl ⟨by rfl, ?_⟩) hHeld ?_ ?_
           rotate_left
           ·as_aux_lemma =>
             rintro w' ⟨s0, s1, s2⟩
             go_simp
             with_reducible rfl
           rotate_left
           ·simp only [Act.put, List.setIfInBounds_toArray, List.set_cons_zero, List.set_cons_succ, i64_w, i32_w]
            rfl
           refine pA_ 5 61 A99991_16 HT_ ?_
           refine take_ (i := 12) (N := some 68) (v := ?_) (a' := ?_) A99991_17 rfl rfl (take_ofW HT_.out HW_.out (by kernel_rfl)) (fun _ _ _ h => h) (Or.inl ⟨by rfl, ?_⟩) hHeld ?_ ?_
           rotate_left
           ·as_aux_lemma =>
             rintro w' ⟨s0, s1, s2⟩
             go_simp
             with_reducible rfl
           rotate_left
           ·simp only [Act.put, List.setIfInBounds_toArray, List.set_cons_zero, List.set_cons_succ, i64_w, i32_w]
            rfl
           refine pA_ 13 69 A99991_18 HT_ ?_
           refine pA_ 16 72 A99991_19 HT_ ?_
           refine take_ (i := 23) (N := some 79) (v := ?_) (a' := ?_) A99991_20 rfl rfl (take_ofW HT_.out HW_.out (by kernel_rfl)) (fun _ _ _ h => h) (Or.inl ⟨by rfl, ?_⟩) hHeld ?_ ?_
           rotate_left
           ·as_aux_lemma =>
             rintro w' ⟨s0, s1, s2⟩
             go_simp
             with_reducible rfl
           rotate_left
           ·simp only [Act.put, List.setIfInBounds_toArray, List.set_cons_zero, List.set_cons_succ, i64_w, i32_w]
            rfl
           refine pA_ 24 80 A99991_21 HT_ ?_
           refine pA_ 25 81 A99991_22 HT_ ?_
           have SF : ∀ w', Aside0 (Below w.heap.size w w') → w'.cell? (ad401.add (x13_2).toNat) = some (.int .u8 (rd l0 x13_2)) ∧ w'.cell? (ad401.add (x13_2).toNat) = some (.int .u8 (rd l0 x13_2)) ∧ w'.cell? (ad401.add (x13_2).toNat) = some (.int .u8 (rd l0 x13_2)) := fun w' HB => ⟨((HB.out.cell (World.block_lt_of_cell? w _ hw401_0)).trans hw401_0), ((HB.out.cell (World.block_lt_of_cell? w _ hw408_0)).trans hw408_0), ((HB.out.cell (World.block_lt_of_cell? w _ hw415_0)).trans hw415_0)⟩
           have HR : Aside0 (Rws _ w.heap.size [(.slice none 0 0, []), (.slice Ao21 x7_2.length co21, x7_2), (.slice none 0 0, []), (.slice Ao22 x9_2.length co22, x9_2), (.slice none 0 0, []), (.slice Ao23 x11_2.length co23, x11_2)]) := ⟨(Rws.nil_ (Rws.consA HO_7 (Rws.nil_ (Rws.consA HO_9 (Rws.nil_ (Rws.consA HO_11 Rws.empty))))))⟩
           clear HO_7 HO_9 HO_11
           refine join_ (σ := Value × Value × Value × Value × Value) 4 A99991_23 (fun s_ => [(62, s_.1), (63, s_.2.1), (73, s_.2.2.1), (74, s_.2.2.2.1), (82, s_.2.2.2.2)]) (fun s_ w' => (w'.cell? (ad401.add (x13_2).toNat) = some (.int .u8 (rd l0 x13_2)) ∧ w'.cell? (ad401.add (x13_2).toNat) = some (.int .u8 (rd l0 x13_2)) ∧ w'.cell? (ad401.add (x13_2).toNat) = some (.int .u8 (rd l0 x13_2))) ∧ Aside0 (Rws w' w.heap.size [(.slice none 0 0, []), (s_.2.1, y405), (.slice none 0 0, []), (s_.2.2.2.1, y412), (s_.2.2.2.2, y416), (.slice Ao23 x11_2.length co23, x11_2)]) ∧ Aside0 (Below w.heap.size w w')) ?_ ?_
           rotate_left
           ·as_aux_lemma =>
             intro hJ6_7_17_18_26
             refine join_ (σ := Value × Value × Value × Value) 5 A99991_24 (fun s_ => [(62, s_.1), (63, s_.2.1), (73, s_.2.2.1), (74, s_.2.2.2)]) (fun s_ w' => (w'.cell? (ad401.add (x13_2).toNat) = some (.int .u8 (rd l0 x13_2)) ∧ w'.cell? (ad401.add (x13_2).toNat) = some (.int .u8 (rd l0 x13_2)) ∧ w'.cell? (ad401.add (x13_2).toNat) = some (.int .u8 (rd l0 x13_2))) ∧ Aside0 (Rws w' w.heap.size [(.slice none 0 0, []), (s_.2.1, y405), (.slice none 0 0, []), (s_.2.2.2, y412), (.slice none 0 0, []), (.slice Ao23 x11_2.length co23, x11_2)]) ∧ Aside0 (Below w.heap.size w w')) ?_ ?_
             rotate_left
             ·as_aux_lemma =>
               intro hJ6_7_17_18
               refine join_ (σ := Value × Value × Value × Value) 5 A99991_25 (fun s_ => [(62, s_.1), (63, s_.2.1), (73, s_.2.2.1), (82, s_.2.2.2)]) (fun s_ w' => (w'.cell? (ad401.add (x13_2).toNat) = some (.int .u8 (rd l0 x13_2)) ∧ w'.cell? (ad401.add (x13_2).toNat) = some (.int .u8 (rd l0 x13_2)) ∧ w'.cell? (ad401.add (x13_2).toNat) = some (.int .u8 (rd l0 x13_2))) ∧ Aside0 (Rws w' w.heap.size [(.slice none 0 0, []), (s_.2.1, y405), (s_.2.2.1, y409), (.slice Ao22 x9_2.length co22, x9_2), (s_.2.2.2, y416), (.slice Ao23 x11_2.length co23, x11_2)]) ∧ Aside0 (Below w.heap.size w w')) ?_ ?_
               rotate_left
               ·as_aux_lemma =>
                 intro hJ6_7_17_26
                 refine join_ (σ := Value × Value × Value) 6 A99991_26 (fun s_ => [(62, s_.1), (63, s_.2.1), (73, s_.2.2)]) (fun s_ w' => (w'.cell? (ad401.add (x13_2).toNat) = some (.int .u8 (rd l0 x13_2)) ∧ w'.cell? (ad401.add (x13_2).toNat) = some (.int .u8 (rd l0 x13_2)) ∧ w'.cell? (ad401.add (x13_2).toNat) = some (.int .u8 (rd l0 x13_2))) ∧ Aside0 (Rws w' w.heap.size [(.slice none 0 0, []), (s_.2.1, y405), (s_.2.2, y409), (.slice Ao22 x9_2.length co22, x9_2), (.slice none 0 0, []), (.slice Ao23 x11_2.length co23, x11_2)]) ∧ Aside0 (Below w.heap.size w w')) ?_ ?_
                 rotate_left
                 ·as_aux_lemma =>
                   intro hJ6_7_17
                   refine join_ (σ := Value × Value × Value) 6 A99991_27 (fun s_ => [(62, s_.1), (63, s_.2.1), (82, s_.2.2)]) (fun s_ w' => (w'.cell? (ad401.add (x13_2).toNat) = some (.int .u8 (rd l0 x13_2)) ∧ w'.cell? (ad401.add (x13_2).toNat) = some (.int .u8 (rd l0 x13_2)) ∧ w'.cell? (ad401.add (x13_2).toNat) = some (.int .u8 (rd l0 x13_2))) ∧ Aside0 (Rws w' w.heap.size [(.slice none 0 0, []), (s_.2.1, y405), (.slice none 0 0, []), (.slice Ao22 x9_2.length co22, x9_2), (s_.2.2, y416), (.slice Ao23 x11_2.length co23, x11_2)]) ∧ Aside0 (Below w.heap.size w w')) ?_ ?_
                   rotate_left
                   ·as_aux_lemma =>
                     intro hJ6_7_26
                     refine join_ (σ := Value × Value × Value) 6 A99991_28 (fun s_ => [(62, s_.1), (73, s_.2.1), (82, s_.2.2)]) (fun s_ w' => (w'.cell? (ad401.add (x13_2).toNat) = some (.int .u8 (rd l0 x13_2)) ∧ w'.cell? (ad401.add (x13_2).toNat) = some (.int .u8 (rd l0 x13_2)) ∧ w'.cell? (ad401.add (x13_2).toNat) = some (.int .u8 (rd l0 x13_2))) ∧ Aside0 (Rws w' w.heap.size [(s_.1, y402), (.slice Ao21 x7_2.length co21, x7_2), (s_.2.1, y409), (.slice Ao22 x9_2.length co22, x9_2), (s_.2.2, y416), (.slice Ao23 x11_2.length co23, x11_2)]) ∧ Aside0 (Below w.heap.size w w')) ?_ ?_
                     rotate_left
                     ·as_aux_lemma =>
                       intro hJ6_17_26
                       refine join_ (σ := Value × Value) 7 A99991_29 (fun s_ => [(62, s_.1), (63, s_.2)]) (fun s_ w' => (w'.cell? (ad401.add (x13_2).toNat) = some (.int .u8 (rd l0 x13_2)) ∧ w'.cell? (ad401.add (x13_2).toNat) = some (.int .u8 (rd l0 x13_2)) ∧ w'.cell? (ad401.add (x13_2).toNat) = some (.int .u8 (rd l0 x13_2))) ∧ Aside0 (Rws w' w.heap.size [(.slice none 0 0, []), (s_.2, y405), (.slice none 0 0, []), (.slice Ao22 x9_2.length co22, x9_2), (.slice none 0 0, []), (.slice Ao23 x11_2.length co23, x11_2)]) ∧ Aside0 (Below w.heap.size w w')) ?_ ?_
                       rotate_left
                       ·as_aux_lemma =>
                         intro hJ6_7
                         refine join_ (σ := Value × Value) 7 A99991_30 (fun s_ => [(62, s_.1), (73, s_.2)]) (fun s_ w' => (w'.cell? (ad401.add (x13_2).toNat) = some (.int .u8 (rd l0 x13_2)) ∧ w'.cell? (ad401.add (x13_2).toNat) = some (.int .u8 (rd l0 x13_2)) ∧ w'.cell? (ad401.add (x13_2).toNat) = some (.int .u8 (rd l0 x13_2))) ∧ Aside0 (Rws w' w.heap.size [(s_.1, y402), (.slice Ao21 x7_2.length co21, x7_2), (s_.2, y409), (.slice Ao22 x9_2.length co22, x9_2), (.slice none 0 0, []), (.slice Ao23 x11_2.length co23, x11_2)]) ∧ Aside0 (Below w.heap.size w w')) ?_ ?_
                         rotate_left
                         ·as_aux_lemma =>
                           intro hJ6_17
                           refine join_ (σ := Value × Value) 7 A99991_31 (fun s_ => [(62, s_.1), (82, s_.2)]) (fun s_ w' => (w'.cell? (ad401.add (x13_2).toNat) = some (.int .u8 (rd l0 x13_2)) ∧ w'.cell? (ad401.add (x13_2).toNat) = some (.int .u8 (rd l0 x13_2)) ∧ w'.cell? (ad401.add (x13_2).toNat) = some (.int .u8 (rd l0 x13_2))) ∧ Aside0 (Rws w' w.heap.size [(s_.1, y402), (.slice Ao21 x7_2.length co21, x7_2), (.slice none 0 0, []), (.slice Ao22 x9_2.length co22, x9_2), (s_.2, y416), (.slice Ao23 x11_2.length co23, x11_2)]) ∧ Aside0 (Below w.heap.size w w')) ?_ ?_
                           rotate_left
                           ·as_aux_lemma =>
                             intro hJ6_26
                             refine join_ (σ := Value × Value) 7 A99991_32 (fun s_ => [(73, s_.1), (82, s_.2)]) (fun s_ w' => (w'.cell? (ad401.add (x13_2).toNat) = some (.int .u8 (rd l0 x13_2)) ∧ w'.cell? (ad401.add (x13_2).toNat) = some (.int .u8 (rd l0 x13_2)) ∧ w'.cell? (ad401.add (x13_2).toNat) = some (.int .u8 (rd l0 x13_2))) ∧ Aside0 (Rws w' w.heap.size [(.slice none 0 0, []), (.slice Ao21 x7_2.length co21, x7_2), (s_.1, y409), (.slice Ao22 x9_2.length co22, x9_2), (s_.2, y416), (.slice Ao23 x11_2.length co23, x11_2)]) ∧ Aside0 (Below w.heap.size w w')) ?_ ?_
                             rotate_left
                             ·as_aux_lemma =>
                               intro hJ17_26
                               refine join_ (σ := Value) 8 A99991_33 (fun s_ => [(62, s_)]) (fun s_ w' => (w'.cell? (ad401.add (x13_2).toNat) = some (.int .u8 (rd l0 x13_2)) ∧ w'.cell? (ad401.add (x13_2).toNat) = some (.int .u8 (rd l0 x13_2)) ∧ w'.cell? (ad401.add (x13_2).toNat) = some (.int .u8 (rd l0 x13_2))) ∧ Aside0 (Rws w' w.heap.size [(s_, y402), (.slice Ao21 x7_2.length co21, x7_2), (.slice none 0 0, []), (.slice Ao22 x9_2.length co22, x9_2), (.slice none 0 0, []), (.slice Ao23 x11_2.length co23, x11_2)]) ∧ Aside0 (Below w.heap.size w w')) ?_ ?_
                               rotate_left
                               ·as_aux_lemma =>
                                 intro hJ6
                                 refine join_ (σ := Value) 8 A99991_34 (fun s_ => [(73, s_)]) (fun s_ w' => (w'.cell? (ad401.add (x13_2).toNat) = some (.int .u8 (rd l0 x13_2)) ∧ w'.cell? (ad401.add (x13_2).toNat) = some (.int .u8 (rd l0 x13_2)) ∧ w'.cell? (ad401.add (x13_2).toNat) = some (.int .u8 (rd l0 x13_2))) ∧ Aside0 (Rws w' w.heap.size [(.slice none 0 0, []), (.slice Ao21 x7_2.length co21, x7_2), (s_, y409), (.slice Ao22 x9_2.length co22, x9_2), (.slice none 0 0, []), (.slice Ao23 x11_2.length co23, x11_2)]) ∧ Aside0 (Below w.heap.size w w')) ?_ ?_
                                 rotate_left
                                 ·as_aux_lemma =>
                                   intro hJ17
                                   refine join_ (σ := Value) 8 A99991_35 (fun s_ => [(82, s_)]) (fun s_ w' => (w'.cell? (ad401.add (x13_2).toNat) = some (.int .u8 (rd l0 x13_2)) ∧ w'.cell? (ad401.add (x13_2).toNat) = some (.int .u8 (rd l0 x13_2)) ∧ w'.cell? (ad401.add (x13_2).toNat) = some (.int .u8 (rd l0 x13_2))) ∧ Aside0 (Rws w' w.heap.size [(.slice none 0 0, []), (.slice Ao21 x7_2.length co21, x7_2), (.slice none 0 0, []), (.slice Ao22 x9_2.length co22, x9_2), (s_, y416), (.slice Ao23 x11_2.length co23, x11_2)]) ∧ Aside0 (Below w.heap.size w w')) ?_ ?_
                                   rotate_left
                                   ·as_aux_lemma =>
                                     intro hJ26
                                     refine three_ (i := 6) (j := 17) (k := 26) (Ni := some 62) (Nj := some 73) (Nk := some 82) A99991_33 A99991_34 A99991_35 rfl rfl rfl rfl rfl rfl (three_of HT_.out (by kernel_rfl)) (by decide) (by decide) (by decide) (fun K hK => ?_) (fun K hK => ?_) (fun K hK => ?_)
                                     ·exact lt_ HR HB 0 62 Ny402 rfl (fun a0 w' HR HB => hK.out _ _ (SF _ HB) (fun hHeld => nm_ (hJ6 a0 _ ⟨hHeld, HR, HB⟩)))
                                     ·exact lt_ HR HB 2 73 Ny409 rfl (fun a1 w' HR HB => hK.out _ _ (SF _ HB) (fun hHeld => nm_ (hJ17 a1 _ ⟨hHeld, HR, HB⟩)))
                                     ·exact lt_ HR HB 4 82 Ny416 rfl (fun a2 w' HR HB => hK.out _ _ (SF _ HB) (fun hHeld => nm_ (hJ26 a2 _ ⟨hHeld, HR, HB⟩)))
                                   clear HR HB hHeld
                                   rintro a2 w' ⟨hHeld, HR, HB⟩
                                   refine nm_ ?_
                                   refine two_ (i := 6) (j := 17) (Ni := some 62) (Nj := some 73) A99991_31 A99991_32 rfl rfl rfl rfl (two_of HT_.out (by kernel_rfl)) (by decide) (by decide) (fun K hK => ?_) (fun K hK => ?_)
                                   ·exact lt_ HR HB 0 62 Ny402 rfl (fun a0 w' HR HB => hK.out _ _ (SF _ HB) (fun hHeld => nm_ (hJ6_26 (a0, a2) _ ⟨hHeld, HR, HB⟩)))
                                   ·exact lt_ HR HB 2 73 Ny409 rfl (fun a1 w' HR HB => hK.out _ _ (SF _ HB) (fun hHeld => nm_ (hJ17_26 (a1, a2) _ ⟨hHeld, HR, HB⟩)))
                                 clear HR HB hHeld
                                 rintro a1 w' ⟨hHeld, HR, HB⟩
                                 refine nm_ ?_
                                 refine two_ (i := 6) (j := 26) (Ni := some 62) (Nj := some 82) A99991_30 A99991_32 rfl rfl rfl rfl (two_of HT_.out (by kernel_rfl)) (by decide) (by decide) (fun K hK => ?_) (fun K hK => ?_)
                                 ·exact lt_ HR HB 0 62 Ny402 rfl (fun a0 w' HR HB => hK.out _ _ (SF _ HB) (fun hHeld => nm_ (hJ6_17 (a0, a1) _ ⟨hHeld, HR, HB⟩)))
                                 ·exact lt_ HR HB 4 82 Ny416 rfl (fun a2 w' HR HB => hK.out _ _ (SF _ HB) (fun hHeld => nm_ (hJ17_26 (a1, a2) _ ⟨hHeld, HR, HB⟩)))
                               clear HR HB hHeld
                               rintro a0 w' ⟨hHeld, HR, HB⟩
                               refine nm_ ?_
                               refine three_ (i := 7) (j := 17) (k := 26) (Ni := some 63) (Nj := some 73) (Nk := some 82) A99991_29 A99991_30 A99991_31 rfl rfl rfl rfl rfl rfl (three_of HT_.out (by kernel_rfl)) (by decide) (by decide) (by decide) (fun K hK => ?_) (fun K hK => ?_) (fun K hK => ?_)
                               ·exact ap_ (.tmp 56) (.tmp 62) 0 1 63 HR HB Ny405 rfl rfl rfl rfl rfl LMc18.out (fun b0 w' HR HB => hK.out _ _ (SF _ HB) (fun hHeld => nm_ (hJ6_7 (a0, b0) _ ⟨hHeld, HR, HB⟩)))
                               ·exact lt_ HR HB 2 73 Ny409 rfl (fun a1 w' HR HB => hK.out _ _ (SF _ HB) (fun hHeld => nm_ (hJ6_17 (a0, a1) _ ⟨hHeld, HR, HB⟩)))
                               ·exact lt_ HR HB 4 82 Ny416 rfl (fun a2 w' HR HB => hK.out _ _ (SF _ HB) (fun hHeld => nm_ (hJ6_26 (a0, a2) _ ⟨hHeld, HR, HB⟩)))
                             clear HR HB hHeld
                             rintro ⟨a1, a2⟩ w' ⟨hHeld, HR, HB⟩
                             refine nm_ ?_
                             refine one_ (i := 6) (N := some 62) A99991_28 rfl rfl (one_of HT_.out (by kernel_rfl)) (by decide) (fun K hK => ?_)
                             exact lt_ HR HB 0 62 Ny402 rfl (fun a0 w' HR HB => hK.out _ _ (SF _ HB) (fun hHeld => nm_ (hJ6_17_26 (a0, a1, a2) _ ⟨hHeld, HR, HB⟩)))
                           clear HR HB hHeld
                           rintro ⟨a0, a2⟩ w' ⟨hHeld, HR, HB⟩
                           refine nm_ ?_
                           refine two_ (i := 7) (j := 17) (Ni := some 63) (Nj := some 73) A99991_27 A99991_28 rfl rfl rfl rfl (two_of HT_.out (by kernel_rfl)) (by decide) (by decide) (fun K hK => ?_) (fun K hK => ?_)
                           ·exact ap_ (.tmp 56) (.tmp 62) 0 1 63 HR HB Ny405 rfl rfl rfl rfl rfl LMc18.out (fun b0 w' HR HB => hK.out _ _ (SF _ HB) (fun hHeld => nm_ (hJ6_7_26 (a0, b0, a2) _ ⟨hHeld, HR, HB⟩)))
                           ·exact lt_ HR HB 2 73 Ny409 rfl (fun a1 w' HR HB => hK.out _ _ (SF _ HB) (fun hHeld => nm_ (hJ6_17_26 (a0, a1, a2) _ ⟨hHeld, HR, HB⟩)))
                         clear HR HB hHeld
                         rintro ⟨a0, a1⟩ w' ⟨hHeld, HR, HB⟩
                         refine nm_ ?_
                         refine two_ (i := 7) (j := 26) (Ni := some 63) (Nj := some 82) A99991_26 A99991_28 rfl rfl rfl rfl (two_of HT_.out (by kernel_rfl)) (by decide) (by decide) (fun K hK => ?_) (fun K hK => ?_)
                         ·exact ap_ (.tmp 56) (.tmp 62) 0 1 63 HR HB Ny405 rfl rfl rfl rfl rfl LMc18.out (fun b0 w' HR HB => hK.out _ _ (SF _ HB) (fun hHeld => nm_ (hJ6_7_17 (a0, b0, a1) _ ⟨hHeld, HR, HB⟩)))
                         ·exact lt_ HR HB 4 82 Ny416 rfl (fun a2 w' HR HB => hK.out _ _ (SF _ HB) (fun hHeld => nm_ (hJ6_17_26 (a0, a1, a2) _ ⟨hHeld, HR, HB⟩)))
                       clear HR HB hHeld
                       rintro ⟨a0, b0⟩ w' ⟨hHeld, HR, HB⟩
                       refine nm_ ?_
                       refine two_ (i := 17) (j := 26) (Ni := some 73) (Nj := some 82) A99991_26 A99991_27 rfl rfl rfl rfl (two_of HT_.out (by kernel_rfl)) (by decide) (by decide) (fun K hK => ?_) (fun K hK => ?_)
                       ·exact lt_ HR HB 2 73 Ny409 rfl (fun a1 w' HR HB => hK.out _ _ (SF _ HB) (fun hHeld => nm_ (hJ6_7_17 (a0, b0, a1) _ ⟨hHeld, HR, HB⟩)))
                       ·exact lt_ HR HB 4 82 Ny416 rfl (fun a2 w' HR HB => hK.out _ _ (SF _ HB) (fun hHeld => nm_ (hJ6_7_26 (a0, b0, a2) _ ⟨hHeld, HR, HB⟩)))
                     clear HR HB hHeld
                     rintro ⟨a0, a1, a2⟩ w' ⟨hHeld, HR, HB⟩
                     refine nm_ ?_
                     refine one_ (i := 7) (N := some 63) A99991_25 rfl rfl (one_of HT_.out (by kernel_rfl)) (by decide) (fun K hK => ?_)
                     exact ap_ (.tmp 56) (.tmp 62) 0 1 63 HR HB Ny405 rfl rfl rfl rfl rfl LMc18.out (fun b0 w' HR HB => hK.out _ _ (SF _ HB) (fun hHeld => nm_ (hJ6_7_17_26 (a0, b0, a1, a2) _ ⟨hHeld, HR, HB⟩)))
                   clear HR HB hHeld
                   rintro ⟨a0, b0, a2⟩ w' ⟨hHeld, HR, HB⟩
                   refine nm_ ?_
                   refine one_ (i := 17) (N := some 73) A99991_25 rfl rfl (one_of HT_.out (by kernel_rfl)) (by decide) (fun K hK => ?_)
                   exact lt_ HR HB 2 73 Ny409 rfl (fun a1 w' HR HB => hK.out _ _ (SF _ HB) (fun hHeld => nm_ (hJ6_7_17_26 (a0, b0, a1, a2) _ ⟨hHeld, HR, HB⟩)))
                 clear HR HB hHeld
                 rintro ⟨a0, b0, a1⟩ w' ⟨hHeld, HR, HB⟩
                 refine nm_ ?_
                 refine two_ (i := 18) (j := 26) (Ni := some 74) (Nj := some 82) A99991_24 A99991_25 rfl rfl rfl rfl (two_of HT_.out (by kernel_rfl)) (by decide) (by decide) (fun K hK => ?_) (fun K hK => ?_)
                 ·exact ap_ (.tmp 64) (.tmp 73) 2 3 74 HR HB Ny412 rfl rfl rfl rfl rfl LMc19.out (fun b1 w' HR HB => hK.out _ _ (SF _ HB) (fun hHeld => nm_ (hJ6_7_17_18 (a0, b0, a1, b1) _ ⟨hHeld, HR, HB⟩)))
                 ·exact lt_ HR HB 4 82 Ny416 rfl (fun a2 w' HR HB => hK.out _ _ (SF _ HB) (fun hHeld => nm_ (hJ6_7_17_26 (a0, b0, a1, a2) _ ⟨hHeld, HR, HB⟩)))
               clear HR HB hHeld
               rintro ⟨a0, b0, a1, a2⟩ w' ⟨hHeld, HR, HB⟩
               refine nm_ ?_
               refine one_ (i := 18) (N := some 74) A99991_23 rfl rfl (one_of HT_.out (by kernel_rfl)) (by decide) (fun K hK => ?_)
               exact ap_ (.tmp 64) (.tmp 73) 2 3 74 HR HB Ny412 rfl rfl rfl rfl rfl LMc19.out (fun b1 w' HR HB => hK.out _ _ (SF _ HB) (fun hHeld => nm_ (hJ6_7_17_18_26 (a0, b0, a1, b1, a2) _ ⟨hHeld, HR, HB⟩)))
             clear HR HB hHeld
             rintro ⟨a0, b0, a1, b1⟩ w' ⟨hHeld, HR, HB⟩
             refine nm_ ?_
             refine one_ (i := 26) (N := some 82) A99991_23 rfl rfl (one_of HT_.out (by kernel_rfl)) (by decide) (fun K hK => ?_)
             exact lt_ HR HB 4 82 Ny416 rfl (fun a2 w' HR HB => hK.out _ _ (SF _ HB) (fun hHeld => nm_ (hJ6_7_17_18_26 (a0, b0, a1, b1, a2) _ ⟨hHeld, HR, HB⟩)))
           clear HR HB hHeld
           rintro ⟨a0, b0, a1, b1, a2⟩ w' ⟨hHeld, HR, HB⟩
           refine nm_ ?_
           refine one_ (i := 27) (N := some 83) A99991_36 rfl rfl (one_of HT_.out (by kernel_rfl)) (by decide) (fun K hK => ?_)
           refine ap_ (.tmp 75) (.tmp 82) 4 5 83 HR HB Ny419 rfl rfl rfl rfl rfl LMc20.out (fun b2 w' HR HB => ?_)
           refine hK.out _ _ (SF _ HB) (fun hHeld => ?_)
           clear hK K
           refine nm_ ?_
           refine pA_ 28 7 A99991_37 HT_ ?_
           refine pA_ 29 9 A99991_38 HT_ ?_
           refine pA_ 30 11 A99991_39 HT_ ?_
           refine done_ (done_of HT_.out (by kernel_rfl)) ?_
           try go_wp2
           go_roundg k2
           case measure =>
            have := HJ3.out; have := HK2.out; omega
           case rel => as_aux_lemma =>
             exact ⟨(y405), (y412), (y419), (wrap64 (x13_2 + 1)), qgsleuthlaw45changepointfair_90, H', ⟨by have := HJ3.out; have := HK2.out; omega⟩, ⟨by (with_reducible repeat (first | apply Kd.R_alloc | apply Kd.R_drewN | apply Kd.R_drew)); exact Rws.outA HR 1⟩, ⟨by (with_reducible repeat (first | apply Kd.R_alloc | apply Kd.R_drewN | apply Kd.R_drew)); exact Rws.outA HR 3⟩, ⟨by (with_reducible repeat (first | apply Kd.R_alloc | apply Kd.R_drewN | apply Kd.R_drew)); exact Rws.outA HR 5⟩, ⟨qgsleuthlaw45changepointfair_0⟩⟩
     rw [if_neg c16] at H
     have c16b0 : decide (x13_2 < (l0.length : Int)) = false := decide_eq_false c16
     clear c16
     have H' := Aside0.mk H
     clear H
     go_wp2
     go_loopg [8, 10, 12, 14] k2 (fun kq v8 v10 v12 v14 w' => ∃ (x8_3 : List Int) (x10_3 : List Int) (x12_3 : List Int) (x14_3 : Int), v14 = .int .i64 x14_3 ∧ Aside0 (sleuthlaw45_ChangepointFair.l1 kq l1 a2 x7_2 x8_3 x9_2 x10_3 x11_2 x12_3 x14_3 = some r) ∧ Aside0 (kq ≤ k2) ∧ Aside0 (Kd.R (Kd.int .i64) 3 w' w.heap.size (fun k_ => some k_ ≠ (v8 : Value).ownBlock ∧ some k_ ≠ (u9 : Value).ownBlock ∧ some k_ ≠ (v10 : Value).ownBlock ∧ some k_ ≠ (u11 : Value).ownBlock ∧ some k_ ≠ (v12 : Value).ownBlock) u7 x7_2) ∧ Aside0 (Kd.R (Kd.int .i64) 3 w' w.heap.size (fun k_ => some k_ ≠ (u7 : Value).ownBlock ∧ some k_ ≠ (u9 : Value).ownBlock ∧ some k_ ≠ (v10 : Value).ownBlock ∧ some k_ ≠ (u11 : Value).ownBlock ∧ some k_ ≠ (v12 : Value).ownBlock) v8 x8_3) ∧ Aside0 (Kd.R (Kd.int .i64) 3 w' w.heap.size (fun k_ => some k_ ≠ (u7 : Value).ownBlock ∧ some k_ ≠ (v8 : Value).ownBlock ∧ some k_ ≠ (v10 : Value).ownBlock ∧ some k_ ≠ (u11 : Value).ownBlock ∧ some k_ ≠ (v12 : Value).ownBlock) u9 x9_2) ∧ Aside0 (Kd.R (Kd.int .i64) 3 w' w.heap.size (fun k_ => some k_ ≠ (u7 : Value).ownBlock ∧ some k_ ≠ (v8 : Value).ownBlock ∧ some k_ ≠ (u9 : Value).ownBlock ∧ some k_ ≠ (u11 : Value).ownBlock ∧ some k_ ≠ (v12 : Value).ownBlock) v10 x10_3) ∧ Aside0 (Kd.R (Kd.int .i64) 3 w' w.heap.size (fun k_ => some k_ ≠ (u7 : Value).ownBlock ∧ some k_ ≠ (v8 : Value).ownBlock ∧ some k_ ≠ (u9 : Value).ownBlock ∧ some k_ ≠ (v10 : Value).ownBlock ∧ some k_ ≠ (v12 : Value).ownBlock) u11 x11_2) ∧ Aside0 (Kd.R (Kd.int .i64) 3 w' w.heap.size (fun k_ => some k_ ≠ (u7 : Value).ownBlock ∧ some k_ ≠ (v8 : Value).ownBlock ∧ some k_ ≠ (u9 : Value).ownBlock ∧ some k_ ≠ (v10 : Value).ownBlock ∧ some k_ ≠ (u11 : Value).ownBlock) v12 x12_3) ∧ Aside0 (Below w.heap.size w w'))
     case atStart => as_aux_lemma =>
       exact ⟨(([] : List Int)), (([] : List Int)), (([] : List Int)), (0), qgsleuthlaw45changepointfair_90, H', ⟨Nat.le_refl _⟩, ⟨by (with_reducible repeat (first | apply Kd.R_alloc | apply Kd.R_drewN | apply Kd.R_drew)); exact Kd.R_mono HO_7.out (fun _ hk => ⟨(by simp [Value.ownBlock]), ⟨hk.1, ⟨(by simp [Value.ownBlock]), ⟨hk.2, (by simp [Value.ownBlock])⟩⟩⟩⟩)⟩, ⟨qgsleuthlaw45changepointfair_22⟩, ⟨by (with_reducible repeat (first | apply Kd.R_alloc | apply Kd.R_drewN | apply Kd.R_drew)); exact Kd.R_mono HO_9.out (fun _ hk => ⟨hk.1, ⟨(by simp [Value.ownBlock]), ⟨(by simp [Value.ownBlock]), ⟨hk.2, (by simp [Value.ownBlock])⟩⟩⟩⟩)⟩, ⟨qgsleuthlaw45changepointfair_22⟩, ⟨by (with_reducible repeat (first | apply Kd.R_alloc | apply Kd.R_drewN | apply Kd.R_drew)); exact Kd.R_mono HO_11.out (fun _ hk => ⟨hk.1, ⟨(by simp [Value.ownBlock]), ⟨hk.2, ⟨(by simp [Value.ownBlock]), (by simp [Value.ownBlock])⟩⟩⟩⟩)⟩, ⟨qgsleuthlaw45changepointfair_22⟩, ⟨qgsleuthlaw45changepointfair_0⟩⟩
     clear H'
     try clear c1
     try clear c2
     try clear p2
     try clear p6
     try clear c16
     try clear c16b0
     try clear c17
     try clear c18
     try clear c19
     try clear c20
     obtain ⟨x8_3, x10_3, x12_3, x14_3, rfl, HA, HK3, HO_7, HO_8, HO_9, HO_10, HO_11, HO_12, HB⟩ := hrel
     cases gk with
     | zero =>
      exact absurd HA.out (by simp [sleuthlaw45_ChangepointFair.l1])
     | succ k3 => as_aux_lemma =>
       have H := HA.out
       clear HA
       simp only [sleuthlaw45_ChangepointFair.l1] at H
       by_cases c38 : x14_3 < (l1.length : Int)
       rotate_left
       ·as_aux_lemma =>
         rw [if_neg c38] at H
         have c38b0 : decide (x14_3 < (l1.length : Int)) = false := decide_eq_false c38
         clear c38
         replace H := Option.bind_eq_some_iff.mp H
         obtain ⟨⟨t443, t444, t445⟩, A600, H⟩ := H
         replace H : (if (wrap64 ((x7_2.length : Int) + (x8_3.length : Int))) > 32 then (if t445 = 6 then (if t443 = 0 then (some (t444 == 0)) else (some false)) else (some false)) else ((changepoint_Test.f x8_3 x7_2).bind fun bt446 => ((changepoint_Test.f x9_2 x10_3).bind fun bt449 => ((changepoint_Test.f x11_2 x12_3).bind fun bt452 => (sleuthlaw45_ChangepointFair.l2 k3 x7_2 x8_3 t443 t444 t445 bt446.1 bt446.2.1 bt446.2.2 bt449.1 bt449.2.1 bt449.2.2 bt452.1 bt452.2.1 bt452.2.2 1 1))))) = some r := H
         have A60 := Aside0.mk A600
         clear A600
         by_cases c61 : (wrap64 ((x7_2.length : Int) + (x8_3.length : Int))) > 32
         ·as_aux_lemma =>
           rw [if_pos c61] at H
           have c61b0 : decide (32 < (wrap64 ((x7_2.length : Int) + (x8_3.length : Int)))) = true := decide_eq_true c61
           clear c61
           by_cases c62 : t445 = 6
           rotate_left
           ·as_aux_lemma =>
             rw [if_neg c62] at H
             have c62b0 : (t445 == 6) = false := beq_eq_false_iff_ne.mpr c62
             have c62b1 : (t445 != 6) = true := bne_iff_ne.mpr c62
             obtain rfl := Option.some.inj H
             obtain ⟨Ao70, co70, eo70⟩ := Kd.R_slice HO_7.out
             subst eo70
             obtain ⟨Ao71, co71, eo71⟩ := Kd.R_slice HO_8.out
             subst eo71
             go_wp2_with (first | ((with_reducible refine gate_callee (f := 20) rfl ?_); refine goesL_ (some 121) rfl rfl Try.func20 (by kernel_rfl) rfl #[.slice Ao70 x7_2.length co70, .slice Ao71 x8_3.length co71] rfl qgsleuthlaw45changepointfair_12 ?_; (with_reducible refine (changepoint_Test.calls _ _ x7_2 _ _ x8_3 t443 t444 t445 _ ?side1 ?side2 ?side3 ?side4 A60.out).mono ?_); (case side1 => exact qgsleuthlaw45changepointfair_23); (case side2 => exact (Kd.R_reads' HO_7.out).2.1); (case side3 => exact qgsleuthlaw45changepointfair_24); (case side4 => exact (Kd.R_reads' HO_8.out).2.1); rintro e w72 ⟨rfl, hb⟩; refine ⟨_, rfl, ?_⟩; have n0_ := Aside0.mk (Kd.R_below qgsleuthlaw45changepointfair_4 hb); have n1_ := Aside0.mk (Kd.R_below qgsleuthlaw45changepointfair_7 hb); have n2_ := Aside0.mk (Kd.R_below qgsleuthlaw45changepointfair_3 hb); have n3_ := Aside0.mk (Kd.R_below qgsleuthlaw45changepointfair_6 hb); have n4_ := Aside0.mk (Kd.R_below qgsleuthlaw45changepointfair_2 hb); have n5_ := Aside0.mk (Kd.R_below qgsleuthlaw45changepointfair_5 hb); have n6_ := Aside0.mk (below_step qgsleuthlaw45changepointfair_0 hb); clear HO_7; clear HO_8; clear HO_9; clear HO_10; clear HO_11; clear HO_12; clear HB; have HO_7 := n0_; have HO_8 := n1_; have HO_9 := n2_; have HO_10 := n3_; have HO_11 := n4_; have HO_12 := n5_; have HB := n6_; clear n0_ n1_ n2_ n3_ n4_ n5_ n6_; (try clear hb); (try clear hb2); (try clear hk); (try clear hi)))
             go_ret
             exact ⟨qgsleuthlaw45changepointfair_13, qgsleuthlaw45changepointfair_0⟩
           as_aux_lemma =>
            rw [if_pos c62] at H
            have c62b0 : (t445 == 6) = true := beq_iff_eq.mpr c62
            have c62b1 : (t445 != 6) = false := bne_eq_false_iff_eq.mpr c62
            clear c62
            by_cases c63 : t443 = 0
            rotate_left
            ·as_aux_lemma =>
              rw [if_neg c63] at H
              have c63b0 : (t443 == 0) = false := beq_eq_false_iff_ne.mpr c63
              have c63b1 : (t443 != 0) = true := bne_iff_ne.mpr c63
              obtain rfl := Option.some.inj H
              obtain ⟨Ao67, co67, eo67⟩ := Kd.R_slice HO_7.out
              subst eo67
              obtain ⟨Ao68, co68, eo68⟩ := Kd.R_slice HO_8.out
              subst eo68
              go_wp2_with (first | ((with_reducible refine gate_callee (f := 20) rfl ?_); refine goesL_ (some 121) rfl rfl Try.func20 (by kernel_rfl) rfl #[.slice Ao67 x7_2.length co67, .slice Ao68 x8_3.length co68] rfl qgsleuthlaw45changepointfair_12 ?_; (with_reducible refine (changepoint_Test.calls _ _ x7_2 _ _ x8_3 t443 t444 t445 _ ?side1 ?side2 ?side3 ?side4 A60.out).mono ?_); (case side1 => exact qgsleuthlaw45changepointfair_23); (case side2 => exact (Kd.R_reads' HO_7.out).2.1); (case side3 => exact qgsleuthlaw45changepointfair_24); (case side4 => exact (Kd.R_reads' HO_8.out).2.1); rintro e w69 ⟨rfl, hb⟩; refine ⟨_, rfl, ?_⟩; have n0_ := Aside0.mk (Kd.R_below qgsleuthlaw45changepointfair_4 hb); have n1_ := Aside0.mk (Kd.R_below qgsleuthlaw45changepointfair_7 hb); have n2_ := Aside0.mk (Kd.R_below qgsleuthlaw45changepointfair_3 hb); have n3_ := Aside0.mk (Kd.R_below qgsleuthlaw45changepointfair_6 hb); have n4_ := Aside0.mk (Kd.R_below qgsleuthlaw45changepointfair_2 hb); have n5_ := Aside0.mk (Kd.R_below qgsleuthlaw45changepointfair_5 hb); have n6_ := Aside0.mk (below_step qgsleuthlaw45changepointfair_0 hb); clear HO_7; clear HO_8; clear HO_9; clear HO_10; clear HO_11; clear HO_12; clear HB; have HO_7 := n0_; have HO_8 := n1_; have HO_9 := n2_; have HO_10 := n3_; have HO_11 := n4_; have HO_12 := n5_; have HB := n6_; clear n0_ n1_ n2_ n3_ n4_ n5_ n6_; (try clear hb); (try clear hb2); (try clear hk); (try clear hi)))
              go_ret
              exact ⟨qgsleuthlaw45changepointfair_13, qgsleuthlaw45changepointfair_0⟩
            as_aux_lemma =>
             rw [if_pos c63] at H
             have c63b0 : (t443 == 0) = true := beq_iff_eq.mpr c63
             have c63b1 : (t443 != 0) = false := bne_eq_false_iff_eq.mpr c63
             clear c63
             obtain rfl := Option.some.inj H
             obtain ⟨Ao64, co64, eo64⟩ := Kd.R_slice HO_7.out
             subst eo64
             obtain ⟨Ao65, co65, eo65⟩ := Kd.R_slice HO_8.out
             subst eo65
             go_wp2_with (first | ((with_reducible refine gate_callee (f := 20) rfl ?_); refine goesL_ (some 121) rfl rfl Try.func20 (by kernel_rfl) rfl #[.slice Ao64 x7_2.length co64, .slice Ao65 x8_3.length co65] rfl qgsleuthlaw45changepointfair_12 ?_; (with_reducible refine (changepoint_Test.calls _ _ x7_2 _ _ x8_3 t443 t444 t445 _ ?side1 ?side2 ?side3 ?side4 A60.out).mono ?_); (case side1 => exact qgsleuthlaw45changepointfair_23); (case side2 => exact (Kd.R_reads' HO_7.out).2.1); (case side3 => exact qgsleuthlaw45changepointfair_24); (case side4 => exact (Kd.R_reads' HO_8.out).2.1); rintro e w66 ⟨rfl, hb⟩; refine ⟨_, rfl, ?_⟩; have n0_ := Aside0.mk (Kd.R_below qgsleuthlaw45changepointfair_4 hb); have n1_ := Aside0.mk (Kd.R_below qgsleuthlaw45changepointfair_7 hb); have n2_ := Aside0.mk (Kd.R_below qgsleuthlaw45changepointfair_3 hb); have n3_ := Aside0.mk (Kd.R_below qgsleuthlaw45changepointfair_6 hb); have n4_ := Aside0.mk (Kd.R_below qgsleuthlaw45changepointfair_2 hb); have n5_ := Aside0.mk (Kd.R_below qgsleuthlaw45changepointfair_5 hb); have n6_ := Aside0.mk (below_step qgsleuthlaw45changepointfair_0 hb); clear HO_7; clear HO_8; clear HO_9; clear HO_10; clear HO_11; clear HO_12; clear HB; have HO_7 := n0_; have HO_8 := n1_; have HO_9 := n2_; have HO_10 := n3_; have HO_11 := n4_; have HO_12 := n5_; have HB := n6_; clear n0_ n1_ n2_ n3_ n4_ n5_ n6_; (try clear hb); (try clear hb2); (try clear hk); (try clear hi)))
             go_ret
             exact ⟨qgsleuthlaw45changepointfair_13, qgsleuthlaw45changepointfair_0⟩
         rw [if_neg c61] at H
         have c61b0 : decide (32 < (wrap64 ((x7_2.length : Int) + (x8_3.length : Int)))) = false := decide_eq_false c61
         clear c61
         replace H := Option.bind_eq_some_iff.mp H
         obtain ⟨⟨t446, t447, t448⟩, A730, H⟩ := H
         replace H : ((changepoint_Test.f x9_2 x10_3).bind fun bt449 => ((changepoint_Test.f x11_2 x12_3).bind fun bt452 => (sleuthlaw45_ChangepointFair.l2 k3 x7_2 x8_3 t443 t444 t445 t446 t447 t448 bt449.1 bt449.2.1 bt449.2.2 bt452.1 bt452.2.1 bt452.2.2 1 1))) = some r := H
         have A73 := Aside0.mk A730
         clear A730
         replace H := Option.bind_eq_some_iff.mp H
         obtain ⟨⟨t449, t450, t451⟩, A740, H⟩ := H
         replace H : ((changepoint_Test.f x11_2 x12_3).bind fun bt452 => (sleuthlaw45_ChangepointFair.l2 k3 x7_2 x8_3 t443 t444 t445 t446 t447 t448 t449 t450 t451 bt452.1 bt452.2.1 bt452.2.2 1 1)) = some r := H
         have A74 := Aside0.mk A740
         clear A740
         replace H := Option.bind_eq_some_iff.mp H
         obtain ⟨⟨t452, t453, t454⟩, A750, H⟩ := H
         replace H : (sleuthlaw45_ChangepointFair.l2 k3 x7_2 x8_3 t443 t444 t445 t446 t447 t448 t449 t450 t451 t452 t453 t454 1 1) = some r := H
         have A75 := Aside0.mk A750
         clear A750
         have H' := Aside0.mk H
         clear H
         obtain ⟨Ao76, co76, eo76⟩ := Kd.R_slice HO_7.out
         subst eo76
         obtain ⟨Ao77, co77, eo77⟩ := Kd.R_slice HO_8.out
         subst eo77
         go_wp2_with (first | ((with_reducible refine gate_callee (f := 20) rfl ?_); refine goesL_ (some 121) rfl rfl Try.func20 (by kernel_rfl) rfl #[.slice Ao76 x7_2.length co76, .slice Ao77 x8_3.length co77] rfl qgsleuthlaw45changepointfair_12 ?_; (with_reducible refine (changepoint_Test.calls _ _ x7_2 _ _ x8_3 t443 t444 t445 _ ?side1 ?side2 ?side3 ?side4 A60.out).mono ?_); (case side1 => exact qgsleuthlaw45changepointfair_23); (case side2 => exact (Kd.R_reads' HO_7.out).2.1); (case side3 => exact qgsleuthlaw45changepointfair_24); (case side4 => exact (Kd.R_reads' HO_8.out).2.1); rintro e w78 ⟨rfl, hb⟩; refine ⟨_, rfl, ?_⟩; have n0_ := Aside0.mk (Kd.R_below qgsleuthlaw45changepointfair_4 hb); have n1_ := Aside0.mk (Kd.R_below qgsleuthlaw45changepointfair_7 hb); have n2_ := Aside0.mk (Kd.R_below qgsleuthlaw45changepointfair_3 hb); have n3_ := Aside0.mk (Kd.R_below qgsleuthlaw45changepointfair_6 hb); have n4_ := Aside0.mk (Kd.R_below qgsleuthlaw45changepointfair_2 hb); have n5_ := Aside0.mk (Kd.R_below qgsleuthlaw45changepointfair_5 hb); have n6_ := Aside0.mk (below_step qgsleuthlaw45changepointfair_0 hb); clear HO_7; clear HO_8; clear HO_9; clear HO_10; clear HO_11; clear HO_12; clear HB; have HO_7 := n0_; have HO_8 := n1_; have HO_9 := n2_; have HO_10 := n3_; have HO_11 := n4_; have HO_12 := n5_; have HB := n6_; clear n0_ n1_ n2_ n3_ n4_ n5_ n6_; (try clear hb); (try clear hb2); (try clear hk); (try clear hi)) | ((with_reducible refine gate_callee (f := 20) rfl ?_); refine goesL_ (some 144) rfl rfl Try.func20 (by kernel_rfl) rfl #[.slice Ao77 x8_3.length co77, .slice Ao76 x7_2.length co76] rfl qgsleuthlaw45changepointfair_12 ?_; (with_reducible refine (changepoint_Test.calls _ _ x8_3 _ _ x7_2 t446 t447 t448 _ ?side1 ?side2 ?side3 ?side4 A73.out).mono ?_); (case side1 => exact qgsleuthlaw45changepointfair_24); (case side2 => exact (Kd.R_reads' HO_8.out).2.1); (case side3 => exact qgsleuthlaw45changepointfair_23); (case side4 => exact (Kd.R_reads' HO_7.out).2.1); rintro e w79 ⟨rfl, hb⟩; refine ⟨_, rfl, ?_⟩; have n0_ := Aside0.mk (Kd.R_below qgsleuthlaw45changepointfair_4 hb); have n1_ := Aside0.mk (Kd.R_below qgsleuthlaw45changepointfair_7 hb); have n2_ := Aside0.mk (Kd.R_below qgsleuthlaw45changepointfair_3 hb); have n3_ := Aside0.mk (Kd.R_below qgsleuthlaw45changepointfair_6 hb); have n4_ := Aside0.mk (Kd.R_below qgsleuthlaw45changepointfair_2 hb); have n5_ := Aside0.mk (Kd.R_below qgsleuthlaw45changepointfair_5 hb); have n6_ := Aside0.mk (below_step qgsleuthlaw45changepointfair_0 hb); clear HO_7; clear HO_8; clear HO_9; clear HO_10; clear HO_11; clear HO_12; clear HB; have HO_7 := n0_; have HO_8 := n1_; have HO_9 := n2_; have HO_10 := n3_; have HO_11 := n4_; have HO_12 := n5_; have HB := n6_; clear n0_ n1_ n2_ n3_ n4_ n5_ n6_; (try clear hb); (try clear hb2); (try clear hk); (try clear hi); obtain ⟨Ao80, co80, eo80⟩ := Kd.R_slice HO_9.out; subst eo80; obtain ⟨Ao81, co81, eo81⟩ := Kd.R_slice HO_10.out; subst eo81) | ((with_reducible refine gate_callee (f := 20) rfl ?_); refine goesL_ (some 151) rfl rfl Try.func20 (by kernel_rfl) rfl #[.slice Ao80 x9_2.length co80, .slice Ao81 x10_3.length co81] rfl qgsleuthlaw45changepointfair_12 ?_; (with_reducible refine (changepoint_Test.calls _ _ x9_2 _ _ x10_3 t449 t450 t451 _ ?side1 ?side2 ?side3 ?side4 A74.out).mono ?_); (case side1 => repeat (first | exact (Kd.R_reads' HO_9.out).2.2 | (with_reducible refine Kd.C_alloc ?_ _) | (with_reducible refine Kd.C_drewN ?_ _) | (with_reducible refine Kd.C_drew ?_))); (case side2 => exact (Kd.R_reads' HO_9.out).2.1); (case side3 => repeat (first | exact (Kd.R_reads' HO_10.out).2.2 | (with_reducible refine Kd.C_alloc ?_ _) | (with_reducible refine Kd.C_drewN ?_ _) | (with_reducible refine Kd.C_drew ?_))); (case side4 => exact (Kd.R_reads' HO_10.out).2.1); rintro e w82 ⟨rfl, hb⟩; refine ⟨_, rfl, ?_⟩; have n0_ := Aside0.mk (Kd.R_below qgsleuthlaw45changepointfair_4 hb); have n1_ := Aside0.mk (Kd.R_below qgsleuthlaw45changepointfair_7 hb); have n2_ := Aside0.mk (Kd.R_below qgsleuthlaw45changepointfair_3 hb); have n3_ := Aside0.mk (Kd.R_below qgsleuthlaw45changepointfair_6 hb); have n4_ := Aside0.mk (Kd.R_below qgsleuthlaw45changepointfair_2 hb); have n5_ := Aside0.mk (Kd.R_below qgsleuthlaw45changepointfair_5 hb); have n6_ := Aside0.mk (below_step qgsleuthlaw45changepointfair_0 hb); clear HO_7; clear HO_8; clear HO_9; clear HO_10; clear HO_11; clear HO_12; clear HB; have HO_7 := n0_; have HO_8 := n1_; have HO_9 := n2_; have HO_10 := n3_; have HO_11 := n4_; have HO_12 := n5_; have HB := n6_; clear n0_ n1_ n2_ n3_ n4_ n5_ n6_; (try clear hb); (try clear hb2); (try clear hk); (try clear hi); obtain ⟨Ao83, co83, eo83⟩ := Kd.R_slice HO_11.out; subst eo83; obtain ⟨Ao84, co84, eo84⟩ := Kd.R_slice HO_12.out; subst eo84) | ((with_reducible refine gate_callee (f := 20) rfl ?_); refine goesL_ (some 158) rfl rfl Try.func20 (by kernel_rfl) rfl #[.slice Ao83 x11_2.length co83, .slice Ao84 x12_3.length co84] rfl qgsleuthlaw45changepointfair_12 ?_; (with_reducible refine (changepoint_Test.calls _ _ x11_2 _ _ x12_3 t452 t453 t454 _ ?side1 ?side2 ?side3 ?side4 A75.out).mono ?_); (case side1 => repeat (first | exact (Kd.R_reads' HO_11.out).2.2 | (with_reducible refine Kd.C_alloc ?_ _) | (with_reducible refine Kd.C_drewN ?_ _) | (with_reducible refine Kd.C_drew ?_))); (case side2 => exact (Kd.R_reads' HO_11.out).2.1); (case side3 => repeat (first | exact (Kd.R_reads' HO_12.out).2.2 | (with_reducible refine Kd.C_alloc ?_ _) | (with_reducible refine Kd.C_drewN ?_ _) | (with_reducible refine Kd.C_drew ?_))); (case side4 => exact (Kd.R_reads' HO_12.out).2.1); rintro e w85 ⟨rfl, hb⟩; refine ⟨_, rfl, ?_⟩; have n0_ := Aside0.mk (Kd.R_below qgsleuthlaw45changepointfair_4 hb); have n1_ := Aside0.mk (Kd.R_below qgsleuthlaw45changepointfair_7 hb); have n2_ := Aside0.mk (Kd.R_below qgsleuthlaw45changepointfair_3 hb); have n3_ := Aside0.mk (Kd.R_below qgsleuthlaw45changepointfair_6 hb); have n4_ := Aside0.mk (Kd.R_below qgsleuthlaw45changepointfair_2 hb); have n5_ := Aside0.mk (Kd.R_below qgsleuthlaw45changepointfair_5 hb); have n6_ := Aside0.mk (below_step qgsleuthlaw45changepointfair_0 hb); clear HO_7; clear HO_8; clear HO_9; clear HO_10; clear HO_11; clear HO_12; clear HB; have HO_7 := n0_; have HO_8 := n1_; have HO_9 := n2_; have HO_10 := n3_; have HO_11 := n4_; have HO_12 := n5_; have HB := n6_; clear n0_ n1_ n2_ n3_ n4_ n5_ n6_; (try clear hb); (try clear hb2); (try clear hk); (try clear hi)))
         go_loopg [27, 28] k3 (fun kq v27 v28 w' => ∃ (x27_4 : Int) (x28_4 : Int), v27 = .int .i64 x27_4 ∧ v28 = .int .i64 x28_4 ∧ Aside0 (sleuthlaw45_ChangepointFair.l2 kq x7_2 x8_3 t443 t444 t445 t446 t447 t448 t449 t450 t451 t452 t453 t454 x27_4 x28_4 = some r) ∧ Aside0 (kq ≤ k3) ∧ Aside0 (Kd.R (Kd.int .i64) 3 w' w.heap.size (fun k_ => some k_ ≠ ((.slice Ao77 x8_3.length co77) : Value).ownBlock) (.slice Ao76 x7_2.length co76) x7_2) ∧ Aside0 (Kd.R (Kd.int .i64) 3 w' w.heap.size (fun k_ => some k_ ≠ ((.slice Ao76 x7_2.length co76) : Value).ownBlock) (.slice Ao77 x8_3.length co77) x8_3) ∧ Aside0 (Below w.heap.size w w'))
         case atStart => as_aux_lemma =>
           exact ⟨(1), (1), qgsleuthlaw45changepointfair_90, qgsleuthlaw45changepointfair_90, H', ⟨Nat.le_refl _⟩, ⟨by (with_reducible repeat (first | apply Kd.R_alloc | apply Kd.R_drewN | apply Kd.R_drew)); exact Kd.R_mono HO_7.out (fun _ hk => hk.1)⟩, ⟨by (with_reducible repeat (first | apply Kd.R_alloc | apply Kd.R_drewN | apply Kd.R_drew)); exact Kd.R_mono HO_8.out (fun _ hk => hk.1)⟩, ⟨qgsleuthlaw45changepointfair_0⟩⟩
         clear H'
         try clear c2
         try clear p2
         try clear c3
         try clear c4
         try clear c6
         try clear p6
         try clear c20
         try clear c38
         try clear c38b0
         try clear c39
         try clear c40
         try clear c41
         try clear c42
         try clear c61
         try clear c61b0
         try clear c62
         try clear c62b0
         try clear c62b1
         try clear c63
         try clear c63b0
         try clear c63b1
         try clear p64
         obtain ⟨x27_4, x28_4, rfl, rfl, HA, HK4, HO_7, HO_8, HB⟩ := hrel
         cases gk with
         | zero =>
          exact absurd HA.out (by simp [sleuthlaw45_ChangepointFair.l2])
         | succ k4 => as_aux_lemma =>
           have H := HA.out
           clear HA
           simp only [sleuthlaw45_ChangepointFair.l2] at H
           by_cases c86 : x28_4 ≤ (x7_2.length : Int)
           ·as_aux_lemma =>
             rw [if_pos c86] at H
             have c86b0 : decide (x28_4 ≤ (x7_2.length : Int)) = true := decide_eq_true c86
             clear c86
             by_cases c87 : x28_4 = 0
             ·rw [if_pos c87] at H
              exact absurd H (by simp)
             rw [if_neg c87] at H
             have c87b0 : (x28_4 == 0) = false := beq_eq_false_iff_ne.mpr c87
             have c87b1 : (x28_4 != 0) = true := bne_iff_ne.mpr c87
             have H' := Aside0.mk H
             clear H
             go_wp2
             go_roundg k4
             case measure =>
              have := HJ3.out; have := HK2.out; have := HK3.out; have := HK4.out; omega
             case rel => as_aux_lemma =>
               exact ⟨(wrap64 (Int.tdiv (wrap64 (x27_4 * (wrap64 ((x8_3.length : Int) + x28_4)))) x28_4)), (wrap64 (x28_4 + 1)), qgsleuthlaw45changepointfair_90, qgsleuthlaw45changepointfair_90, H', ⟨by have := HJ3.out; have := HK2.out; have := HK3.out; have := HK4.out; omega⟩, ⟨qgsleuthlaw45changepointfair_4⟩, ⟨qgsleuthlaw45changepointfair_7⟩, ⟨qgsleuthlaw45changepointfair_0⟩⟩
           rw [if_neg c86] at H
           have c86b0 : decide (x28_4 ≤ (x7_2.length : Int)) = false := decide_eq_false c86
           clear c86
           by_cases c88 : t445 = 0
           rotate_left
           ·as_aux_lemma =>
             rw [if_neg c88] at H
             have c88b0 : (t445 == 0) = false := beq_eq_false_iff_ne.mpr c88
             have c88b1 : (t445 != 0) = true := bne_iff_ne.mpr c88
             obtain rfl := Option.some.inj H
             go_wp2
             go_ret
             exact ⟨qgsleuthlaw45changepointfair_13, qgsleuthlaw45changepointfair_0⟩
           as_aux_lemma =>
            rw [if_pos c88] at H
            have c88b0 : (t445 == 0) = true := beq_iff_eq.mpr c88
            have c88b1 : (t445 != 0) = false := bne_eq_false_iff_eq.mpr c88
            clear c88
            by_cases c89 : t448 = 0
            rotate_left
            ·as_aux_lemma =>
              rw [if_neg c89] at H
              have c89b0 : (t448 == 0) = false := beq_eq_false_iff_ne.mpr c89
              have c89b1 : (t448 != 0) = true := bne_iff_ne.mpr c89
              obtain rfl := Option.some.inj H
              go_wp2
              go_ret
              exact ⟨qgsleuthlaw45changepointfair_13, qgsleuthlaw45changepointfair_0⟩
            as_aux_lemma =>
             rw [if_pos c89] at H
             have c89b0 : (t448 == 0) = true := beq_iff_eq.mpr c89
             have c89b1 : (t448 != 0) = false := bne_eq_false_iff_eq.mpr c89
             clear c89
             by_cases c90 : t451 = 0
             rotate_left
             ·as_aux_lemma =>
               rw [if_neg c90] at H
               have c90b0 : (t451 == 0) = false := beq_eq_false_iff_ne.mpr c90
               have c90b1 : (t451 != 0) = true := bne_iff_ne.mpr c90
               obtain rfl := Option.some.inj H
               go_wp2
               go_ret
               exact ⟨qgsleuthlaw45changepointfair_13, qgsleuthlaw45changepointfair_0⟩
             as_aux_lemma =>
              rw [if_pos c90] at H
              have c90b0 : (t451 == 0) = true := beq_iff_eq.mpr c90
              have c90b1 : (t451 != 0) = false := bne_eq_false_iff_eq.mpr c90
              clear c90
              by_cases c91 : t454 = 0
              rotate_left
              ·as_aux_lemma =>
                rw [if_neg c91] at H
                have c91b0 : (t454 == 0) = false := beq_eq_false_iff_ne.mpr c91
                have c91b1 : (t454 != 0) = true := bne_iff_ne.mpr c91
                obtain rfl := Option.some.inj H
                go_wp2
                go_ret
                exact ⟨qgsleuthlaw45changepointfair_13, qgsleuthlaw45changepointfair_0⟩
              as_aux_lemma =>
               rw [if_pos c91] at H
               have c91b0 : (t454 == 0) = true := beq_iff_eq.mpr c91
               have c91b1 : (t454 != 0) = false := bne_eq_false_iff_eq.mpr c91
               clear c91
               by_cases c92 : t443 = t446
               rotate_left
               ·as_aux_lemma =>
                 rw [if_neg c92] at H
                 have c92b0 : (t443 == t446) = false := beq_eq_false_iff_ne.mpr c92
                 have c92b1 : (t443 != t446) = true := bne_iff_ne.mpr c92
                 obtain rfl := Option.some.inj H
                 go_wp2
                 go_ret
                 exact ⟨qgsleuthlaw45changepointfair_13, qgsleuthlaw45changepointfair_0⟩
               as_aux_lemma =>
                rw [if_pos c92] at H
                have c92b0 : (t443 == t446) = true := beq_iff_eq.mpr c92
                have c92b1 : (t443 != t446) = false := bne_eq_false_iff_eq.mpr c92
                clear c92
                by_cases c93 : t443 = t449
                rotate_left
                ·as_aux_lemma =>
                  rw [if_neg c93] at H
                  have c93b0 : (t443 == t449) = false := beq_eq_false_iff_ne.mpr c93
                  have c93b1 : (t443 != t449) = true := bne_iff_ne.mpr c93
                  obtain rfl := Option.some.inj H
                  go_wp2
                  go_ret
                  exact ⟨qgsleuthlaw45changepointfair_13, qgsleuthlaw45changepointfair_0⟩
                as_aux_lemma =>
                 rw [if_pos c93] at H
                 have c93b0 : (t443 == t449) = true := beq_iff_eq.mpr c93
                 have c93b1 : (t443 != t449) = false := bne_eq_false_iff_eq.mpr c93
                 clear c93
                 by_cases c94 : t443 = t452
                 rotate_left
                 ·as_aux_lemma =>
                   rw [if_neg c94] at H
                   have c94b0 : (t443 == t452) = false := beq_eq_false_iff_ne.mpr c94
                   have c94b1 : (t443 != t452) = true := bne_iff_ne.mpr c94
                   obtain rfl := Option.some.inj H
                   go_wp2
                   go_ret
                   exact ⟨qgsleuthlaw45changepointfair_13, qgsleuthlaw45changepointfair_0⟩
                 as_aux_lemma =>
                  rw [if_pos c94] at H
                  have c94b0 : (t443 == t452) = true := beq_iff_eq.mpr c94
                  have c94b1 : (t443 != t452) = false := bne_eq_false_iff_eq.mpr c94
                  clear c94
                  by_cases c95 : t444 = t447
                  rotate_left
                  ·as_aux_lemma =>
                    rw [if_neg c95] at H
                    have c95b0 : (t444 == t447) = false := beq_eq_false_iff_ne.mpr c95
                    have c95b1 : (t444 != t447) = true := bne_iff_ne.mpr c95
                    obtain rfl := Option.some.inj H
                    go_wp2
                    go_ret
                    exact ⟨qgsleuthlaw45changepointfair_13, qgsleuthlaw45changepointfair_0⟩
                  as_aux_lemma =>
                   rw [if_pos c95] at H
                   have c95b0 : (t444 == t447) = true := beq_iff_eq.mpr c95
                   have c95b1 : (t444 != t447) = false := bne_eq_false_iff_eq.mpr c95
                   clear c95
                   by_cases c96 : t444 = t450
                   rotate_left
                   ·as_aux_lemma =>
                     rw [if_neg c96] at H
                     have c96b0 : (t444 == t450) = false := beq_eq_false_iff_ne.mpr c96
                     have c96b1 : (t444 != t450) = true := bne_iff_ne.mpr c96
                     obtain rfl := Option.some.inj H
                     go_wp2
                     go_ret
                     exact ⟨qgsleuthlaw45changepointfair_13, qgsleuthlaw45changepointfair_0⟩
                   as_aux_lemma =>
                    rw [if_pos c96] at H
                    have c96b0 : (t444 == t450) = true := beq_iff_eq.mpr c96
                    have c96b1 : (t444 != t450) = false := bne_eq_false_iff_eq.mpr c96
                    clear c96
                    by_cases c97 : t444 = t453
                    rotate_left
                    ·as_aux_lemma =>
                      rw [if_neg c97] at H
                      have c97b0 : (t444 == t453) = false := beq_eq_false_iff_ne.mpr c97
                      have c97b1 : (t444 != t453) = true := bne_iff_ne.mpr c97
                      obtain rfl := Option.some.inj H
                      go_wp2
                      go_ret
                      exact ⟨qgsleuthlaw45changepointfair_13, qgsleuthlaw45changepointfair_0⟩
                    as_aux_lemma =>
                     rw [if_pos c97] at H
                     have c97b0 : (t444 == t453) = true := beq_iff_eq.mpr c97
                     have c97b1 : (t444 != t453) = false := bne_eq_false_iff_eq.mpr c97
                     clear c97
                     by_cases c98 : t444 = x27_4
                     rotate_left
                     ·as_aux_lemma =>
                       rw [if_neg c98] at H
                       have c98b0 : (t444 == x27_4) = false := beq_eq_false_iff_ne.mpr c98
                       have c98b1 : (t444 != x27_4) = true := bne_iff_ne.mpr c98
                       obtain rfl := Option.some.inj H
                       go_wp2
                       go_ret
                       exact ⟨qgsleuthlaw45changepointfair_13, qgsleuthlaw45changepointfair_0⟩
                     as_aux_lemma =>
                      rw [if_pos c98] at H
                      have c98b0 : (t444 == x27_4) = true := beq_iff_eq.mpr c98
                      have c98b1 : (t444 != x27_4) = false := bne_eq_false_iff_eq.mpr c98
                      clear c98
                      by_cases c99 : t443 ≥ 1
                      ·as_aux_lemma =>
                        rw [if_pos c99] at H
                        have c99b0 : decide (1 ≤ t443) = true := decide_eq_true c99
                        clear c99
                        obtain rfl := Option.some.inj H
                        go_wp2
                        go_ret
                        exact ⟨qgsleuthlaw45changepointfair_13, qgsleuthlaw45changepointfair_0⟩
                      rw [if_neg c99] at H
                      have c99b0 : decide (1 ≤ t443) = false := decide_eq_false c99
                      clear c99
                      obtain rfl := Option.some.inj H
                      go_wp2
                      go_ret
                      exact ⟨qgsleuthlaw45changepointfair_13, qgsleuthlaw45changepointfair_0⟩
       as_aux_lemma =>
        rw [if_pos c38] at H
        have c38b0 : decide (x14_3 < (l1.length : Int)) = true := decide_eq_true c38
        clear c38
        by_cases c39 : 0 ≤ x14_3
        rotate_left
        ·rw [if_neg c39] at H
         exact absurd H (by simp)
        as_aux_lemma =>
         rw [if_pos c39] at H
         have c39b0 : decide (0 ≤ x14_3) = true := decide_eq_true c39
         clear c39
         obtain ⟨y423, hy423⟩ : ∃ y_ : List Int, y_ = (([wrap64 (rd l1 x14_3)] : List Int)) := ⟨_, rfl⟩
         replace H : (if x8_3.length + y423.length < 17592186044416 then ((some (([wrap64 ((wrap64 (rd l1 x14_3)) + (wrap64 (a2)))] : List Int) : List Int)).bind fun y430 => (if x10_3.length + y430.length < 17592186044416 then ((some (([wrap64 (-(wrap64 (rd l1 x14_3)))] : List Int) : List Int)).bind fun y437 => (if x12_3.length + y437.length < 17592186044416 then (sleuthlaw45_ChangepointFair.l1 k3 l1 a2 x7_2 (x8_3 ++ y423) x9_2 (x10_3 ++ y430) x11_2 (x12_3 ++ y437) (wrap64 (x14_3 + 1))) else (none))) else (none))) else (none)) = some r := by first | (rw [hy423]; with_reducible exact H) | (have H2_ := (Option.bind_some _ _).symm.trans H; rw [hy423]; with_reducible exact H2_) | (have H2_ := (Option.bind_some _ _).symm.trans H; with_reducible exact H2_) | with_reducible exact H | (rw [hy423]; exact H) | exact H
         have Ny423 := Aside0.mk hy423
         clear hy423
         by_cases c40 : x8_3.length + y423.length < 17592186044416
         rotate_left
         ·rw [if_neg c40] at H
          exact absurd H (by simp)
         as_aux_lemma =>
          rw [if_pos c40] at H
          have LMc40 := Aside0.mk c40
          clear c40
          obtain ⟨y426, hy426⟩ : ∃ y_ : List Int, y_ = (x8_3 ++ y423) := ⟨_, rfl⟩
          replace H : ((some (([wrap64 ((wrap64 (rd l1 x14_3)) + (wrap64 (a2)))] : List Int) : List Int)).bind fun y430 => (if x10_3.length + y430.length < 17592186044416 then ((some (([wrap64 (-(wrap64 (rd l1 x14_3)))] : List Int) : List Int)).bind fun y437 => (if x12_3.length + y437.length < 17592186044416 then (sleuthlaw45_ChangepointFair.l1 k3 l1 a2 x7_2 y426 x9_2 (x10_3 ++ y430) x11_2 (x12_3 ++ y437) (wrap64 (x14_3 + 1))) else (none))) else (none))) = some r := by first | (rw [hy426]; with_reducible exact H) | (have H2_ := (Option.bind_some _ _).symm.trans H; rw [hy426]; with_reducible exact H2_) | (have H2_ := (Option.bind_some _ _).symm.trans H; with_reducible exact H2_) | with_reducible exact H | (rw [hy426]; exact H) | exact H
          have Ny426 := Aside0.mk hy426
          clear hy426
          obtain ⟨y430, hy430⟩ : ∃ y_ : List Int, y_ = (([wrap64 ((wrap64 (rd l1 x14_3)) + (wrap64 (a2)))] : List Int)) := ⟨_, rfl⟩
          replace H : (if x10_3.length + y430.length < 17592186044416 then ((some (([wrap64 (-(wrap64 (rd l1 x14_3)))] : List Int) : List Int)).bind fun y437 => (if x12_3.length + y437.length < 17592186044416 then (sleuthlaw45_ChangepointFair.l1 k3 l1 a2 x7_2 y426 x9_2 (x10_3 ++ y430) x11_2 (x12_3 ++ y437) (wrap64 (x14_3 + 1))) else (none))) else (none)) = some r := by first | (rw [hy430]; with_reducible exact H) | (have H2_ := (Option.bind_some _ _).symm.trans H; rw [hy430]; with_reducible exact H2_) | (have H2_ := (Option.bind_some _ _).symm.trans H; with_reducible exact H2_) | with_reducible exact H | (rw [hy430]; exact H) | exact H
          have Ny430 := Aside0.mk hy430
          clear hy430
          by_cases c41 : x10_3.length + y430.length < 17592186044416
          rotate_left
          ·rw [if_neg c41] at H
           exact absurd H (by simp)
          as_aux_lemma =>
           rw [if_pos c41] at H
           have LMc41 := Aside0.mk c41
           clear c41
           obtain ⟨y433, hy433⟩ : ∃ y_ : List Int, y_ = (x10_3 ++ y430) := ⟨_, rfl⟩
           replace H : ((some (([wrap64 (-(wrap64 (rd l1 x14_3)))] : List Int) : List Int)).bind fun y437 => (if x12_3.length + y437.length < 17592186044416 then (sleuthlaw45_ChangepointFair.l1 k3 l1 a2 x7_2 y426 x9_2 y433 x11_2 (x12_3 ++ y437) (wrap64 (x14_3 + 1))) else (none))) = some r := by first | (rw [hy433]; with_reducible exact H) | (have H2_ := (Option.bind_some _ _).symm.trans H; rw [hy433]; with_reducible exact H2_) | (have H2_ := (Option.bind_some _ _).symm.trans H; with_reducible exact H2_) | with_reducible exact H | (rw [hy433]; exact H) | exact H
           have Ny433 := Aside0.mk hy433
           clear hy433
           obtain ⟨y437, hy437⟩ : ∃ y_ : List Int, y_ = (([wrap64 (-(wrap64 (rd l1 x14_3)))] : List Int)) := ⟨_, rfl⟩
           replace H : (if x12_3.length + y437.length < 17592186044416 then (sleuthlaw45_ChangepointFair.l1 k3 l1 a2 x7_2 y426 x9_2 y433 x11_2 (x12_3 ++ y437) (wrap64 (x14_3 + 1))) else (none)) = some r := by first | (rw [hy437]; with_reducible exact H) | (have H2_ := (Option.bind_some _ _).symm.trans H; rw [hy437]; with_reducible exact H2_) | (have H2_ := (Option.bind_some _ _).symm.trans H; with_reducible exact H2_) | with_reducible exact H | (rw [hy437]; exact H) | exact H
           have Ny437 := Aside0.mk hy437
           clear hy437
           by_cases c42 : x12_3.length + y437.length < 17592186044416
           rotate_left
           ·rw [if_neg c42] at H
            exact absurd H (by simp)
           as_aux_lemma =>
            rw [if_pos c42] at H
            have LMc42 := Aside0.mk c42
            clear c42
            obtain ⟨y440, hy440⟩ : ∃ y_ : List Int, y_ = (x12_3 ++ y437) := ⟨_, rfl⟩
            replace H : (sleuthlaw45_ChangepointFair.l1 k3 l1 a2 x7_2 y426 x9_2 y433 x11_2 y440 (wrap64 (x14_3 + 1))) = some r := by first | (rw [hy440]; with_reducible exact H) | (have H2_ := (Option.bind_some _ _).symm.trans H; rw [hy440]; with_reducible exact H2_) | (have H2_ := (Option.bind_some _ _).symm.trans H; with_reducible exact H2_) | with_reducible exact H | (rw [hy440]; exact H) | exact H
            have Ny440 := Aside0.mk hy440
            clear hy440
            have H' := Aside0.mk H
            clear H
            obtain ⟨Ao43, co43, eo43⟩ := Kd.R_slice HO_8.out
            subst eo43
            obtain ⟨Ao44, co44, eo44⟩ := Kd.R_slice HO_10.out
            subst eo44
            obtain ⟨Ao45, co45, eo45⟩ := Kd.R_slice HO_12.out
            subst eo45
            try go_wp2
            have n0_ := Aside0.mk (Kd.R_drew HO_7.out)
            have n1_ := Aside0.mk (Kd.R_drew HO_8.out)
            have n2_ := Aside0.mk (Kd.R_drew HO_9.out)
            have n3_ := Aside0.mk (Kd.R_drew HO_10.out)
            have n4_ := Aside0.mk (Kd.R_drew HO_11.out)
            have n5_ := Aside0.mk (Kd.R_drew HO_12.out)
            have n6_ := Aside0.mk (below_drew1 HB.out)
            clear HO_7
            clear HO_8
            clear HO_9
            clear HO_10
            clear HO_11
            clear HO_12
            clear HB
            have HO_7 := n0_
            have HO_8 := n1_
            have HO_9 := n2_
            have HO_10 := n3_
            have HO_11 := n4_
            have HO_12 := n5_
            have HB := n6_
            clear n0_ n1_ n2_ n3_ n4_ n5_ n6_
            have p422 : 0 ≤ (x14_3 : Int) := of_decide_eq_true qgsleuthlaw45changepointfair_62
            have q422 : x14_3 < (l1.length : Int) := of_decide_eq_true qgsleuthlaw45changepointfair_62
            obtain ⟨ad422, e422, hx422_0⟩ := Kd.at_int HR1.out x14_3 p422 q422
            have hw422_0 := hx422_0
            cases e422
            replace hx422_0 := (HB.out.cell (World.block_lt_of_cell? w _ hx422_0)).trans hx422_0
            replace p422 := eq_true p422
            replace q422 := eq_true q422
            have p429 : 0 ≤ (x14_3 : Int) := of_decide_eq_true qgsleuthlaw45changepointfair_62
            have q429 : x14_3 < (l1.length : Int) := of_decide_eq_true qgsleuthlaw45changepointfair_62
            obtain ⟨ad429, e429, hx429_0⟩ := Kd.at_int HR1.out x14_3 p429 q429
            have hw429_0 := hx429_0
            obtain rfl : ad422 = ad429 := (by injection e429)
            replace hx429_0 := (HB.out.cell (World.block_lt_of_cell? w _ hx429_0)).trans hx429_0
            replace p429 := eq_true p429
            replace q429 := eq_true q429
            have p436 : 0 ≤ (x14_3 : Int) := of_decide_eq_true qgsleuthlaw45changepointfair_62
            have q436 : x14_3 < (l1.length : Int) := of_decide_eq_true qgsleuthlaw45changepointfair_62
            obtain ⟨ad436, e436, hx436_0⟩ := Kd.at_int HR1.out x14_3 p436 q436
            have hw436_0 := hx436_0
            obtain rfl : ad422 = ad436 := (by injection e436)
            replace hx436_0 := (HB.out.cell (World.block_lt_of_cell? w _ hx436_0)).trans hx436_0
            replace p436 := eq_true p436
            replace q436 := eq_true q436
            refine start_ (n := 31) (S := fun w' => w'.cell? (ad422.add (x14_3).toNat) = some (.int .u8 (rd l1 x14_3)) ∧ w'.cell? (ad422.add (x14_3).toNat) = some (.int .u8 (rd l1 x14_3)) ∧ w'.cell? (ad422.add (x14_3).toNat) = some (.int .u8 (rd l1 x14_3))) (ds := []) A99991_0 (by kernel_rfl) rfl rfl ⟨((HB.out.cell (World.block_lt_of_cell? w _ hw422_0)).trans hw422_0), ((HB.out.cell (World.block_lt_of_cell? w _ hw429_0)).trans hw429_0), ((HB.out.cell (World.block_lt_of_cell? w _ hw436_0)).trans hw436_0)⟩ (fun hHeld => ?_); refine with_tabW sleuthlaw45_ChangepointFair.tab11 sleuthlaw45_ChangepointFair.bits11 (fun HT_ HW_ => ?_)
            generalize wr.drew = w46 at HO_7 HO_8 HO_9 HO_10 HO_11 HO_12 HB hx422_0 hx429_0 hx436_0 hHeld ⊢
            refine pA_ 0 90 A99991_1 HT_ ?_
            refine pA_ 1 91 A99991_2 HT_ ?_
            refine pA_ 2 92 A99991_3 HT_ ?_
            refine pA_ 3 93 A99991_4 HT_ ?_
            refine pA_ 8 98 A99991_5 HT_ ?_
            refine pA_ 9 99 A99991_6 HT_ ?_
            refine pA_ 10 100 A99991_7 HT_ ?_
            refine pA_ 11 101 A99991_8 HT_ ?_
            refine pA_ 14 104 A99991_9 HT_ ?_
            refine pA_ 15 105 A99991_10 HT_ ?_
            refine pA_ 19 109 A99991_11 HT_ ?_
            refine pA_ 20 110 A99991_12 HT_ ?_
            refine pA_ 21 111 A99991_13 HT_ ?_
            refine pA_ 22 112 A99991_14 HT_ ?_
            refine take_ (i := 4) (N := some 94) (v := ?_) (a' := ?_) A99991_15 rfl rfl (take_ofW HT_.out HW_.out (by kernel_rfl)) (fun _ _ _ h => h) (Or.inl ⟨by rfl, ?_⟩) hHeld ?_ ?_
            rotate_left
            ·as_aux_lemma =>
              rintro w' ⟨s0, s1, s2⟩
              go_simp
              with_reducible rfl
            rotate_left
            ·simp only [Act.put, List.setIfInBounds_toArray, List.set_cons_zero, List.set_cons_succ, i64_w, i32_w]
             rfl
            refine pA_ 5 95 A99991_16 HT_ ?_
            refine take_ (i := 12) (N := some 102) (v := ?_) (a' := ?_) A99991_17 rfl rfl (take_ofW HT_.out HW_.out (by kernel_rfl)) (fun _ _ _ h => h) (Or.inl ⟨by rfl, ?_⟩) hHeld ?_ ?_
            rotate_left
            ·as_aux_lemma =>
              rintro w' ⟨s0, s1, s2⟩
              go_simp
              with_reducible rfl
            rotate_left
            ·simp only [Act.put, List.setIfInBounds_toArray, List.set_cons_zero, List.set_cons_succ, i64_w, i32_w]
             rfl
            refine pA_ 13 103 A99991_18 HT_ ?_
            refine pA_ 16 106 A99991_19 HT_ ?_
            refine take_ (i := 23) (N := some 113) (v := ?_) (a' := ?_) A99991_20 rfl rfl (take_ofW HT_.out HW_.out (by kernel_rfl)) (fun _ _ _ h => h) (Or.inl ⟨by rfl, ?_⟩) hHeld ?_ ?_
            rotate_left
            ·as_aux_lemma =>
              rintro w' ⟨s0, s1, s2⟩
              go_simp
              with_reducible rfl
            rotate_left
            ·simp only [Act.put, List.setIfInBounds_toArray, List.set_cons_zero, List.set_cons_succ, i64_w, i32_w]
             rfl
            refine pA_ 24 114 A99991_21 HT_ ?_
            refine pA_ 25 115 A99991_22 HT_ ?_
            have SF : ∀ w', Aside0 (Below w.heap.size w w') → w'.cell? (ad422.add (x14_3).toNat) = some (.int .u8 (rd l1 x14_3)) ∧ w'.cell? (ad422.add (x14_3).toNat) = some (.int .u8 (rd l1 x14_3)) ∧ w'.cell? (ad422.add (x14_3).toNat) = some (.int .u8 (rd l1 x14_3)) := fun w' HB => ⟨((HB.out.cell (World.block_lt_of_cell? w _ hw422_0)).trans hw422_0), ((HB.out.cell (World.block_lt_of_cell? w _ hw429_0)).trans hw429_0), ((HB.out.cell (World.block_lt_of_cell? w _ hw436_0)).trans hw436_0)⟩
            have HR : Aside0 (Rws _ w.heap.size [(.slice none 0 0, []), (.slice Ao43 x8_3.length co43, x8_3), (.slice none 0 0, []), (.slice Ao44 x10_3.length co44, x10_3), (.slice none 0 0, []), (.slice Ao45 x12_3.length co45, x12_3), (u7, x7_2), (u9, x9_2), (u11, x11_2)]) := ⟨(Rws.nil_ (Rws.consA HO_8 (Rws.nil_ (Rws.consA HO_10 (Rws.nil_ (Rws.consA HO_12 (Rws.consA HO_7 (Rws.consA HO_9 (Rws.consA HO_11 Rws.empty)))))))))⟩
            clear HO_8 HO_10 HO_12 HO_7 HO_9 HO_11
            refine join_ (σ := Value × Value × Value × Value × Value) 4 A99991_23 (fun s_ => [(96, s_.1), (97, s_.2.1), (107, s_.2.2.1), (108, s_.2.2.2.1), (116, s_.2.2.2.2)]) (fun s_ w' => (w'.cell? (ad422.add (x14_3).toNat) = some (.int .u8 (rd l1 x14_3)) ∧ w'.cell? (ad422.add (x14_3).toNat) = some (.int .u8 (rd l1 x14_3)) ∧ w'.cell? (ad422.add (x14_3).toNat) = some (.int .u8 (rd l1 x14_3))) ∧ Aside0 (Rws w' w.heap.size [(.slice none 0 0, []), (s_.2.1, y426), (.slice none 0 0, []), (s_.2.2.2.1, y433), (s_.2.2.2.2, y437), (.slice Ao45 x12_3.length co45, x12_3), (u7, x7_2), (u9, x9_2), (u11, x11_2)]) ∧ Aside0 (Below w.heap.size w w')) ?_ ?_
            rotate_left
            ·as_aux_lemma =>
              intro hJ6_7_17_18_26
              refine join_ (σ := Value × Value × Value × Value) 5 A99991_24 (fun s_ => [(96, s_.1), (97, s_.2.1), (107, s_.2.2.1), (108, s_.2.2.2)]) (fun s_ w' => (w'.cell? (ad422.add (x14_3).toNat) = some (.int .u8 (rd l1 x14_3)) ∧ w'.cell? (ad422.add (x14_3).toNat) = some (.int .u8 (rd l1 x14_3)) ∧ w'.cell? (ad422.add (x14_3).toNat) = some (.int .u8 (rd l1 x14_3))) ∧ Aside0 (Rws w' w.heap.size [(.slice none 0 0, []), (s_.2.1, y426), (.slice none 0 0, []), (s_.2.2.2, y433), (.slice none 0 0, []), (.slice Ao45 x12_3.length co45, x12_3), (u7, x7_2), (u9, x9_2), (u11, x11_2)]) ∧ Aside0 (Below w.heap.size w w')) ?_ ?_
              rotate_left
              ·as_aux_lemma =>
                intro hJ6_7_17_18
                refine join_ (σ := Value × Value × Value × Value) 5 A99991_25 (fun s_ => [(96, s_.1), (97, s_.2.1), (107, s_.2.2.1), (116, s_.2.2.2)]) (fun s_ w' => (w'.cell? (ad422.add (x14_3).toNat) = some (.int .u8 (rd l1 x14_3)) ∧ w'.cell? (ad422.add (x14_3).toNat) = some (.int .u8 (rd l1 x14_3)) ∧ w'.cell? (ad422.add (x14_3).toNat) = some (.int .u8 (rd l1 x14_3))) ∧ Aside0 (Rws w' w.heap.size [(.slice none 0 0, []), (s_.2.1, y426), (s_.2.2.1, y430), (.slice Ao44 x10_3.length co44, x10_3), (s_.2.2.2, y437), (.slice Ao45 x12_3.length co45, x12_3), (u7, x7_2), (u9, x9_2), (u11, x11_2)]) ∧ Aside0 (Below w.heap.size w w')) ?_ ?_
                rotate_left
                ·as_aux_lemma =>
                  intro hJ6_7_17_26
                  refine join_ (σ := Value × Value × Value) 6 A99991_26 (fun s_ => [(96, s_.1), (97, s_.2.1), (107, s_.2.2)]) (fun s_ w' => (w'.cell? (ad422.add (x14_3).toNat) = some (.int .u8 (rd l1 x14_3)) ∧ w'.cell? (ad422.add (x14_3).toNat) = some (.int .u8 (rd l1 x14_3)) ∧ w'.cell? (ad422.add (x14_3).toNat) = some (.int .u8 (rd l1 x14_3))) ∧ Aside0 (Rws w' w.heap.size [(.slice none 0 0, []), (s_.2.1, y426), (s_.2.2, y430), (.slice Ao44 x10_3.length co44, x10_3), (.slice none 0 0, []), (.slice Ao45 x12_3.length co45, x12_3), (u7, x7_2), (u9, x9_2), (u11, x11_2)]) ∧ Aside0 (Below w.heap.size w w')) ?_ ?_
                  rotate_left
                  ·as_aux_lemma =>
                    intro hJ6_7_17
                    refine join_ (σ := Value × Value × Value) 6 A99991_27 (fun s_ => [(96, s_.1), (97, s_.2.1), (116, s_.2.2)]) (fun s_ w' => (w'.cell? (ad422.add (x14_3).toNat) = some (.int .u8 (rd l1 x14_3)) ∧ w'.cell? (ad422.add (x14_3).toNat) = some (.int .u8 (rd l1 x14_3)) ∧ w'.cell? (ad422.add (x14_3).toNat) = some (.int .u8 (rd l1 x14_3))) ∧ Aside0 (Rws w' w.heap.size [(.slice none 0 0, []), (s_.2.1, y426), (.slice none 0 0, []), (.slice Ao44 x10_3.length co44, x10_3), (s_.2.2, y437), (.slice Ao45 x12_3.length co45, x12_3), (u7, x7_2), (u9, x9_2), (u11, x11_2)]) ∧ Aside0 (Below w.heap.size w w')) ?_ ?_
                    rotate_left
                    ·as_aux_lemma =>
                      intro hJ6_7_26
                      refine join_ (σ := Value × Value × Value) 6 A99991_28 (fun s_ => [(96, s_.1), (107, s_.2.1), (116, s_.2.2)]) (fun s_ w' => (w'.cell? (ad422.add (x14_3).toNat) = some (.int .u8 (rd l1 x14_3)) ∧ w'.cell? (ad422.add (x14_3).toNat) = some (.int .u8 (rd l1 x14_3)) ∧ w'.cell? (ad422.add (x14_3).toNat) = some (.int .u8 (rd l1 x14_3))) ∧ Aside0 (Rws w' w.heap.size [(s_.1, y423), (.slice Ao43 x8_3.length co43, x8_3), (s_.2.1, y430), (.slice Ao44 x10_3.length co44, x10_3), (s_.2.2, y437), (.slice Ao45 x12_3.length co45, x12_3), (u7, x7_2), (u9, x9_2), (u11, x11_2)]) ∧ Aside0 (Below w.heap.size w w')) ?_ ?_
                      rotate_left
                      ·as_aux_lemma =>
                        intro hJ6_17_26
                        refine join_ (σ := Value × Value) 7 A99991_29 (fun s_ => [(96, s_.1), (97, s_.2)]) (fun s_ w' => (w'.cell? (ad422.add (x14_3).toNat) = some (.int .u8 (rd l1 x14_3)) ∧ w'.cell? (ad422.add (x14_3).toNat) = some (.int .u8 (rd l1 x14_3)) ∧ w'.cell? (ad422.add (x14_3).toNat) = some (.int .u8 (rd l1 x14_3))) ∧ Aside0 (Rws w' w.heap.size [(.slice none 0 0, []), (s_.2, y426), (.slice none 0 0, []), (.slice Ao44 x10_3.length co44, x10_3), (.slice none 0 0, []), (.slice Ao45 x12_3.length co45, x12_3), (u7, x7_2), (u9, x9_2), (u11, x11_2)]) ∧ Aside0 (Below w.heap.size w w')) ?_ ?_
                        rotate_left
                        ·as_aux_lemma =>
                          intro hJ6_7
                          refine join_ (σ := Value × Value) 7 A99991_30 (fun s_ => [(96, s_.1), (107, s_.2)]) (fun s_ w' => (w'.cell? (ad422.add (x14_3).toNat) = some (.int .u8 (rd l1 x14_3)) ∧ w'.cell? (ad422.add (x14_3).toNat) = some (.int .u8 (rd l1 x14_3)) ∧ w'.cell? (ad422.add (x14_3).toNat) = some (.int .u8 (rd l1 x14_3))) ∧ Aside0 (Rws w' w.heap.size [(s_.1, y423), (.slice Ao43 x8_3.length co43, x8_3), (s_.2, y430), (.slice Ao44 x10_3.length co44, x10_3), (.slice none 0 0, []), (.slice Ao45 x12_3.length co45, x12_3), (u7, x7_2), (u9, x9_2), (u11, x11_2)]) ∧ Aside0 (Below w.heap.size w w')) ?_ ?_
                          rotate_left
                          ·as_aux_lemma =>
                            intro hJ6_17
                            refine join_ (σ := Value × Value) 7 A99991_31 (fun s_ => [(96, s_.1), (116, s_.2)]) (fun s_ w' => (w'.cell? (ad422.add (x14_3).toNat) = some (.int .u8 (rd l1 x14_3)) ∧ w'.cell? (ad422.add (x14_3).toNat) = some (.int .u8 (rd l1 x14_3)) ∧ w'.cell? (ad422.add (x14_3).toNat) = some (.int .u8 (rd l1 x14_3))) ∧ Aside0 (Rws w' w.heap.size [(s_.1, y423), (.slice Ao43 x8_3.length co43, x8_3), (.slice none 0 0, []), (.slice Ao44 x10_3.length co44, x10_3), (s_.2, y437), (.slice Ao45 x12_3.length co45, x12_3), (u7, x7_2), (u9, x9_2), (u11, x11_2)]) ∧ Aside0 (Below w.heap.size w w')) ?_ ?_
                            rotate_left
                            ·as_aux_lemma =>
                              intro hJ6_26
                              refine join_ (σ := Value × Value) 7 A99991_32 (fun s_ => [(107, s_.1), (116, s_.2)]) (fun s_ w' => (w'.cell? (ad422.add (x14_3).toNat) = some (.int .u8 (rd l1 x14_3)) ∧ w'.cell? (ad422.add (x14_3).toNat) = some (.int .u8 (rd l1 x14_3)) ∧ w'.cell? (ad422.add (x14_3).toNat) = some (.int .u8 (rd l1 x14_3))) ∧ Aside0 (Rws w' w.heap.size [(.slice none 0 0, []), (.slice Ao43 x8_3.length co43, x8_3), (s_.1, y430), (.slice Ao44 x10_3.length co44, x10_3), (s_.2, y437), (.slice Ao45 x12_3.length co45, x12_3), (u7, x7_2), (u9, x9_2), (u11, x11_2)]) ∧ Aside0 (Below w.heap.size w w')) ?_ ?_
                              rotate_left
                              ·as_aux_lemma =>
                                intro hJ17_26
                                refine join_ (σ := Value) 8 A99991_33 (fun s_ => [(96, s_)]) (fun s_ w' => (w'.cell? (ad422.add (x14_3).toNat) = some (.int .u8 (rd l1 x14_3)) ∧ w'.cell? (ad422.add (x14_3).toNat) = some (.int .u8 (rd l1 x14_3)) ∧ w'.cell? (ad422.add (x14_3).toNat) = some (.int .u8 (rd l1 x14_3))) ∧ Aside0 (Rws w' w.heap.size [(s_, y423), (.slice Ao43 x8_3.length co43, x8_3), (.slice none 0 0, []), (.slice Ao44 x10_3.length co44, x10_3), (.slice none 0 0, []), (.slice Ao45 x12_3.length co45, x12_3), (u7, x7_2), (u9, x9_2), (u11, x11_2)]) ∧ Aside0 (Below w.heap.size w w')) ?_ ?_
                                rotate_left
                                ·as_aux_lemma =>
                                  intro hJ6
                                  refine join_ (σ := Value) 8 A99991_34 (fun s_ => [(107, s_)]) (fun s_ w' => (w'.cell? (ad422.add (x14_3).toNat) = some (.int .u8 (rd l1 x14_3)) ∧ w'.cell? (ad422.add (x14_3).toNat) = some (.int .u8 (rd l1 x14_3)) ∧ w'.cell? (ad422.add (x14_3).toNat) = some (.int .u8 (rd l1 x14_3))) ∧ Aside0 (Rws w' w.heap.size [(.slice none 0 0, []), (.slice Ao43 x8_3.length co43, x8_3), (s_, y430), (.slice Ao44 x10_3.length co44, x10_3), (.slice none 0 0, []), (.slice Ao45 x12_3.length co45, x12_3), (u7, x7_2), (u9, x9_2), (u11, x11_2)]) ∧ Aside0 (Below w.heap.size w w')) ?_ ?_
                                  rotate_left
                                  ·as_aux_lemma =>
                                    intro hJ17
                                    refine join_ (σ := Value) 8 A99991_35 (fun s_ => [(116, s_)]) (fun s_ w' => (w'.cell? (ad422.add (x14_3).toNat) = some (.int .u8 (rd l1 x14_3)) ∧ w'.cell? (ad422.add (x14_3).toNat) = some (.int .u8 (rd l1 x14_3)) ∧ w'.cell? (ad422.add (x14_3).toNat) = some (.int .u8 (rd l1 x14_3))) ∧ Aside0 (Rws w' w.heap.size [(.slice none 0 0, []), (.slice Ao43 x8_3.length co43, x8_3), (.slice none 0 0, []), (.slice Ao44 x10_3.length co44, x10_3), (s_, y437), (.slice Ao45 x12_3.length co45, x12_3), (u7, x7_2), (u9, x9_2), (u11, x11_2)]) ∧ Aside0 (Below w.heap.size w w')) ?_ ?_
                                    rotate_left
                                    ·as_aux_lemma =>
                                      intro hJ26
                                      refine three_ (i := 6) (j := 17) (k := 26) (Ni := some 96) (Nj := some 107) (Nk := some 116) A99991_33 A99991_34 A99991_35 rfl rfl rfl rfl rfl rfl (three_of HT_.out (by kernel_rfl)) (by decide) (by decide) (by decide) (fun K hK => ?_) (fun K hK => ?_) (fun K hK => ?_)
                                      ·exact lt_ HR HB 0 96 Ny423 rfl (fun a0 w' HR HB => hK.out _ _ (SF _ HB) (fun hHeld => nm_ (hJ6 a0 _ ⟨hHeld, HR, HB⟩)))
                                      ·exact lt_ HR HB 2 107 Ny430 rfl (fun a1 w' HR HB => hK.out _ _ (SF _ HB) (fun hHeld => nm_ (hJ17 a1 _ ⟨hHeld, HR, HB⟩)))
                                      ·exact lt_ HR HB 4 116 Ny437 rfl (fun a2 w' HR HB => hK.out _ _ (SF _ HB) (fun hHeld => nm_ (hJ26 a2 _ ⟨hHeld, HR, HB⟩)))
                                    clear HR HB hHeld
                                    rintro a2 w' ⟨hHeld, HR, HB⟩
                                    refine nm_ ?_
                                    refine two_ (i := 6) (j := 17) (Ni := some 96) (Nj := some 107) A99991_31 A99991_32 rfl rfl rfl rfl (two_of HT_.out (by kernel_rfl)) (by decide) (by decide) (fun K hK => ?_) (fun K hK => ?_)
                                    ·exact lt_ HR HB 0 96 Ny423 rfl (fun a0 w' HR HB => hK.out _ _ (SF _ HB) (fun hHeld => nm_ (hJ6_26 (a0, a2) _ ⟨hHeld, HR, HB⟩)))
                                    ·exact lt_ HR HB 2 107 Ny430 rfl (fun a1 w' HR HB => hK.out _ _ (SF _ HB) (fun hHeld => nm_ (hJ17_26 (a1, a2) _ ⟨hHeld, HR, HB⟩)))
                                  clear HR HB hHeld
                                  rintro a1 w' ⟨hHeld, HR, HB⟩
                                  refine nm_ ?_
                                  refine two_ (i := 6) (j := 26) (Ni := some 96) (Nj := some 116) A99991_30 A99991_32 rfl rfl rfl rfl (two_of HT_.out (by kernel_rfl)) (by decide) (by decide) (fun K hK => ?_) (fun K hK => ?_)
                                  ·exact lt_ HR HB 0 96 Ny423 rfl (fun a0 w' HR HB => hK.out _ _ (SF _ HB) (fun hHeld => nm_ (hJ6_17 (a0, a1) _ ⟨hHeld, HR, HB⟩)))
                                  ·exact lt_ HR HB 4 116 Ny437 rfl (fun a2 w' HR HB => hK.out _ _ (SF _ HB) (fun hHeld => nm_ (hJ17_26 (a1, a2) _ ⟨hHeld, HR, HB⟩)))
                                clear HR HB hHeld
                                rintro a0 w' ⟨hHeld, HR, HB⟩
                                refine nm_ ?_
                                refine three_ (i := 7) (j := 17) (k := 26) (Ni := some 97) (Nj := some 107) (Nk := some 116) A99991_29 A99991_30 A99991_31 rfl rfl rfl rfl rfl rfl (three_of HT_.out (by kernel_rfl)) (by decide) (by decide) (by decide) (fun K hK => ?_) (fun K hK => ?_) (fun K hK => ?_)
                                ·exact ap_ (.tmp 90) (.tmp 96) 0 1 97 HR HB Ny426 rfl rfl rfl rfl rfl LMc40.out (fun b0 w' HR HB => hK.out _ _ (SF _ HB) (fun hHeld => nm_ (hJ6_7 (a0, b0) _ ⟨hHeld, HR, HB⟩)))
                                ·exact lt_ HR HB 2 107 Ny430 rfl (fun a1 w' HR HB => hK.out _ _ (SF _ HB) (fun hHeld => nm_ (hJ6_17 (a0, a1) _ ⟨hHeld, HR, HB⟩)))
                                ·exact lt_ HR HB 4 116 Ny437 rfl (fun a2 w' HR HB => hK.out _ _ (SF _ HB) (fun hHeld => nm_ (hJ6_26 (a0, a2) _ ⟨hHeld, HR, HB⟩)))
                              clear HR HB hHeld
                              rintro ⟨a1, a2⟩ w' ⟨hHeld, HR, HB⟩
                              refine nm_ ?_
                              refine one_ (i := 6) (N := some 96) A99991_28 rfl rfl (one_of HT_.out (by kernel_rfl)) (by decide) (fun K hK => ?_)
                              exact lt_ HR HB 0 96 Ny423 rfl (fun a0 w' HR HB => hK.out _ _ (SF _ HB) (fun hHeld => nm_ (hJ6_17_26 (a0, a1, a2) _ ⟨hHeld, HR, HB⟩)))
                            clear HR HB hHeld
                            rintro ⟨a0, a2⟩ w' ⟨hHeld, HR, HB⟩
                            refine nm_ ?_
                            refine two_ (i := 7) (j := 17) (Ni := some 97) (Nj := some 107) A99991_27 A99991_28 rfl rfl rfl rfl (two_of HT_.out (by kernel_rfl)) (by decide) (by decide) (fun K hK => ?_) (fun K hK => ?_)
                            ·exact ap_ (.tmp 90) (.tmp 96) 0 1 97 HR HB Ny426 rfl rfl rfl rfl rfl LMc40.out (fun b0 w' HR HB => hK.out _ _ (SF _ HB) (fun hHeld => nm_ (hJ6_7_26 (a0, b0, a2) _ ⟨hHeld, HR, HB⟩)))
                            ·exact lt_ HR HB 2 107 Ny430 rfl (fun a1 w' HR HB => hK.out _ _ (SF _ HB) (fun hHeld => nm_ (hJ6_17_26 (a0, a1, a2) _ ⟨hHeld, HR, HB⟩)))
                          clear HR HB hHeld
                          rintro ⟨a0, a1⟩ w' ⟨hHeld, HR, HB⟩
                          refine nm_ ?_
                          refine two_ (i := 7) (j := 26) (Ni := some 97) (Nj := some 116) A99991_26 A99991_28 rfl rfl rfl rfl (two_of HT_.out (by kernel_rfl)) (by decide) (by decide) (fun K hK => ?_) (fun K hK => ?_)
                          ·exact ap_ (.tmp 90) (.tmp 96) 0 1 97 HR HB Ny426 rfl rfl rfl rfl rfl LMc40.out (fun b0 w' HR HB => hK.out _ _ (SF _ HB) (fun hHeld => nm_ (hJ6_7_17 (a0, b0, a1) _ ⟨hHeld, HR, HB⟩)))
                          ·exact lt_ HR HB 4 116 Ny437 rfl (fun a2 w' HR HB => hK.out _ _ (SF _ HB) (fun hHeld => nm_ (hJ6_17_26 (a0, a1, a2) _ ⟨hHeld, HR, HB⟩)))
                        clear HR HB hHeld
                        rintro ⟨a0, b0⟩ w' ⟨hHeld, HR, HB⟩
                        refine nm_ ?_
                        refine two_ (i := 17) (j := 26) (Ni := some 107) (Nj := some 116) A99991_26 A99991_27 rfl rfl rfl rfl (two_of HT_.out (by kernel_rfl)) (by decide) (by decide) (fun K hK => ?_) (fun K hK => ?_)
                        ·exact lt_ HR HB 2 107 Ny430 rfl (fun a1 w' HR HB => hK.out _ _ (SF _ HB) (fun hHeld => nm_ (hJ6_7_17 (a0, b0, a1) _ ⟨hHeld, HR, HB⟩)))
                        ·exact lt_ HR HB 4 116 Ny437 rfl (fun a2 w' HR HB => hK.out _ _ (SF _ HB) (fun hHeld => nm_ (hJ6_7_26 (a0, b0, a2) _ ⟨hHeld, HR, HB⟩)))
                      clear HR HB hHeld
                      rintro ⟨a0, a1, a2⟩ w' ⟨hHeld, HR, HB⟩
                      refine nm_ ?_
                      refine one_ (i := 7) (N := some 97) A99991_25 rfl rfl (one_of HT_.out (by kernel_rfl)) (by decide) (fun K hK => ?_)
                      exact ap_ (.tmp 90) (.tmp 96) 0 1 97 HR HB Ny426 rfl rfl rfl rfl rfl LMc40.out (fun b0 w' HR HB => hK.out _ _ (SF _ HB) (fun hHeld => nm_ (hJ6_7_17_26 (a0, b0, a1, a2) _ ⟨hHeld, HR, HB⟩)))
                    clear HR HB hHeld
                    rintro ⟨a0, b0, a2⟩ w' ⟨hHeld, HR, HB⟩
                    refine nm_ ?_
                    refine one_ (i := 17) (N := some 107) A99991_25 rfl rfl (one_of HT_.out (by kernel_rfl)) (by decide) (fun K hK => ?_)
                    exact lt_ HR HB 2 107 Ny430 rfl (fun a1 w' HR HB => hK.out _ _ (SF _ HB) (fun hHeld => nm_ (hJ6_7_17_26 (a0, b0, a1, a2) _ ⟨hHeld, HR, HB⟩)))
                  clear HR HB hHeld
                  rintro ⟨a0, b0, a1⟩ w' ⟨hHeld, HR, HB⟩
                  refine nm_ ?_
                  refine two_ (i := 18) (j := 26) (Ni := some 108) (Nj := some 116) A99991_24 A99991_25 rfl rfl rfl rfl (two_of HT_.out (by kernel_rfl)) (by decide) (by decide) (fun K hK => ?_) (fun K hK => ?_)
                  ·exact ap_ (.tmp 98) (.tmp 107) 2 3 108 HR HB Ny433 rfl rfl rfl rfl rfl LMc41.out (fun b1 w' HR HB => hK.out _ _ (SF _ HB) (fun hHeld => nm_ (hJ6_7_17_18 (a0, b0, a1, b1) _ ⟨hHeld, HR, HB⟩)))
                  ·exact lt_ HR HB 4 116 Ny437 rfl (fun a2 w' HR HB => hK.out _ _ (SF _ HB) (fun hHeld => nm_ (hJ6_7_17_26 (a0, b0, a1, a2) _ ⟨hHeld, HR, HB⟩)))
                clear HR HB hHeld
                rintro ⟨a0, b0, a1, a2⟩ w' ⟨hHeld, HR, HB⟩
                refine nm_ ?_
                refine one_ (i := 18) (N := some 108) A99991_23 rfl rfl (one_of HT_.out (by kernel_rfl)) (by decide) (fun K hK => ?_)
                exact ap_ (.tmp 98) (.tmp 107) 2 3 108 HR HB Ny433 rfl rfl rfl rfl rfl LMc41.out (fun b1 w' HR HB => hK.out _ _ (SF _ HB) (fun hHeld => nm_ (hJ6_7_17_18_26 (a0, b0, a1, b1, a2) _ ⟨hHeld, HR, HB⟩)))
              clear HR HB hHeld
              rintro ⟨a0, b0, a1, b1⟩ w' ⟨hHeld, HR, HB⟩
              refine nm_ ?_
              refine one_ (i := 26) (N := some 116) A99991_23 rfl rfl (one_of HT_.out (by kernel_rfl)) (by decide) (fun K hK => ?_)
              exact lt_ HR HB 4 116 Ny437 rfl (fun a2 w' HR HB => hK.out _ _ (SF _ HB) (fun hHeld => nm_ (hJ6_7_17_18_26 (a0, b0, a1, b1, a2) _ ⟨hHeld, HR, HB⟩)))
            clear HR HB hHeld
            rintro ⟨a0, b0, a1, b1, a2⟩ w' ⟨hHeld, HR, HB⟩
            refine nm_ ?_
            refine one_ (i := 27) (N := some 117) A99991_36 rfl rfl (one_of HT_.out (by kernel_rfl)) (by decide) (fun K hK => ?_)
            refine ap_ (.tmp 109) (.tmp 116) 4 5 117 HR HB Ny440 rfl rfl rfl rfl rfl LMc42.out (fun b2 w' HR HB => ?_)
            refine hK.out _ _ (SF _ HB) (fun hHeld => ?_)
            clear hK K
            refine nm_ ?_
            refine pA_ 28 8 A99991_37 HT_ ?_
            refine pA_ 29 10 A99991_38 HT_ ?_
            refine pA_ 30 12 A99991_39 HT_ ?_
            refine done_ (done_of HT_.out (by kernel_rfl)) ?_
            try go_wp2
            go_roundg k3
            case measure =>
             have := HJ3.out; have := HK2.out; have := HK3.out; omega
            case rel => exact ⟨(y426), (y433), (y440), (wrap64 (x14_3 + 1)), qgsleuthlaw45changepointfair_90, H', ⟨by have := HJ3.out; have := HK2.out; have := HK3.out; omega⟩, ⟨by (with_reducible repeat (first | apply Kd.R_alloc | apply Kd.R_drewN | apply Kd.R_drew)); exact Rws.outA HR 6⟩, ⟨by (with_reducible repeat (first | apply Kd.R_alloc | apply Kd.R_drewN | apply Kd.R_drew)); exact Rws.outA HR 1⟩, ⟨by (with_reducible repeat (first | apply Kd.R_alloc | apply Kd.R_drewN | apply Kd.R_drew)); exact Rws.outA HR 7⟩, ⟨by (with_reducible repeat (first | apply Kd.R_alloc | apply Kd.R_drewN | apply Kd.R_drew)); exact Rws.outA HR 3⟩, ⟨by (with_reducible repeat (first | apply Kd.R_alloc | apply Kd.R_drewN | apply Kd.R_drew)); exact Rws.outA HR 8⟩, ⟨by (with_reducible repeat (first | apply Kd.R_alloc | apply Kd.R_drewN | apply Kd.R_drew)); exact Rws.outA HR 5⟩, ⟨qgsleuthlaw45changepointfair_0⟩⟩
        
/-- THE ONE PURE STATEMENT of sleuthlaw45_ChangepointFair: yours. -/
def sleuthlaw45_ChangepointFair.Pure : Prop := ∀ (l0 : List Int) (l1 : List Int) (a2 : Int), l0.length ≤ maxLen → l0.length * 1 ≤ 140737488351232 → (∀ x ∈ l0, (Lit.int .u8 x).wf = true) → l1.length ≤ maxLen → l1.length * 1 ≤ 140737488351232 → (∀ x ∈ l1, (Lit.int .u8 x).wf = true) → (Lit.int .i16 a2).wf = true → ∃ k, sleuthlaw45_ChangepointFair.f k l0 l1 a2 = some true
theorem sleuthlaw45_ChangepointFair.walk (P : sleuthlaw45_ChangepointFair.Pure) (a0 : Option Addr) (len0 cap0 : Nat) (z0 : List Int) (a1 : Option Addr) (len1 cap1 : Nat) (z1 : List Int) (a2 : Int) (w : World) (w0 : (a0 = none ∧ len0 = 0 ∧ cap0 = 0 ∧ z0 = []) ∨ ∃ x, a0 = some x ∧ len0 ≤ cap0 ∧ cap0 ≤ maxLen ∧ z0.length = cap0 ∧ (∀ i, i < z0.length → w.cell? (x.add i) = some (.int .u8 (z0.getD i 0))) ∧ ∀ n ∈ z0, (Lit.int .u8 n).wf = true) (y0 : len0 * 1 ≤ 140737488351232) (w1 : (a1 = none ∧ len1 = 0 ∧ cap1 = 0 ∧ z1 = []) ∨ ∃ x, a1 = some x ∧ len1 ≤ cap1 ∧ cap1 ≤ maxLen ∧ z1.length = cap1 ∧ (∀ i, i < z1.length → w.cell? (x.add i) = some (.int .u8 (z1.getD i 0))) ∧ ∀ n ∈ z1, (Lit.int .u8 n).wf = true) (y1 : len1 * 1 ≤ 140737488351232) (w2 : (Lit.int .i16 a2).wf = true) :
  Calls Try.prog 6 #[.slice a0 len0 cap0, .slice a1 len1 cap1, .int .i16 a2] w fun e w' => e = .returned (.bool true) ∧ Below w.heap.size w w' := by
 obtain ⟨l0, rfl, hr0, hm0, hw0, hc0⟩ := ReadsInt.ofRowC w0
 obtain ⟨l1, rfl, hr1, hm1, hw1, hc1⟩ := ReadsInt.ofRowC w1
 obtain ⟨k, h⟩ := P l0 l1 a2 hm0 y0 hw0 hm1 y1 hw1 w2
 refine (sleuthlaw45_ChangepointFair.calls k _ _ l0 _ _ l1 a2 true w (Kd.C_of_reads (d := (0 : Int)) (h1 := fun _ => rfl) hr0) hc0 (Kd.C_of_reads (d := (0 : Int)) (h1 := fun _ => rfl) hr1) hc1 h).mono ?_
 rintro e w' ⟨rfl, hd⟩
 exact ⟨rfl, hd⟩

end Go.Proofs.Ytcjgmofgfblmnaa.Q
