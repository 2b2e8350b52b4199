-- Laid by myprint.py (a program of this session's, over the kit's printer and with functions proved by hand)
import Derived.Test.YtiimanpmidnffaaQx0
import Derived.Test.YtiimanpmidnffaaQx1
import Derived.Test.YtiimanpmidnffaaQx2
import Derived.Test.YtiimanpmidnffaaQx3
namespace Go.Proofs.Ytiimanpmidnffaa.Q
open Go.RowKit Go.Proofs.YtiimanpmidnffaaW.PrintWords Go.Proofs.YtiimanpmidnffaaW.PrintLast Go.Proofs.YtiimanpmidnffaaW.PrintMore
attribute [local go_sem] max2_int min2_int max_two min_two max_three min_three max_four min_four   -- for this text's walks alone
set_option linter.unusedVariables false
set_option linter.unusedSimpArgs false

abbrev T16 : Bool := true
abbrev F16 : Bool := false
theorem qx16_0 {p : Prop} (h : p := by repeat (first | (with_reducible first | exact HB.out | apply below_alloc | apply pw_below_drewN | apply below_drew1) | exact HB.out)) : p := h
theorem qx16_1 {p : Prop} (h : p := by first | (with_reducible assumption) | assumption) : p := h
theorem qx16_2 {p : Prop} (h : p := by (with_reducible repeat (first | apply Kd.N_alloc | apply Kd.N_drewN | apply Kd.N_drew)); exact HO_8.out) : p := h
theorem qx16_3 {p : Prop} (h : p := by (with_reducible repeat (first | apply Kd.N_alloc | apply Kd.N_drewN | apply Kd.N_drew)); exact HO_10.out) : p := h
theorem qx16_4 {p : Prop} (h : p := by repeat (first | (with_reducible first | exact HB.out | apply below_alloc | apply pw_below_drewN | apply below_drew1 | refine below_set ?_ GE400.out) | exact HB.out)) : p := h
theorem qx16_5 {p : Prop} (h : p := by (with_reducible repeat (first | apply Kd.N_alloc | apply Kd.N_drewN | apply Kd.N_drew)); exact HO_12.out) : p := h
theorem qx16_6 {p : Prop} (h : p := by (with_reducible repeat (first | apply Kd.N_alloc | apply Kd.N_drewN | apply Kd.N_drew)); exact HO_14.out) : p := h
theorem qx16_7 {p : Prop} (h : p := by first | exact Kd.own_blk (Kd.N_away HO_10.out (fun _ hk => hk.2.2.2.2)) | (rw [add_block]; exact Kd.own_blk (Kd.N_away HO_10.out (fun _ hk => hk.2.2.2.2))) | (show (Addr.add _ _).block ≠ _; rw [add_block]; exact Kd.own_blk (Kd.N_away HO_10.out (fun _ hk => hk.2.2.2.2))) | (dsimp only; exact Kd.own_blk (Kd.N_away HO_10.out (fun _ hk => hk.2.2.2.2)))) : p := h
theorem qx16_8 {p : Prop} (h : p := by (try simp only [List.map_toArray, List.map_cons, List.map_nil]); first | done | rfl | (simp only [List.length_drop, List.length_take]; rfl)) : p := h
theorem qx16_9 {p : Prop} (h : p := by (with_reducible repeat (first | refine blk_drewN ?_ _ | refine blk_drew ?_ | refine blk_alloc ?_ _)); exact BK400.out) : p := h
theorem qx16_10 {p : Prop} (h : p := by repeat (first | (with_reducible exact HR394_0.out) | (with_reducible refine Kd.C_alloc ?_ _) | (with_reducible refine Kd.C_drewN ?_ _) | (with_reducible refine Kd.C_drew ?_) | exact HR394_0.out)) : p := h
theorem qx16_11 {p : Prop} (h : p := by first | rfl | (simp; done) | (simp [*]; done)) : p := h
theorem qx16_12 {p : Prop} (h : p := by repeat (first | (with_reducible exact HR393_1.out) | (with_reducible refine Kd.C_alloc ?_ _) | (with_reducible refine Kd.C_drewN ?_ _) | (with_reducible refine Kd.C_drew ?_) | exact HR393_1.out)) : p := h
theorem qx16_13 {p : Prop} (h : p := by (with_reducible repeat (first | apply Kd.V_alloc | apply Kd.V_drewN | apply Kd.V_drew)); exact Kd.V_mono (Kd.V_far (p := ⟨gb400, 1, none⟩) (Kd.V_far (p := ⟨gb400, 0, none⟩) (Kd.V_mono HL393_1.out (fun k_ hk => (⟨hk, hk.2.2.2.2.2⟩ : _ ∧ k_ ≠ gb400))) (fun _ hk => hk.2) (.int .i64 t396)) (fun _ hk => hk.2) (.slice Ao75 t397.length co75)) (fun _ hk => ⟨hk.1.1, ⟨hk.1.2.2.2.2.1, ⟨hk.1.2.1, ⟨hk.1.2.2.1, ⟨hk.1.2.2.2.1, hk.1.2.2.2.2.2⟩⟩⟩⟩⟩)) : p := h
theorem qx16_14 {p : Prop} (h : p := by (with_reducible repeat (first | apply Kd.V_alloc | apply Kd.V_drewN | apply Kd.V_drew)); exact Kd.V_mono (Kd.V_far (p := ⟨gb400, 1, none⟩) (Kd.V_far (p := ⟨gb400, 0, none⟩) (Kd.V_mono HL394_0.out (fun k_ hk => (⟨hk, hk.2.2.2.2.2⟩ : _ ∧ k_ ≠ gb400))) (fun _ hk => hk.2) (.int .i64 t396)) (fun _ hk => hk.2) (.slice Ao75 t397.length co75)) (fun _ hk => ⟨hk.1.1, ⟨hk.1.2.2.2.2.1, ⟨hk.1.2.1, ⟨hk.1.2.2.1, ⟨hk.1.2.2.2.1, hk.1.2.2.2.2.2⟩⟩⟩⟩⟩)) : p := h
theorem qx16_15 {p : Prop} (h : p := by (with_reducible repeat (first | apply Kd.V_alloc | apply Kd.V_drewN | apply Kd.V_drew)); exact Kd.V_mono (Kd.V_far (p := ⟨gb400, 1, none⟩) (Kd.V_far (p := ⟨gb400, 0, none⟩) (Kd.V_mono HO399.out (fun k_ hk => (⟨hk, hk.2.2.2.2.2⟩ : _ ∧ k_ ≠ gb400))) (fun _ hk => hk.2) (.int .i64 t396)) (fun _ hk => hk.2) (.slice Ao75 t397.length co75)) (fun _ hk => ⟨hk.1.1, ⟨hk.1.2.2.2.2.1, ⟨hk.1.2.1, ⟨hk.1.2.2.1, ⟨hk.1.2.2.2.1, hk.1.2.2.2.2.2⟩⟩⟩⟩⟩)) : p := h
theorem qx16_16 {p : Prop} (h : p := by (with_reducible repeat (first | refine blk_drewN ?_ _ | refine blk_drew ?_ | refine blk_alloc ?_ _)); refine blk_put (cs := #[.int .i64 t396, .slice none 0 0]) ?_ 1 _ rfl; (with_reducible repeat (first | refine blk_drewN ?_ _ | refine blk_drew ?_ | refine blk_alloc ?_ _)); refine blk_put (cs := #[.int .i64 0, .slice none 0 0]) ?_ 0 _ rfl; (with_reducible repeat (first | refine blk_drewN ?_ _ | refine blk_drew ?_ | refine blk_alloc ?_ _)); exact BK400.out) : p := h
theorem qx16_17 {p : Prop} (h : p := by (with_reducible repeat (first | apply Kd.N_alloc | apply Kd.N_drewN | apply Kd.N_drew)); exact Kd.N_mono (Kd.N_far (p := ⟨gb400, 1, none⟩) (Kd.N_far (p := ⟨gb400, 0, none⟩) (Kd.N_mono HO_10.out (fun k_ hk => (⟨hk, hk.2.2.2.2⟩ : _ ∧ k_ ≠ gb400))) (fun _ hk => hk.2) (.int .i64 t396)) (fun _ hk => hk.2) (.slice Ao75 t397.length co75)) (fun _ hk => ⟨hk.1.1, ⟨hk.1.2.2.2.1, ⟨hk.1.2.1, ⟨hk.1.2.2.1, hk.1.2.2.2.2⟩⟩⟩⟩)) : p := h
theorem qx16_18 {p : Prop} (h : p := by (with_reducible repeat (first | apply Kd.N_alloc | apply Kd.N_drewN | apply Kd.N_drew)); exact Kd.N_mono (Kd.N_far (p := ⟨gb400, 1, none⟩) (Kd.N_far (p := ⟨gb400, 0, none⟩) (Kd.N_mono HO_12.out (fun k_ hk => (⟨hk, hk.2.2.2.2⟩ : _ ∧ k_ ≠ gb400))) (fun _ hk => hk.2) (.int .i64 t396)) (fun _ hk => hk.2) (.slice Ao75 t397.length co75)) (fun _ hk => ⟨hk.1.1, ⟨hk.1.2.2.2.1, ⟨hk.1.2.1, ⟨hk.1.2.2.1, hk.1.2.2.2.2⟩⟩⟩⟩)) : p := h
theorem qx16_19 {p : Prop} (h : p := by (with_reducible repeat (first | apply Kd.N_alloc | apply Kd.N_drewN | apply Kd.N_drew)); exact Kd.N_mono (Kd.N_far (p := ⟨gb400, 1, none⟩) (Kd.N_far (p := ⟨gb400, 0, none⟩) (Kd.N_mono HO_14.out (fun k_ hk => (⟨hk, hk.2.2.2.2⟩ : _ ∧ k_ ≠ gb400))) (fun _ hk => hk.2) (.int .i64 t396)) (fun _ hk => hk.2) (.slice Ao75 t397.length co75)) (fun _ hk => ⟨hk.1.1, ⟨hk.1.2.2.2.1, ⟨hk.1.2.1, ⟨hk.1.2.2.1, hk.1.2.2.2.2⟩⟩⟩⟩)) : p := h
theorem qx16_20 {p : Prop} (h : p := by (with_reducible repeat (first | apply Kd.N_alloc | apply Kd.N_drewN | apply Kd.N_drew)); exact Kd.N_mono (Kd.N_far (p := ⟨gb400, 1, none⟩) (Kd.N_far (p := ⟨gb400, 0, none⟩) (Kd.N_mono HO_8.out (fun k_ hk => (⟨hk, hk.2.2.2.2⟩ : _ ∧ k_ ≠ gb400))) (fun _ hk => hk.2) (.int .i64 t396)) (fun _ hk => hk.2) (.slice Ao75 t397.length co75)) (fun _ hk => ⟨hk.1.1, ⟨hk.1.2.1, ⟨hk.1.2.2.1, ⟨hk.1.2.2.2.1, hk.1.2.2.2.2⟩⟩⟩⟩)) : p := h
theorem qx16_21 {p : Prop} (h : p := by (with_reducible repeat (first | apply Kd.V_alloc | apply Kd.V_drewN | apply Kd.V_drew)); exact HL393_1.out) : p := h
theorem qx16_22 {p : Prop} (h : p := by (with_reducible repeat (first | apply Kd.V_alloc | apply Kd.V_drewN | apply Kd.V_drew)); exact HL394_0.out) : p := h
theorem qx16_23 {p : Prop} (h : p := by first | exact Kd.own_blk (Kd.N_away HO_8.out (fun _ hk => hk.2.2.2.2)) | (rw [add_block]; exact Kd.own_blk (Kd.N_away HO_8.out (fun _ hk => hk.2.2.2.2))) | (show (Addr.add _ _).block ≠ _; rw [add_block]; exact Kd.own_blk (Kd.N_away HO_8.out (fun _ hk => hk.2.2.2.2))) | (dsimp only; exact Kd.own_blk (Kd.N_away HO_8.out (fun _ hk => hk.2.2.2.2)))) : p := h
theorem qx16_24 {p : Prop} (h : p := by (with_reducible repeat (first | apply Kd.V_alloc | apply Kd.V_drewN | apply Kd.V_drew)); exact HO399.out) : p := h
theorem qx16_25 {p : Prop} (h : p := by repeat (first | exact HR0.out | (with_reducible refine Kd.C_alloc ?_ _) | (with_reducible refine Kd.C_drewN ?_ _) | (with_reducible refine Kd.C_drew ?_))) : p := h
theorem qx16_26 {p : Prop} (h : p := by (with_reducible repeat (first | apply Kd.V_alloc | apply Kd.V_drewN | apply Kd.V_drew)); exact Kd.V_mono HL393_1.out (fun _ hk => ⟨hk.1.1.1, ⟨hk.1.2, ⟨hk.1.1.2.2.1, ⟨hk.1.1.2.2.2, ⟨hk.1.1.2.1, hk.2⟩⟩⟩⟩⟩)) : p := h
theorem qx16_27 {p : Prop} (h : p := by (with_reducible repeat (first | apply Kd.V_alloc | apply Kd.V_drewN | apply Kd.V_drew)); exact Kd.V_mono HL394_0.out (fun _ hk => ⟨hk.1.1.1, ⟨hk.1.1.2.1, ⟨hk.1.1.2.2.1, ⟨hk.1.1.2.2.2, ⟨hk.1.2, hk.2⟩⟩⟩⟩⟩)) : p := h
theorem qx16_28 {p : Prop} (h : p := by (with_reducible repeat (first | apply Kd.N_alloc | apply Kd.N_drewN | apply Kd.N_drew)); exact Kd.N_mono HO_10.out (fun _ hk => ⟨hk.1.1, ⟨hk.1.2.2.1, ⟨hk.1.2.2.2, ⟨hk.1.2.1, hk.2⟩⟩⟩⟩)) : p := h
theorem qx16_29 {p : Prop} (h : p := by (with_reducible repeat (first | apply Kd.N_alloc | apply Kd.N_drewN | apply Kd.N_drew)); exact Kd.N_mono HO_12.out (fun _ hk => ⟨hk.1.1, ⟨hk.1.2.2.1, ⟨hk.1.2.2.2, ⟨hk.1.2.1, hk.2⟩⟩⟩⟩)) : p := h
theorem qx16_30 {p : Prop} (h : p := by (with_reducible repeat (first | apply Kd.N_alloc | apply Kd.N_drewN | apply Kd.N_drew)); exact Kd.N_mono HO_14.out (fun _ hk => ⟨hk.1.1, ⟨hk.1.2.2.1, ⟨hk.1.2.2.2, ⟨hk.1.2.1, hk.2⟩⟩⟩⟩)) : p := h
theorem qx16_31 {p : Prop} (h : p := by (with_reducible repeat (first | apply Kd.N_alloc | apply Kd.N_drewN | apply Kd.N_drew)); exact Kd.N_mono HO_8.out (fun _ hk => ⟨hk.1.1, ⟨hk.1.2.1, ⟨hk.1.2.2.1, ⟨hk.1.2.2.2, hk.2⟩⟩⟩⟩)) : p := h
theorem qx16_32 {p : Prop} (h : p := by repeat (first | (with_reducible exact HR381_1.out) | (with_reducible refine Kd.C_alloc ?_ _) | (with_reducible refine Kd.C_drewN ?_ _) | (with_reducible refine Kd.C_drew ?_) | exact HR381_1.out)) : p := h
theorem qx16_33 {p : Prop} (h : p := by repeat (first | (with_reducible exact HR401_1.out) | (with_reducible refine Kd.C_alloc ?_ _) | (with_reducible refine Kd.C_drewN ?_ _) | (with_reducible refine Kd.C_drew ?_) | exact HR401_1.out)) : p := h
theorem qx16_34 {p : Prop} (h : p := by (with_reducible repeat (first | apply Kd.N_alloc | apply Kd.N_drewN | apply Kd.N_drew)); exact Kd.N_mono HO_14.out (fun _ hk => ⟨hk.1, ⟨hk.2.1, ⟨hk.2.2.1, hk.2.2.2.1⟩⟩⟩)) : p := h
theorem qx16_35 {p : Prop} (h : p := by first | exact Kd.S_nil _ _ _ _ _ | exact Kd.N_nil _ _ _ _ _ | exact Kd.V_nil _ _ _ _ _ | exact Kd.Q_nil _ _ _ _ _ | exact Kd.R_nil _ _ _ _ _) : p := h
theorem qx16_36 {p : Prop} (h : p := by have := HK1.out; have := HK2.out; have := HK3.out; have := HK4.out; have := HK5.out; have := HJ46.out; first | omega | exact Nat.le_refl _) : p := h
/-! ### segmentation_Counts: function 35 -/
mutual
def segmentation_Counts.l0 : Nat → List Int → Int → Int → List (List Int) → Int → Option ((List (S27)) × Int)
 | 0, _, _, _, _, _ => none
 | k + 1, x0, x1, x7, x8, x9 => if x9 ≤ x7 then ((segmentation_costs.f k x0 x9).bind fun t364 => (if 0 ≤ x9 then (if x9 < (x8.length : Int) then (segmentation_Counts.l0 k x0 x1 x7 (x8.set (x9 : Int).toNat t364) (wrap64 (x9 + 1))) else (none)) else (none))) else (if 0 ≤ (wrap64 (x7 + 1)) then (if (wrap64 (x7 + 1) : Int).toNat ≤ 8796093022208 then (segmentation_Counts.l1 k x1 x7 x8 (List.replicate (wrap64 (x7 + 1) : Int).toNat z74) 1) else (none)) else (none))
def segmentation_Counts.l1 : Nat → Int → Int → List (List Int) → List (S74) → Int → Option ((List (S27)) × Int)
 | 0, _, _, _, _, _ => none
 | k + 1, x1, x7, x8, x10, x11 => if x11 ≤ x7 then (if 0 ≤ x11 then (if x11 < (x8.length : Int) then (if 0 < ((rd_L1 x8 x11).length : Int) then (if x11 < (x10.length : Int) then (segmentation_Counts.l1 k x1 x7 x8 (x10.set (x11 : Int).toNat (⟨rd (rd_L1 x8 x11) 0, ([] : List Int)⟩ : S74)) (wrap64 (x11 + 1))) else (none)) else (none)) else (none)) else (none)) else (if 0 ≤ x7 then (if x7 < (x10.length : Int) then (segmentation_Counts.l2 k x1 x7 x8 x10 (([(⟨([] : List Int), (rd_T74 x10 x7).f0⟩ : S27)] : List (S27))) 1) else (none)) else (none))
def segmentation_Counts.l2 : Nat → Int → Int → List (List Int) → List (S74) → List (S27) → Int → Option ((List (S27)) × Int)
 | 0, _, _, _, _, _, _ => none
 | k + 1, x1, x7, x8, x10, x12, x13 => if x13 ≤ (mn x1 (wrap64 (x7 - 1))) then (if 0 ≤ (wrap64 (x7 + 1)) then (if (wrap64 (x7 + 1) : Int).toNat ≤ 8796093022208 then (segmentation_Counts.l3 k x1 x7 x8 x10 x12 x13 (List.replicate (wrap64 (x7 + 1) : Int).toNat z74) (wrap64 (x13 + 1))) else (none)) else (none)) else (some (x12, 0))
def segmentation_Counts.l3 : Nat → Int → Int → List (List Int) → List (S74) → List (S27) → Int → List (S74) → Int → Option ((List (S27)) × Int)
 | 0, _, _, _, _, _, _, _, _ => none
 | k + 1, x1, x7, x8, x10, x12, x13, x14, x15 => if x15 ≤ x7 then (segmentation_Counts.l4 k x1 x7 x8 x10 x12 x13 x14 x15 x13) else (if 0 ≤ x7 then (if x7 < (x14.length : Int) then ((slices_Clone_int_int.f ((rd_T74 x14 x7).f1)).bind fun t382 => (if x12.length < 4398046511104 then (segmentation_Counts.l2 k x1 x7 x8 x14 (x12 ++ [(⟨t382, (rd_T74 x14 x7).f0⟩ : S27)]) (wrap64 (x13 + 1))) else (none))) else (none)) else (none))
def segmentation_Counts.l4 : Nat → Int → Int → List (List Int) → List (S74) → List (S27) → Int → List (S74) → Int → Int → Option ((List (S27)) × Int)
 | 0, _, _, _, _, _, _, _, _, _ => none
 | k + 1, x1, x7, x8, x10, x12, x13, x14, x15, x16 => if x16 < x15 then (if x16 > x13 then (if 0 ≤ x16 then (if x16 < (x10.length : Int) then (if 0 ≤ x15 then (if x15 < (x8.length : Int) then (if x16 < ((rd_L1 x8 x15).length : Int) then (if x15 < (x14.length : Int) then (segmentation_Counts.j5 k x1 x7 x8 x10 x12 x13 x14 x15 x16 (decide ((wrap64 (((rd_T74 x10 x16).f0) + (rd (rd_L1 x8 x15) x16))) > ((rd_T74 x14 x15).f0)))) else (none)) else (none)) else (none)) else (none)) else (none)) else (none)) else (segmentation_Counts.j5 k x1 x7 x8 x10 x12 x13 x14 x15 x16 false)) else (segmentation_Counts.l3 k x1 x7 x8 x10 x12 x13 x14 (wrap64 (x15 + 1)))
def segmentation_Counts.j5 : Nat → Int → Int → List (List Int) → List (S74) → List (S27) → Int → List (S74) → Int → Int → Bool → Option ((List (S27)) × Int)
 | 0, _, _, _, _, _, _, _, _, _, _ => none
 | k + 1, x1, x7, x8, x10, x12, x13, x14, x15, x16, x113 => if x113 = true then (segmentation_Counts.l4 k x1 x7 x8 x10 x12 x13 x14 x15 (wrap64 (x16 + 1))) else (if 0 ≤ x16 then (if x16 < (x10.length : Int) then (if 0 ≤ x15 then (if x15 < (x8.length : Int) then (if x16 < ((rd_L1 x8 x15).length : Int) then ((segmentation_best_after.f ((rd_T74 x10 x16).f0) ((rd_T74 x10 x16).f1) x16 (rd (rd_L1 x8 x15) x16)).bind fun bt396 => (if x16 = x13 then (segmentation_Counts.j6 k x1 x7 x8 x10 x12 x13 x14 x15 x16 true bt396.1 bt396.2) else (if x15 < (x14.length : Int) then ((segmentation_best_better.f k bt396.1 bt396.2 ((rd_T74 x14 x15).f0) ((rd_T74 x14 x15).f1)).bind fun t402 => (segmentation_Counts.j6 k x1 x7 x8 x10 x12 x13 x14 x15 x16 t402 bt396.1 bt396.2)) else (none)))) else (none)) else (none)) else (none)) else (none)) else (none))
def segmentation_Counts.j6 : Nat → Int → Int → List (List Int) → List (S74) → List (S27) → Int → List (S74) → Int → Int → Bool → Int → List Int → Option ((List (S27)) × Int)
 | 0, _, _, _, _, _, _, _, _, _, _, _, _ => none
 | k + 1, x1, x7, x8, x10, x12, x13, x14, x15, x16, x137, x401000, x401001 => if x137 = true then (if 0 ≤ x15 then (if x15 < (x14.length : Int) then (segmentation_Counts.l4 k x1 x7 x8 x10 x12 x13 (x14.set (x15 : Int).toNat (⟨x401000, x401001⟩ : S74)) x15 (wrap64 (x16 + 1))) else (none)) else (none)) else (segmentation_Counts.l4 k x1 x7 x8 x10 x12 x13 x14 x15 (wrap64 (x16 + 1)))
end
def segmentation_Counts.f (k : Nat) (l0 : List Int) (a1 : Int) : Option ((List (S27)) × Int) := (segmentation_Check.f k l0 0).bind fun t360 => (if t360 = 0 then (if a1 < 0 then (some (([] : List (S27)), 2)) else (if 0 ≤ (wrap64 ((l0.length : Int) + 1)) then (if (wrap64 ((l0.length : Int) + 1) : Int).toNat ≤ 11728124029610 then (segmentation_Counts.l0 k l0 a1 (l0.length : Int) (List.replicate (wrap64 ((l0.length : Int) + 1) : Int).toNat []) 1) else (none)) else (none))) else (some (([] : List (S27)), t360)))
theorem segmentation_Counts.mono_l : ∀ k, (∀ y0 y1 y2 y3 y4, LeO (segmentation_Counts.l0 k y0 y1 y2 y3 y4) (segmentation_Counts.l0 (k + 1) y0 y1 y2 y3 y4)) ∧ (∀ y0 y1 y2 y3 y4, LeO (segmentation_Counts.l1 k y0 y1 y2 y3 y4) (segmentation_Counts.l1 (k + 1) y0 y1 y2 y3 y4)) ∧ (∀ y0 y1 y2 y3 y4 y5, LeO (segmentation_Counts.l2 k y0 y1 y2 y3 y4 y5) (segmentation_Counts.l2 (k + 1) y0 y1 y2 y3 y4 y5)) ∧ (∀ y0 y1 y2 y3 y4 y5 y6 y7, LeO (segmentation_Counts.l3 k y0 y1 y2 y3 y4 y5 y6 y7) (segmentation_Counts.l3 (k + 1) y0 y1 y2 y3 y4 y5 y6 y7)) ∧ (∀ y0 y1 y2 y3 y4 y5 y6 y7 y8, LeO (segmentation_Counts.l4 k y0 y1 y2 y3 y4 y5 y6 y7 y8) (segmentation_Counts.l4 (k + 1) y0 y1 y2 y3 y4 y5 y6 y7 y8)) ∧ (∀ y0 y1 y2 y3 y4 y5 y6 y7 y8 y9, LeO (segmentation_Counts.j5 k y0 y1 y2 y3 y4 y5 y6 y7 y8 y9) (segmentation_Counts.j5 (k + 1) y0 y1 y2 y3 y4 y5 y6 y7 y8 y9)) ∧ (∀ y0 y1 y2 y3 y4 y5 y6 y7 y8 y9 y10 y11, LeO (segmentation_Counts.j6 k y0 y1 y2 y3 y4 y5 y6 y7 y8 y9 y10 y11) (segmentation_Counts.j6 (k + 1) y0 y1 y2 y3 y4 y5 y6 y7 y8 y9 y10 y11))
 | 0 => ⟨fun _ _ _ _ _ r h => by simp [segmentation_Counts.l0] at h, fun _ _ _ _ _ r h => by simp [segmentation_Counts.l1] at h, fun _ _ _ _ _ _ r h => by simp [segmentation_Counts.l2] at h, fun _ _ _ _ _ _ _ _ r h => by simp [segmentation_Counts.l3] at h, fun _ _ _ _ _ _ _ _ _ r h => by simp [segmentation_Counts.l4] at h, fun _ _ _ _ _ _ _ _ _ _ r h => by simp [segmentation_Counts.j5] at h, fun _ _ _ _ _ _ _ _ _ _ _ _ r h => by simp [segmentation_Counts.j6] at h⟩
 | k + 1 => by
  obtain ⟨ih0, ih1, ih2, ih3, ih4, ih5, ih6⟩ := segmentation_Counts.mono_l k
  refine ⟨?_, ?_, ?_, ?_, ?_, ?_, ?_⟩
  ·intro y0 y1 y2 y3 y4
   unfold segmentation_Counts.l0
   repeat' first
   | (with_reducible exact ih0 _ _ _ _ _)
   | (with_reducible exact ih1 _ _ _ _ _)
   | (with_reducible exact ih2 _ _ _ _ _ _)
   | (with_reducible exact ih3 _ _ _ _ _ _ _ _)
   | (with_reducible exact ih4 _ _ _ _ _ _ _ _ _)
   | (with_reducible exact ih5 _ _ _ _ _ _ _ _ _ _)
   | (with_reducible exact ih6 _ _ _ _ _ _ _ _ _ _ _ _)
   | (with_reducible exact segmentation_Check.mono _ _ _)
   | (with_reducible exact segmentation_best_better.mono _ _ _ _ _)
   | (with_reducible exact segmentation_costs.mono _ _ _)
   | (with_reducible exact LeO.refl _)
   | (with_reducible exact LeO.none _)
   | (with_reducible refine LeO.ite ?_ ?_)
   | (with_reducible refine LeO.bind ?_ (fun _ => ?_))
   | exact ih0 _ _ _ _ _
   | exact ih1 _ _ _ _ _
   | exact ih2 _ _ _ _ _ _
   | exact ih3 _ _ _ _ _ _ _ _
   | exact ih4 _ _ _ _ _ _ _ _ _
   | exact ih5 _ _ _ _ _ _ _ _ _ _
   | exact ih6 _ _ _ _ _ _ _ _ _ _ _ _
   | exact segmentation_Check.mono _ _ _
   | exact segmentation_best_better.mono _ _ _ _ _
   | exact segmentation_costs.mono _ _ _
   | exact LeO.none _
   | refine LeO.ite ?_ ?_
   | refine LeO.bind ?_ (fun _ => ?_)
  ·intro y0 y1 y2 y3 y4
   unfold segmentation_Counts.l1
   repeat' first
   | (with_reducible exact ih0 _ _ _ _ _)
   | (with_reducible exact ih1 _ _ _ _ _)
   | (with_reducible exact ih2 _ _ _ _ _ _)
   | (with_reducible exact ih3 _ _ _ _ _ _ _ _)
   | (with_reducible exact ih4 _ _ _ _ _ _ _ _ _)
   | (with_reducible exact ih5 _ _ _ _ _ _ _ _ _ _)
   | (with_reducible exact ih6 _ _ _ _ _ _ _ _ _ _ _ _)
   | (with_reducible exact segmentation_Check.mono _ _ _)
   | (with_reducible exact segmentation_best_better.mono _ _ _ _ _)
   | (with_reducible exact segmentation_costs.mono _ _ _)
   | (with_reducible exact LeO.refl _)
   | (with_reducible exact LeO.none _)
   | (with_reducible refine LeO.ite ?_ ?_)
   | (with_reducible refine LeO.bind ?_ (fun _ => ?_))
   | exact ih0 _ _ _ _ _
   | exact ih1 _ _ _ _ _
   | exact ih2 _ _ _ _ _ _
   | exact ih3 _ _ _ _ _ _ _ _
   | exact ih4 _ _ _ _ _ _ _ _ _
   | exact ih5 _ _ _ _ _ _ _ _ _ _
   | exact ih6 _ _ _ _ _ _ _ _ _ _ _ _
   | exact segmentation_Check.mono _ _ _
   | exact segmentation_best_better.mono _ _ _ _ _
   | exact segmentation_costs.mono _ _ _
   | exact LeO.none _
   | refine LeO.ite ?_ ?_
   | refine LeO.bind ?_ (fun _ => ?_)
  ·intro y0 y1 y2 y3 y4 y5
   unfold segmentation_Counts.l2
   repeat' first
   | (with_reducible exact ih0 _ _ _ _ _)
   | (with_reducible exact ih1 _ _ _ _ _)
   | (with_reducible exact ih2 _ _ _ _ _ _)
   | (with_reducible exact ih3 _ _ _ _ _ _ _ _)
   | (with_reducible exact ih4 _ _ _ _ _ _ _ _ _)
   | (with_reducible exact ih5 _ _ _ _ _ _ _ _ _ _)
   | (with_reducible exact ih6 _ _ _ _ _ _ _ _ _ _ _ _)
   | (with_reducible exact segmentation_Check.mono _ _ _)
   | (with_reducible exact segmentation_best_better.mono _ _ _ _ _)
   | (with_reducible exact segmentation_costs.mono _ _ _)
   | (with_reducible exact LeO.refl _)
   | (with_reducible exact LeO.none _)
   | (with_reducible refine LeO.ite ?_ ?_)
   | (with_reducible refine LeO.bind ?_ (fun _ => ?_))
   | exact ih0 _ _ _ _ _
   | exact ih1 _ _ _ _ _
   | exact ih2 _ _ _ _ _ _
   | exact ih3 _ _ _ _ _ _ _ _
   | exact ih4 _ _ _ _ _ _ _ _ _
   | exact ih5 _ _ _ _ _ _ _ _ _ _
   | exact ih6 _ _ _ _ _ _ _ _ _ _ _ _
   | exact segmentation_Check.mono _ _ _
   | exact segmentation_best_better.mono _ _ _ _ _
   | exact segmentation_costs.mono _ _ _
   | exact LeO.none _
   | refine LeO.ite ?_ ?_
   | refine LeO.bind ?_ (fun _ => ?_)
  ·intro y0 y1 y2 y3 y4 y5 y6 y7
   unfold segmentation_Counts.l3
   repeat' first
   | (with_reducible exact ih0 _ _ _ _ _)
   | (with_reducible exact ih1 _ _ _ _ _)
   | (with_reducible exact ih2 _ _ _ _ _ _)
   | (with_reducible exact ih3 _ _ _ _ _ _ _ _)
   | (with_reducible exact ih4 _ _ _ _ _ _ _ _ _)
   | (with_reducible exact ih5 _ _ _ _ _ _ _ _ _ _)
   | (with_reducible exact ih6 _ _ _ _ _ _ _ _ _ _ _ _)
   | (with_reducible exact segmentation_Check.mono _ _ _)
   | (with_reducible exact segmentation_best_better.mono _ _ _ _ _)
   | (with_reducible exact segmentation_costs.mono _ _ _)
   | (with_reducible exact LeO.refl _)
   | (with_reducible exact LeO.none _)
   | (with_reducible refine LeO.ite ?_ ?_)
   | (with_reducible refine LeO.bind ?_ (fun _ => ?_))
   | exact ih0 _ _ _ _ _
   | exact ih1 _ _ _ _ _
   | exact ih2 _ _ _ _ _ _
   | exact ih3 _ _ _ _ _ _ _ _
   | exact ih4 _ _ _ _ _ _ _ _ _
   | exact ih5 _ _ _ _ _ _ _ _ _ _
   | exact ih6 _ _ _ _ _ _ _ _ _ _ _ _
   | exact segmentation_Check.mono _ _ _
   | exact segmentation_best_better.mono _ _ _ _ _
   | exact segmentation_costs.mono _ _ _
   | exact LeO.none _
   | refine LeO.ite ?_ ?_
   | refine LeO.bind ?_ (fun _ => ?_)
  ·intro y0 y1 y2 y3 y4 y5 y6 y7 y8
   unfold segmentation_Counts.l4
   repeat' first
   | (with_reducible exact ih0 _ _ _ _ _)
   | (with_reducible exact ih1 _ _ _ _ _)
   | (with_reducible exact ih2 _ _ _ _ _ _)
   | (with_reducible exact ih3 _ _ _ _ _ _ _ _)
   | (with_reducible exact ih4 _ _ _ _ _ _ _ _ _)
   | (with_reducible exact ih5 _ _ _ _ _ _ _ _ _ _)
   | (with_reducible exact ih6 _ _ _ _ _ _ _ _ _ _ _ _)
   | (with_reducible exact segmentation_Check.mono _ _ _)
   | (with_reducible exact segmentation_best_better.mono _ _ _ _ _)
   | (with_reducible exact segmentation_costs.mono _ _ _)
   | (with_reducible exact LeO.refl _)
   | (with_reducible exact LeO.none _)
   | (with_reducible refine LeO.ite ?_ ?_)
   | (with_reducible refine LeO.bind ?_ (fun _ => ?_))
   | exact ih0 _ _ _ _ _
   | exact ih1 _ _ _ _ _
   | exact ih2 _ _ _ _ _ _
   | exact ih3 _ _ _ _ _ _ _ _
   | exact ih4 _ _ _ _ _ _ _ _ _
   | exact ih5 _ _ _ _ _ _ _ _ _ _
   | exact ih6 _ _ _ _ _ _ _ _ _ _ _ _
   | exact segmentation_Check.mono _ _ _
   | exact segmentation_best_better.mono _ _ _ _ _
   | exact segmentation_costs.mono _ _ _
   | exact LeO.none _
   | refine LeO.ite ?_ ?_
   | refine LeO.bind ?_ (fun _ => ?_)
  ·intro y0 y1 y2 y3 y4 y5 y6 y7 y8 y9
   unfold segmentation_Counts.j5
   repeat' first
   | (with_reducible exact ih0 _ _ _ _ _)
   | (with_reducible exact ih1 _ _ _ _ _)
   | (with_reducible exact ih2 _ _ _ _ _ _)
   | (with_reducible exact ih3 _ _ _ _ _ _ _ _)
   | (with_reducible exact ih4 _ _ _ _ _ _ _ _ _)
   | (with_reducible exact ih5 _ _ _ _ _ _ _ _ _ _)
   | (with_reducible exact ih6 _ _ _ _ _ _ _ _ _ _ _ _)
   | (with_reducible exact segmentation_Check.mono _ _ _)
   | (with_reducible exact segmentation_best_better.mono _ _ _ _ _)
   | (with_reducible exact segmentation_costs.mono _ _ _)
   | (with_reducible exact LeO.refl _)
   | (with_reducible exact LeO.none _)
   | (with_reducible refine LeO.ite ?_ ?_)
   | (with_reducible refine LeO.bind ?_ (fun _ => ?_))
   | exact ih0 _ _ _ _ _
   | exact ih1 _ _ _ _ _
   | exact ih2 _ _ _ _ _ _
   | exact ih3 _ _ _ _ _ _ _ _
   | exact ih4 _ _ _ _ _ _ _ _ _
   | exact ih5 _ _ _ _ _ _ _ _ _ _
   | exact ih6 _ _ _ _ _ _ _ _ _ _ _ _
   | exact segmentation_Check.mono _ _ _
   | exact segmentation_best_better.mono _ _ _ _ _
   | exact segmentation_costs.mono _ _ _
   | exact LeO.none _
   | refine LeO.ite ?_ ?_
   | refine LeO.bind ?_ (fun _ => ?_)
  ·intro y0 y1 y2 y3 y4 y5 y6 y7 y8 y9 y10 y11
   unfold segmentation_Counts.j6
   repeat' first
   | (with_reducible exact ih0 _ _ _ _ _)
   | (with_reducible exact ih1 _ _ _ _ _)
   | (with_reducible exact ih2 _ _ _ _ _ _)
   | (with_reducible exact ih3 _ _ _ _ _ _ _ _)
   | (with_reducible exact ih4 _ _ _ _ _ _ _ _ _)
   | (with_reducible exact ih5 _ _ _ _ _ _ _ _ _ _)
   | (with_reducible exact ih6 _ _ _ _ _ _ _ _ _ _ _ _)
   | (with_reducible exact segmentation_Check.mono _ _ _)
   | (with_reducible exact segmentation_best_better.mono _ _ _ _ _)
   | (with_reducible exact segmentation_costs.mono _ _ _)
   | (with_reducible exact LeO.refl _)
   | (with_reducible exact LeO.none _)
   | (with_reducible refine LeO.ite ?_ ?_)
   | (with_reducible refine LeO.bind ?_ (fun _ => ?_))
   | exact ih0 _ _ _ _ _
   | exact ih1 _ _ _ _ _
   | exact ih2 _ _ _ _ _ _
   | exact ih3 _ _ _ _ _ _ _ _
   | exact ih4 _ _ _ _ _ _ _ _ _
   | exact ih5 _ _ _ _ _ _ _ _ _ _
   | exact ih6 _ _ _ _ _ _ _ _ _ _ _ _
   | exact segmentation_Check.mono _ _ _
   | exact segmentation_best_better.mono _ _ _ _ _
   | exact segmentation_costs.mono _ _ _
   | exact LeO.none _
   | refine LeO.ite ?_ ?_
   | refine LeO.bind ?_ (fun _ => ?_)
theorem segmentation_Counts.mono : ∀ a0 a1 k, LeO (segmentation_Counts.f k a0 a1) (segmentation_Counts.f (k + 1) a0 a1) := by
 intro a0 a1 k
 obtain ⟨ih0, ih1, ih2, ih3, ih4, ih5, ih6⟩ := segmentation_Counts.mono_l k
 unfold segmentation_Counts.f
 repeat' first
   | (with_reducible exact ih0 _ _ _ _ _)
   | (with_reducible exact ih1 _ _ _ _ _)
   | (with_reducible exact ih2 _ _ _ _ _ _)
   | (with_reducible exact ih3 _ _ _ _ _ _ _ _)
   | (with_reducible exact ih4 _ _ _ _ _ _ _ _ _)
   | (with_reducible exact ih5 _ _ _ _ _ _ _ _ _ _)
   | (with_reducible exact ih6 _ _ _ _ _ _ _ _ _ _ _ _)
   | (with_reducible exact segmentation_Check.mono _ _ _)
   | (with_reducible exact segmentation_best_better.mono _ _ _ _ _)
   | (with_reducible exact segmentation_costs.mono _ _ _)
   | (with_reducible exact LeO.refl _)
   | (with_reducible exact LeO.none _)
   | (with_reducible refine LeO.ite ?_ ?_)
   | (with_reducible refine LeO.bind ?_ (fun _ => ?_))
   | exact ih0 _ _ _ _ _
   | exact ih1 _ _ _ _ _
   | exact ih2 _ _ _ _ _ _
   | exact ih3 _ _ _ _ _ _ _ _
   | exact ih4 _ _ _ _ _ _ _ _ _
   | exact ih5 _ _ _ _ _ _ _ _ _ _
   | exact ih6 _ _ _ _ _ _ _ _ _ _ _ _
   | exact segmentation_Check.mono _ _ _
   | exact segmentation_best_better.mono _ _ _ _ _
   | exact segmentation_costs.mono _ _ _
   | exact LeO.none _
   | refine LeO.ite ?_ ?_
   | refine LeO.bind ?_ (fun _ => ?_)
def segmentation_Counts.T28 : Bool × List (List Nat × List Nat) := (true, [([], []), ([], []), ([0, 1], [0, 1]), ([2], [2]), ([3], [3]), ([3], [3]), ([4, 5, 3], [3, 4, 5]), ([6, 3], [3, 6]), ([7, 3], [3, 7]), ([3], [3]), ([3], [3]), ([9, 10, 3], [3, 9, 10]), ([11, 3], [3, 11]), ([3], [3]), ([12, 13, 3], [3, 12, 13]), ([14, 3], [3, 14]), ([8, 15, 3], [3, 8, 15]), ([3], [3]), ([3], [3]), ([17, 18, 3], [3, 17, 18]), ([19, 3], [3, 19]), ([20, 3], [3, 20]), ([16, 21, 3], [3, 16, 21]), ([3, 22], [3, 22])])
def segmentation_Counts.B28 : List Nat := [0, 0, 3, 7, 15, 15, 63, 127, 255, 15, 15, 1551, 3599, 15, 15887, 32271, 65535, 15, 15, 393231, 917519, 1966095, 4194303, 8388607]
theorem segmentation_Counts.tab28 : rtab .any (opsOf Try.f35 28) = segmentation_Counts.T28 := by kernel_rfl
theorem segmentation_Counts.bits28 : waitsOk segmentation_Counts.T28.2 segmentation_Counts.B28 = true := by kernel_rfl
def segmentation_Counts.T29 : Bool × List (List Nat × List Nat) := (true, [([], []), ([], []), ([0, 1], [0, 1]), ([2], [2]), ([], []), ([], []), ([], []), ([5, 6], [5, 6]), ([7], [7]), ([], []), ([8, 9], [8, 9]), ([10], [10]), ([3, 4, 11], [3, 4, 11]), ([], []), ([13, 12, 12, 0, 1, 2, 3, 4, 5, 6, 7, 8, 9, 10, 11, 12, 13], [12, 13])])
def segmentation_Counts.B29 : List Nat := [0, 0, 3, 7, 0, 0, 0, 96, 224, 0, 992, 2016, 4095, 0, 16383]
theorem segmentation_Counts.tab29 : rtab .any (opsOf Try.f35 29) = segmentation_Counts.T29 := by kernel_rfl
theorem segmentation_Counts.bits29 : waitsOk segmentation_Counts.T29.2 segmentation_Counts.B29 = true := by kernel_rfl
def segmentation_Counts.T30 : Bool × List (List Nat × List Nat) := (true, [([], []), ([], []), ([0, 1], [0, 1]), ([2], [2]), ([3], [3]), ([3], [3]), ([3], [3]), ([5, 6, 3], [3, 5, 6]), ([7, 3], [3, 7]), ([4, 8, 3, 3], [3, 4, 8]), ([3, 9], [3, 9])])
def segmentation_Counts.B30 : List Nat := [0, 0, 3, 7, 15, 15, 15, 111, 239, 511, 1023]
theorem segmentation_Counts.tab30 : rtab .any (opsOf Try.f35 30) = segmentation_Counts.T30 := by kernel_rfl
theorem segmentation_Counts.bits30 : waitsOk segmentation_Counts.T30.2 segmentation_Counts.B30 = true := by kernel_rfl
def segmentation_Counts.T33 : Bool × List (List Nat × List Nat) := (true, [([], []), ([], []), ([], []), ([1, 2], [1, 2]), ([3], [3]), ([4], [4]), ([5], [5]), ([], []), ([], []), ([7, 8], [7, 8]), ([9], [9]), ([10], [10]), ([6, 11], [6, 11]), ([12], [12]), ([0, 13, 6], [0, 13]), ([14, 14, 0, 1, 2, 3, 4, 5, 6, 7, 8, 9, 10, 11, 12, 13, 14], [0, 14])])
def segmentation_Counts.B33 : List Nat := [0, 0, 0, 6, 14, 30, 62, 0, 0, 384, 896, 1920, 4094, 8190, 16383, 32767]
theorem segmentation_Counts.tab33 : rtab .any (opsOf Try.f35 33) = segmentation_Counts.T33 := by kernel_rfl
theorem segmentation_Counts.bits33 : waitsOk segmentation_Counts.T33.2 segmentation_Counts.B33 = true := by kernel_rfl
theorem cell_V {ok : Nat → Prop} {W : World} {b e : Nat} {ad : Addr} {c g : Nat} {xs : List Int} (hV : Kd.V (Kd.int .i64) e W b ok (.slice (some ad) xs.length c) xs) (hk : ∀ k, ok k → k ≠ g) (i : Int) (h0 : 0 ≤ i) (h1 : i < (xs.length : Int)) (u v : Value) (o1 o2 : Nat) :
  ((W.setCell ⟨g, o1, none⟩ u).setCell ⟨g, o2, none⟩ v).cell? (ad.add i.toNat) = some (.int .i64 (rd xs i)) := by
 have hV2 := Kd.V_far (p := ⟨g, o2, none⟩) (Kd.V_far (p := ⟨g, o1, none⟩) hV hk u) hk v
 obtain ⟨ad', e', h'⟩ := Kd.at_int (Kd.V_reads' hV2).2.2 i h0 h1
 cases e'
 exact h'
set_option maxHeartbeats 8000000 in
set_option maxRecDepth 100000 in
theorem segmentation_Counts.calls (k : Nat) (A0 : Option Addr) (c0 : Nat) (l0 : List Int) (a1 : Int) (r1 : List (S27)) (r2 : Int) (w : World) (hr0 : Kd.C (Kd.int .i64) w A0 l0.length l0) (hc0 : l0.length ≤ c0) (h : segmentation_Counts.f k l0 a1 = some (r1, r2)) :
  Calls Try.prog 35 #[.slice A0 l0.length c0, .int .i64 a1] w fun e w' => ∃ v0_ : Value, e = .returned (.tuple #[v0_, .int .i64 r2]) ∧ Kd.N k27 27 w' w.heap.size (fun k_ => (w.heap.size ≤ k_)) v0_ r1 ∧ Below w.heap.size w w' := by
 have hu74 := Try.underlying74
 have hu27 := Try.underlying27
 have HR0 := Aside0.mk hr0
 have HC0 := Aside0.mk hc0
 clear hr0 hc0
 have HB := Aside0.mk (Below.refl w.heap.size w)
 have H : ((segmentation_Check.f k l0 0).bind fun t360 => (if t360 = 0 then (if a1 < 0 then (some (([] : List (S27)), 2)) else (if 0 ≤ (wrap64 ((l0.length : Int) + 1)) then (if (wrap64 ((l0.length : Int) + 1) : Int).toNat ≤ 11728124029610 then (segmentation_Counts.l0 k l0 a1 (l0.length : Int) (List.replicate (wrap64 ((l0.length : Int) + 1) : Int).toNat []) 1) else (none)) else (none))) else (some (([] : List (S27)), t360)))) = some (r1, r2) := h
 clear h
 replace H := Option.bind_eq_some_iff.mp H
 obtain ⟨t360, A30, H⟩ := H
 replace H : (if t360 = 0 then (if a1 < 0 then (some (([] : List (S27)), 2)) else (if 0 ≤ (wrap64 ((l0.length : Int) + 1)) then (if (wrap64 ((l0.length : Int) + 1) : Int).toNat ≤ 11728124029610 then (segmentation_Counts.l0 k l0 a1 (l0.length : Int) (List.replicate (wrap64 ((l0.length : Int) + 1) : Int).toNat []) 1) else (none)) else (none))) else (some (([] : List (S27)), t360))) = some (r1, r2) := H
 have A3 := Aside0.mk A30
 clear A30
 by_cases c4 : t360 = 0
 rotate_left
 ·rw [if_neg c4] at H
  have c4b0 : (t360 == 0) = false := beq_eq_false_iff_ne.mpr c4
  have c4b1 : (t360 != 0) = true := bne_iff_ne.mpr c4
  simp only [Option.some.injEq, Prod.mk.injEq] at H
  obtain ⟨rfl, rfl⟩ := H
  go_enter Try.func35, Try.ntmps35
  go_wp2_with (first | ((with_reducible refine gate_callee (f := 36) rfl ?_); refine goesL_ (some 19) rfl rfl Try.func36 (by kernel_rfl) rfl #[.slice A0 l0.length c0, .int .i64 0] rfl qx16_8 ?_; (with_reducible refine (segmentation_Check.calls k _ _ l0 0 t360 _ ?side1 ?side2 A3.out).mono ?_); (case side1 => exact qx16_25); (case side2 => exact HC0.out); rintro e w' ⟨rfl, ⟨nd, rfl⟩⟩; refine ⟨_, rfl, ?_⟩))
  go_ret2
  exact ⟨_, by first | rfl | (simp [errW_none, errW_some] <;> rfl) | (simp [*, errW_none, errW_some] <;> rfl), qx16_35, qx16_0⟩
 rw [if_pos c4] at H
 have c4b0 : (t360 == 0) = true := beq_iff_eq.mpr c4
 have c4b1 : (t360 != 0) = false := bne_eq_false_iff_eq.mpr c4
 clear c4
 by_cases c5 : a1 < 0
 ·rw [if_pos c5] at H
  have c5b0 : decide (a1 < 0) = true := decide_eq_true c5
  clear c5
  simp only [Option.some.injEq, Prod.mk.injEq] at H
  obtain ⟨rfl, rfl⟩ := H
  go_enter Try.func35, Try.ntmps35
  go_wp2_with (first | ((with_reducible refine gate_callee (f := 36) rfl ?_); refine goesL_ (some 19) rfl rfl Try.func36 (by kernel_rfl) rfl #[.slice A0 l0.length c0, .int .i64 0] rfl qx16_8 ?_; (with_reducible refine (segmentation_Check.calls k _ _ l0 0 t360 _ ?side1 ?side2 A3.out).mono ?_); (case side1 => exact qx16_25); (case side2 => exact HC0.out); rintro e w' ⟨rfl, ⟨nd, rfl⟩⟩; refine ⟨_, rfl, ?_⟩))
  go_ret2
  exact ⟨_, by first | rfl | (simp [errW_none, errW_some] <;> rfl) | (simp [*, errW_none, errW_some] <;> rfl), qx16_35, qx16_0⟩
 rw [if_neg c5] at H
 have c5b0 : decide (a1 < 0) = false := decide_eq_false c5
 clear c5
 obtain ⟨ji6, hji6⟩ : ∃ j_ : Int, (wrap64 ((l0.length : Int) + 1)) = j_ := ⟨_, rfl⟩
 replace H : (if 0 ≤ (ji6) then (if (ji6 : Int).toNat ≤ 11728124029610 then (segmentation_Counts.l0 k l0 a1 (l0.length : Int) (List.replicate (ji6 : Int).toNat []) 1) else (none)) else (none)) = some (r1, r2) := by first | (rw [hji6] at H; exact H) | (simp only [hji6] at H ⊢; exact H)
 (try rw [hji6] at A3)
 have hji6w : (IntKind.i64.wrap ((l0.length : Int) + 1)) = ji6 := (i64_w _).trans hji6
 by_cases c7 : 0 ≤ (ji6)
 rotate_left
 ·rw [if_neg c7] at H
  exact absurd H (by simp)
 rw [if_pos c7] at H
 have c7b0 := eq_true c7
 have c7b1 : decide (0 ≤ (ji6)) = true := decide_eq_true c7
 clear c7
 by_cases c8 : (ji6 : Int).toNat ≤ 11728124029610
 rotate_left
 ·rw [if_neg c8] at H
  exact absurd H (by simp)
 rw [if_pos c8] at H
 have c8b0 := eq_true c8
 have c8b1 : decide ((ji6 : Int).toNat ≤ 11728124029610) = true := decide_eq_true c8
 clear c8
 obtain ⟨y361, hy361⟩ : ∃ y_ : List (List Int), y_ = (List.replicate (ji6 : Int).toNat []) := ⟨_, rfl⟩
 replace H : (segmentation_Counts.l0 k l0 a1 (l0.length : Int) y361 1) = some (r1, r2) := by first | (rw [hy361]; with_reducible exact H) | (have H2_ := (Option.bind_some _ _).symm.trans H; rw [hy361]; with_reducible exact H2_) | (have H2_ := (Option.bind_some _ _).symm.trans H; with_reducible exact H2_) | with_reducible exact H | (rw [hy361]; exact H) | exact H
 have Ny361 := Aside0.mk hy361
 clear hy361
 have H' := Aside0.mk H
 clear H
 go_enter Try.func35, Try.ntmps35
 go_wp2_with (first | ((with_reducible refine gate_callee (f := 36) rfl ?_); refine goesL_ (some 19) rfl rfl Try.func36 (by kernel_rfl) rfl #[.slice A0 l0.length c0, .int .i64 0] rfl qx16_8 ?_; (with_reducible refine (segmentation_Check.calls k _ _ l0 0 t360 _ ?side1 ?side2 A3.out).mono ?_); (case side1 => exact qx16_25); (case side2 => exact HC0.out); rintro e w' ⟨rfl, ⟨nd, rfl⟩⟩; refine ⟨_, rfl, ?_⟩) | ((with_reducible refine gate_dst (N := 29) rfl ?_); refine Kd.N_make (Kd.slice 3 (Kd.int .i64)) _ 24 rfl (N' := 29) rfl 57 _ _ rfl ji6 rfl rfl Try.underlying57 (.slice none 0 0) 24 info24 rfl (by decide) (by omega) [] (ok := fun k_ => w.heap.size ≤ k_) (okp := fun _ => False) (Kd.FK_slice_mk (Nat.le_refl _) (Kd.F_nil _ _ _)) (fun _ hk => hk.elim) (Nat.le_refl _) (of_decide_eq_true qx16_1) (Nat.le_trans (Nat.mul_le_mul_right _ (of_decide_eq_true qx16_1 : ji6.toNat ≤ 11728124029610)) (by omega)) (Below.refl _ _) (Nat.le_refl _) ?_; intro v362 w9 ho10 hb hg_ hnew_; clear hg_ hnew_; (first | rw [← Ny361.out] at ho10 | (simp only [Int.reduceToNat] at ho10; rw [← Ny361.out] at ho10)); have n0_ := Aside0.mk (Kd.N_lower (Kd.N_mono (ok' := fun k_ => (w.heap.size ≤ k_)) ho10 (fun k_ hk_ => (Nat.le_trans (below_size qx16_0) hk_))) (below_size qx16_0)); have n1_ := Aside0.mk (below_step qx16_0 hb); clear HB; have HO363 := n0_; have HB := n1_; clear n0_ n1_; clear hb ho10))
 go_loopg [9] k (fun kq v9 w' => ∃ (x8_1 : List (List Int)) (x9_1 : Int), v9 = .int .i64 x9_1 ∧ Aside0 (segmentation_Counts.l0 kq l0 a1 (l0.length : Int) x8_1 x9_1 = some (r1, r2)) ∧ Aside0 (kq ≤ k) ∧ Aside0 (Kd.N (Kd.slice 3 (Kd.int .i64)) 24 w' w.heap.size (fun k_ => (w.heap.size ≤ k_)) v362 x8_1) ∧ Aside0 (Below w.heap.size w w'))
 case atStart => exact ⟨(y361), (1), qx16_11, H', ⟨Nat.le_refl _⟩, ⟨by (with_reducible repeat (first | apply Kd.N_alloc | apply Kd.N_drewN | apply Kd.N_drew)); exact HO363.out⟩, ⟨qx16_0⟩⟩
 clear H'
 try clear p2
 try clear c3
 try clear c4
 try clear c4b0
 try clear c4b1
 try clear c5
 try clear c5b0
 try clear p6
 try clear c7
 try clear c7b0
 try clear c7b1
 try clear c8
 try clear c8b0
 try clear c8b1
 obtain ⟨x8_1, x9_1, rfl, HA, HK1, HO_8, HB⟩ := hrel
 cases gk with
 | zero => exact absurd HA.out (by simp [segmentation_Counts.l0])
 | succ k1 =>
  have H := HA.out
  clear HA
  simp only [segmentation_Counts.l0] at H
  by_cases c11 : x9_1 ≤ (l0.length : Int)
  ·rw [if_pos c11] at H
   have c11b0 : decide (x9_1 ≤ (l0.length : Int)) = true := decide_eq_true c11
   clear c11
   replace H := Option.bind_eq_some_iff.mp H
   obtain ⟨t364, A120, H⟩ := H
   replace H : (if 0 ≤ x9_1 then (if x9_1 < (x8_1.length : Int) then (segmentation_Counts.l0 k1 l0 a1 (l0.length : Int) (x8_1.set (x9_1 : Int).toNat t364) (wrap64 (x9_1 + 1))) else (none)) else (none)) = some (r1, r2) := H
   have A12 := Aside0.mk A120
   clear A120
   by_cases c13 : 0 ≤ x9_1
   rotate_left
   ·rw [if_neg c13] at H
    exact absurd H (by simp)
   rw [if_pos c13] at H
   have c13b0 : decide (0 ≤ x9_1) = true := decide_eq_true c13
   clear c13
   by_cases c14 : x9_1 < (x8_1.length : Int)
   rotate_left
   ·rw [if_neg c14] at H
    exact absurd H (by simp)
   rw [if_pos c14] at H
   have c14b0 : decide (x9_1 < (x8_1.length : Int)) = true := decide_eq_true c14
   clear c14
   obtain ⟨y367, hy367⟩ : ∃ y_ : List (List Int), y_ = (x8_1.set (x9_1 : Int).toNat t364) := ⟨_, rfl⟩
   replace H : (segmentation_Counts.l0 k1 l0 a1 (l0.length : Int) y367 (wrap64 (x9_1 + 1))) = some (r1, r2) := by first | (rw [hy367]; with_reducible exact H) | (have H2_ := (Option.bind_some _ _).symm.trans H; rw [hy367]; with_reducible exact H2_) | (have H2_ := (Option.bind_some _ _).symm.trans H; with_reducible exact H2_) | with_reducible exact H | (rw [hy367]; exact H) | exact H
   have Ny367 := Aside0.mk hy367
   clear hy367
   have H' := Aside0.mk H
   clear H
   go_wp2_with (first | ((with_reducible refine gate_callee (f := 40) rfl ?_); refine goesL_ (some 39) rfl rfl Try.func40 (by kernel_rfl) rfl #[.slice A0 l0.length c0, .int .i64 x9_1] rfl qx16_8 ?_; (with_reducible refine (segmentation_costs.calls k1 _ _ l0 x9_1 t364 _ ?side1 ?side2 A12.out).mono ?_); (case side1 => repeat (first | exact (Kd.C_below HR0.out HB.out) | (with_reducible refine Kd.C_alloc ?_ _) | (with_reducible refine Kd.C_drewN ?_ _) | (with_reducible refine Kd.C_drew ?_))); (case side2 => exact HC0.out); rintro e w16 ⟨v365, rfl, ho0, hb⟩; refine ⟨_, rfl, ?_⟩; have n0_ := Aside0.mk (Kd.N_elder' qx16_2 (Kd.R_base ho0) hb); have n1_ := Aside0.mk (Kd.R_lower (Kd.R_newM (M := fun k_ => (w.heap.size ≤ k_)) ho0 (below_size qx16_0) (fun k_ h_ => h_)) (below_size qx16_0)); have n2_ := Aside0.mk (below_step qx16_0 hb); clear HO_8; clear HB; have HO_8 := n0_; have HO366 := n1_; have HB := n2_; clear n0_ n1_ n2_; (try clear hb); (try clear hb2); (try clear hk); (try clear hi); (try clear ho0); have p15 : 0 ≤ (x9_1 : Int) := of_decide_eq_true qx16_1; have q15 : (x9_1 : Int) < ((x8_1.length : Int) : Int) := of_decide_eq_true qx16_1; obtain ⟨go15, co15, eo15, gb15, gl15, cl15, HG15⟩ := Kd.N_form HO_8.out (by omega); (first | cases eo15 | (injection eo15 with ea_ en_ ec_; (first | subst ea_ | (injection ea_ with ea_; subst ea_)); subst ec_; clear en_)); have GB15 := Aside0.mk gb15; have GG15 := Aside0.mk HG15; clear gb15 gl15 HG15; obtain ⟨ce15, hcl15, hM15, hcc15, hfr15⟩ := Kd.N_elem HO_8.out [] (x9_1 : Int) p15 q15; obtain ⟨ua15_0, uc15_0, rfl, ul15_0, ge15_0⟩ := Kd.FK_slice_open hM15; have hx15_0 := hcc15 0 _ rfl; have hf15_0 := hfr15 0; (try simp only [show ((Kd.slice 3 (Kd.int .i64))).sz = 1 from rfl, Nat.mul_one, Nat.add_zero] at hx15_0); (try simp only [show ((Kd.slice 3 (Kd.int .i64))).sz = 1 from rfl, Nat.mul_one, Nat.add_zero] at hf15_0); clear hcl15 hcc15 hfr15 hM15; replace p15 := eq_true p15; replace q15 := eq_true q15; have HX17 := Aside0.mk (show Kd.N (Kd.slice 3 (Kd.int .i64)) 24 w16 w.heap.size (fun k_ => (w.heap.size ≤ k_)) (.slice (some ⟨go15, 0, none⟩) x8_1.length co15) x8_1 from (by (with_reducible repeat (first | apply Kd.N_alloc | apply Kd.N_drewN | apply Kd.N_drew)); exact Kd.N_mono HO_8.out (fun _ hk => hk.1))); obtain ⟨ce17, hcl17, hM17, hcc17, hfr17⟩ := Kd.N_elem HX17.out [] (x9_1 : Int) (of_decide_eq_true qx16_1) (by have h_ : (x9_1 : Int) < ((x8_1.length : Int) : Int) := of_decide_eq_true qx16_1; first | exact h_ | (have e_ := (Kd.N_reads' HO_8.out).1; omega) | simpa using h_); obtain ⟨ua17_0, uc17_0, rfl, ul17_0, ge17_0⟩ := Kd.FK_slice_open hM17; obtain ⟨Ao365, co365, eo365⟩ := Kd.R_slice HO366.out; subst eo365; have HP17 := Kd.N_seg HX17.out (x9_1 : Int) (of_decide_eq_true qx16_1) (by have h_ : (x9_1 : Int) < ((x8_1.length : Int) : Int) := of_decide_eq_true qx16_1; first | exact h_ | (have e_ := (Kd.N_reads' HO_8.out).1; omega) | simpa using h_) (seg := [.slice Ao365 t364.length co365]) (j := 0) hcl17 hcc17 (show 1 ≤ 1 from by decide) (x' := t364) (Kd.FK_slice_mk (Kd.R_reads' (Kd.R_mono (ok' := (fun k_ => ((fun k_ => (w.heap.size ≤ k_))) k_ ∧ k_ ≠ go15)) (Kd.R_apart' (HO366.out) (Kd.N_typed HO_8.out) (by decide)) (fun k_ hk => ⟨hk.1.1, fun e_ => (hk.2) (by rw [e_]; rfl)⟩))).2.1 (Kd.R_F (Kd.R_mono (ok' := (fun k_ => ((fun k_ => (w.heap.size ≤ k_))) k_ ∧ k_ ≠ go15)) (Kd.R_apart' (HO366.out) (Kd.N_typed HO_8.out) (by decide)) (fun k_ hk => ⟨hk.1.1, fun e_ => (hk.2) (by rw [e_]; rfl)⟩)))) (fun _ hk => hk); have hx17_0 := hcc17 0 _ rfl; (try simp only [show ((Kd.slice 3 (Kd.int .i64))).sz = 1 from rfl, Nat.mul_one, Nat.add_zero] at hx17_0); have hf17_0 := hfr17 0; (try simp only [show ((Kd.slice 3 (Kd.int .i64))).sz = 1 from rfl, Nat.mul_one, Nat.add_zero] at hf17_0); clear hcl17 hcc17 hfr17 hM17; (try simp only [show ((Kd.slice 3 (Kd.int .i64))).sz = 1 from rfl, Nat.mul_one, Nat.add_zero] at HP17); (try simp only [show ((Kd.slice 3 (Kd.int .i64))).sz = 1 from rfl, Nat.mul_one, Nat.add_zero] at HP17)) | ((with_reducible refine gate_store (t := 24) (p := 40) rfl ?_); refine store_event (t := 24) (p := 40) (v := ?vo_w18) (w1 := (w16.setCell ⟨go15, (x9_1 : Int).toNat, none⟩ (.slice Ao365 t364.length co365))) ?hg ?ho ?hn ?hr ?_; (case ho => rfl); (case hg => rfl); (case hn => rfl); (case hr => first | (go_simp; done) | (go_simp; rfl)); intro w18 hw; have hg : w16.grownBy w18 (some go15) := (by rw [hw]; exact HP17.2); have hp_ : Kd.N (Kd.slice 3 (Kd.int .i64)) 24 w18 w.heap.size (fun k_ => (w.heap.size ≤ k_)) (.slice (some ⟨go15, 0, none⟩) x8_1.length co15) y367 := (by rw [hw, Ny367.out]; exact HP17.1); clear HP17; have n0_ := Aside0.mk (hp_); have n1_ := Aside0.mk ((by rw [hw]; exact below_set (HB.out) GB15.out : Below w.heap.size w w18)); clear HO_8; clear HB; clear HO366; have HO_8 := n0_; have HB := n1_; clear n0_ n1_; clear hg hw hp_))
   go_roundg k1
   case measure => have := HK1.out; omega
   case rel => exact ⟨(y367), (wrap64 (x9_1 + 1)), qx16_11, H', ⟨by have := HK1.out; omega⟩, ⟨qx16_2⟩, ⟨qx16_0⟩⟩
  rw [if_neg c11] at H
  have c11b0 : decide (x9_1 ≤ (l0.length : Int)) = false := decide_eq_false c11
  clear c11
  replace H : (if 0 ≤ (ji6) then (if (ji6 : Int).toNat ≤ 8796093022208 then (segmentation_Counts.l1 k1 a1 (l0.length : Int) x8_1 (List.replicate (ji6 : Int).toNat z74) 1) else (none)) else (none)) = some (r1, r2) := by first | (rw [hji6] at H; exact H) | (simp only [hji6] at H ⊢; exact H)
  by_cases c20 : 0 ≤ (ji6)
  rotate_left
  ·rw [if_neg c20] at H
   exact absurd H (by simp)
  rw [if_pos c20] at H
  have c20b0 := eq_true c20
  have c20b1 : decide (0 ≤ (ji6)) = true := decide_eq_true c20
  clear c20
  by_cases c21 : (ji6 : Int).toNat ≤ 8796093022208
  rotate_left
  ·rw [if_neg c21] at H
   exact absurd H (by simp)
  rw [if_pos c21] at H
  have c21b0 := eq_true c21
  have c21b1 : decide ((ji6 : Int).toNat ≤ 8796093022208) = true := decide_eq_true c21
  clear c21
  obtain ⟨y368, hy368⟩ : ∃ y_ : List (S74), y_ = (List.replicate (ji6 : Int).toNat z74) := ⟨_, rfl⟩
  replace H : (segmentation_Counts.l1 k1 a1 (l0.length : Int) x8_1 y368 1) = some (r1, r2) := by first | (rw [hy368]; with_reducible exact H) | (have H2_ := (Option.bind_some _ _).symm.trans H; rw [hy368]; with_reducible exact H2_) | (have H2_ := (Option.bind_some _ _).symm.trans H; with_reducible exact H2_) | with_reducible exact H | (rw [hy368]; exact H) | exact H
  have Ny368 := Aside0.mk hy368
  clear hy368
  have H' := Aside0.mk H
  clear H
  go_wp2_with (first | ((with_reducible refine gate_dst (N := 43) rfl ?_); refine Kd.N_make k74 _ 74 rfl (N' := 43) rfl 69 _ _ rfl ji6 rfl rfl Try.underlying69 (.agg #[(.int .i64 0), (.slice none 0 0)]) 32 info74 rfl (by decide) (by omega) z74 (ok := fun k_ => wr.heap.size ≤ k_) (okp := fun _ => False) (k74_mkF _ _ z74 (Nat.le_refl _) (Kd.F_nil _ _ _)) (fun _ hk => hk.elim) (Nat.le_refl _) (of_decide_eq_true qx16_1) (Nat.le_trans (Nat.mul_le_mul_right _ (of_decide_eq_true qx16_1 : ji6.toNat ≤ 8796093022208)) (by omega)) (Below.refl _ _) (Nat.le_refl _) ?_; intro v369 w22 ho23 hb hg_ hnew_; clear hg_ hnew_; (first | rw [← Ny368.out] at ho23 | (simp only [Int.reduceToNat] at ho23; rw [← Ny368.out] at ho23)); have n0_ := Aside0.mk (Kd.N_elder' qx16_2 (Kd.N_base ho23) hb); have n1_ := Aside0.mk (Kd.N_lower (Kd.N_mono (ok' := fun k_ => (w.heap.size ≤ k_) ∧ some k_ ≠ (v362 : Value).ownBlock) ho23 (fun k_ hk_ => ⟨(Nat.le_trans (below_size qx16_0) hk_), (Kd.fresh' (Kd.N_lt qx16_2) k_ hk_)⟩)) (below_size qx16_0)); have n2_ := Aside0.mk (below_step qx16_0 hb); clear HO_8; clear HB; have HO_8 := n0_; have HO370 := n1_; have HB := n2_; clear n0_ n1_ n2_; clear hb ho23))
  go_loopg [11] k1 (fun kq v11 w' => ∃ (x10_2 : List (S74)) (x11_2 : Int), v11 = .int .i64 x11_2 ∧ Aside0 (segmentation_Counts.l1 kq a1 (l0.length : Int) x8_1 x10_2 x11_2 = some (r1, r2)) ∧ Aside0 (kq ≤ k1) ∧ Aside0 (Kd.N (Kd.slice 3 (Kd.int .i64)) 24 w' w.heap.size (fun k_ => (w.heap.size ≤ k_) ∧ some k_ ≠ (v369 : Value).ownBlock) v362 x8_1) ∧ Aside0 (Kd.N k74 74 w' w.heap.size (fun k_ => (w.heap.size ≤ k_) ∧ some k_ ≠ (v362 : Value).ownBlock) v369 x10_2) ∧ Aside0 (Below w.heap.size w w'))
  case atStart => exact ⟨(y368), (1), qx16_11, H', ⟨Nat.le_refl _⟩, ⟨qx16_2⟩, ⟨by (with_reducible repeat (first | apply Kd.N_alloc | apply Kd.N_drewN | apply Kd.N_drew)); exact HO370.out⟩, ⟨qx16_0⟩⟩
  clear H'
  try clear c1
  try clear p1
  try clear q1
  try clear hx1
  try clear c2
  try clear p2
  try clear c3
  try clear c4
  try clear c4b0
  try clear c4b1
  try clear c5
  try clear c5b0
  try clear p6
  try clear c7
  try clear c7b0
  try clear c7b1
  try clear c8
  try clear c8b0
  try clear c8b1
  try clear c11
  try clear c11b0
  try clear c13
  try clear c13b0
  try clear c14
  try clear c14b0
  try clear c15
  try clear p15
  try clear q15
  try clear hx15
  try clear hf15
  try clear c17
  try clear hx17
  try clear hf17
  try clear c20
  try clear c20b0
  try clear c20b1
  try clear c21
  try clear c21b0
  try clear c21b1
  try clear hx15_0
  try clear hx17_0
  try clear p15
  try clear p2
  try clear p6
  try clear q15
  obtain ⟨x10_2, x11_2, rfl, HA, HK2, HO_8, HO_10, HB⟩ := hrel
  cases gk with
  | zero => exact absurd HA.out (by simp [segmentation_Counts.l1])
  | succ k2 =>
   have H := HA.out
   clear HA
   simp only [segmentation_Counts.l1] at H
   by_cases c24 : x11_2 ≤ (l0.length : Int)
   ·rw [if_pos c24] at H
    have c24b0 : decide (x11_2 ≤ (l0.length : Int)) = true := decide_eq_true c24
    clear c24
    by_cases c25 : 0 ≤ x11_2
    rotate_left
    ·rw [if_neg c25] at H
     exact absurd H (by simp)
    rw [if_pos c25] at H
    have c25b0 : decide (0 ≤ x11_2) = true := decide_eq_true c25
    clear c25
    by_cases c26 : x11_2 < (x8_1.length : Int)
    rotate_left
    ·rw [if_neg c26] at H
     exact absurd H (by simp)
    rw [if_pos c26] at H
    have c26b0 : decide (x11_2 < (x8_1.length : Int)) = true := decide_eq_true c26
    clear c26
    by_cases c27 : 0 < ((rd_L1 x8_1 x11_2).length : Int)
    rotate_left
    ·rw [if_neg c27] at H
     exact absurd H (by simp)
    rw [if_pos c27] at H
    have c27b0 : decide (0 < ((rd_L1 x8_1 x11_2).length : Int)) = true := decide_eq_true c27
    have c27b1 : decide (0 < (rd_L1 x8_1 x11_2).length) = true := decide_eq_true (by omega)
    clear c27
    by_cases c28 : x11_2 < (x10_2.length : Int)
    rotate_left
    ·rw [if_neg c28] at H
     exact absurd H (by simp)
    rw [if_pos c28] at H
    have c28b0 : decide (x11_2 < (x10_2.length : Int)) = true := decide_eq_true c28
    clear c28
    obtain ⟨y373, hy373⟩ : ∃ y_ : List (S74), y_ = (x10_2.set (x11_2 : Int).toNat (⟨rd (rd_L1 x8_1 x11_2) 0, ([] : List Int)⟩ : S74)) := ⟨_, rfl⟩
    replace H : (segmentation_Counts.l1 k2 a1 (l0.length : Int) x8_1 y373 (wrap64 (x11_2 + 1))) = some (r1, r2) := by first | (rw [hy373]; with_reducible exact H) | (have H2_ := (Option.bind_some _ _).symm.trans H; rw [hy373]; with_reducible exact H2_) | (have H2_ := (Option.bind_some _ _).symm.trans H; with_reducible exact H2_) | with_reducible exact H | (rw [hy373]; exact H) | exact H
    have Ny373 := Aside0.mk hy373
    clear hy373
    have H' := Aside0.mk H
    clear H
    obtain ⟨Ao30, co30, eo30⟩ := Kd.N_slice HO_8.out
    subst eo30
    have p371 : 0 ≤ (x11_2 : Int) := of_decide_eq_true qx16_1
    have q371 : x11_2 < (x8_1.length : Int) := of_decide_eq_true qx16_1
    obtain ⟨ad371, A371_0, c371_0, e371, hx371_0, hl371_0, hi371_0⟩ := at_L1 (Kd.N_reads' HO_8.out).2.2 x11_2 p371 q371
    cases e371
    obtain ⟨ce371, hce371, hMe371, hcc371⟩ := Kd.N_get HO_8.out [] x11_2 p371 (by first | exact q371 | exact of_decide_eq_true qx16_1 | (have e_ := (Kd.N_reads' HO_8.out).1; omega))
    obtain ⟨ua371_0, uc371_0, rfl, ul371_0, ge371_0⟩ := Kd.FK_slice_open hMe371
    have hv371_0 := hcc371 0 _ rfl
    rw [Nat.add_zero, show ((Kd.slice 3 (Kd.int .i64))).sz = 1 from rfl, Nat.mul_one] at hv371_0
    replace hv371_0 := Option.some.inj (hv371_0.symm.trans hx371_0)
    injection hv371_0 with hva_ hvn_ hvc_
    rw [hva_] at ge371_0
    rw [hvc_] at ul371_0
    have HL371_0 := Aside0.mk (show Kd.V (Kd.int .i64) 3 _ w.heap.size _ _ (rd_L1 x8_1 x11_2) from Kd.V_mk ul371_0 ge371_0)
    clear hva_ hvn_ hvc_ ge371_0 ul371_0
    clear hcc371 hce371
    have HR371_0 := Aside0.mk hi371_0
    have HC371_0 := Aside0.mk hl371_0
    clear hi371_0 hl371_0
    replace p371 := eq_true p371
    replace q371 := eq_true q371
    have p372 : 0 ≤ (0 : Int) := (by omega)
    have q372 : 0 < ((rd_L1 x8_1 x11_2).length : Int) := of_decide_eq_true qx16_1
    obtain ⟨ad372, e372, hx372_0⟩ := Kd.at_int (by repeat (first | (with_reducible exact HR371_0.out) | (with_reducible refine Kd.C_alloc ?_ _) | (with_reducible refine Kd.C_drewN ?_ _) | (with_reducible refine Kd.C_drew ?_) | exact HR371_0.out)) 0 p372 q372
    cases e372
    have qi372 : (0 < (rd_L1 x8_1 x11_2).length) = True := eq_true (by omega)
    (try rw [show ((0 : Int)).toNat = 0 from rfl] at hx372_0)
    (try rw [Addr.add_zero'] at hx372_0)
    replace p372 := eq_true p372
    replace q372 := eq_true q372
    have p29 : 0 ≤ (x11_2 : Int) := of_decide_eq_true qx16_1
    have q29 : (x11_2 : Int) < ((x10_2.length : Int) : Int) := of_decide_eq_true qx16_1
    obtain ⟨go29, co29, eo29, gb29, gl29, cl29, HG29⟩ := Kd.N_form HO_10.out (by omega)
    (first | cases eo29 | (injection eo29 with ea_ en_ ec_; (first | subst ea_ | (injection ea_ with ea_; subst ea_)); subst ec_; clear en_))
    have GB29 := Aside0.mk gb29
    have GG29 := Aside0.mk HG29
    clear gb29 gl29 HG29
    obtain ⟨ce29, hcl29, hM29, hcc29, hfr29⟩ := Kd.N_elem HO_10.out z74 (x11_2 : Int) p29 q29
    obtain ⟨ua29_1, uc29_1, rfl, ul29_1, ge29_1⟩ := k74_openF hM29
    have hx29_0 : wr.cell? ⟨go29, (x11_2 : Int).toNat * 2, none⟩ = some (.int .i64 ((rd_T74 x10_2 x11_2).f0)) := hcc29 0 _ rfl
    have hx29_1 : wr.cell? ⟨go29, (x11_2 : Int).toNat * 2 + 1, none⟩ = some (.slice ua29_1 ((rd_T74 x10_2 x11_2).f1).length uc29_1) := hcc29 1 _ rfl
    have hf29_0 : wr.frozen? ⟨go29, (x11_2 : Int).toNat * 2, none⟩ = false := hfr29 0
    have hf29_1 : wr.frozen? ⟨go29, (x11_2 : Int).toNat * 2 + 1, none⟩ = false := hfr29 1
    clear hcl29 hcc29 hfr29 hM29
    replace p29 := eq_true p29
    replace q29 := eq_true q29
    have HX31 := Aside0.mk (show Kd.N k74 74 wr w.heap.size (fun k_ => (w.heap.size ≤ k_) ∧ some k_ ≠ (.slice (some ad371) x8_1.length co30 : Value).ownBlock) (.slice (some ⟨go29, 0, none⟩) x10_2.length co29) x10_2 from qx16_3)
    obtain ⟨ce31, hcl31, hM31, hcc31, hfr31⟩ := Kd.N_elem HX31.out z74 (x11_2 : Int) (of_decide_eq_true qx16_1) (by have h_ : (x11_2 : Int) < ((x10_2.length : Int) : Int) := of_decide_eq_true qx16_1; first | exact h_ | (have e_ := (Kd.N_reads' HO_10.out).1; omega) | simpa using h_)
    obtain ⟨ua31_1, uc31_1, rfl, ul31_1, ge31_1⟩ := k74_openF hM31
    have HP31 := Kd.N_seg HX31.out (x11_2 : Int) (of_decide_eq_true qx16_1) (by have h_ : (x11_2 : Int) < ((x10_2.length : Int) : Int) := of_decide_eq_true qx16_1; first | exact h_ | (have e_ := (Kd.N_reads' HO_10.out).1; omega) | simpa using h_) (seg := [.int .i64 (rd (rd_L1 x8_1 x11_2) 0), .slice none 0 0]) (j := 0) hcl31 hcc31 (show 2 ≤ 2 from by decide) (x' := (⟨rd (rd_L1 x8_1 x11_2) 0, ([] : List Int)⟩ : S74)) (k74_mkF _ _ (⟨rd (rd_L1 x8_1 x11_2) 0, ([] : List Int)⟩ : S74) (Nat.le_refl _) (Kd.F_nil _ _ _)) (fun _ hk => hk)
    have hx31_0 := hcc31 0 _ rfl
    (try simp only [show (k74).sz = 2 from rfl, Nat.mul_one, Nat.add_zero] at hx31_0)
    have hf31_0 := hfr31 0
    (try simp only [show (k74).sz = 2 from rfl, Nat.mul_one, Nat.add_zero] at hf31_0)
    have hx31_1 := hcc31 1 _ rfl
    (try simp only [show (k74).sz = 2 from rfl, Nat.mul_one, Nat.add_zero] at hx31_1)
    have hf31_1 := hfr31 1
    (try simp only [show (k74).sz = 2 from rfl, Nat.mul_one, Nat.add_zero] at hf31_1)
    clear hcl31 hcc31 hfr31 hM31
    go_wp2_with (first | ((with_reducible refine gate_store (t := 74) (p := 58) rfl ?_); refine store_event (t := 74) (p := 58) (v := ?vo_w32) (w1 := ((wr.setCell ⟨go29, (x11_2 : Int).toNat * 2, none⟩ (.int .i64 (rd (rd_L1 x8_1 x11_2) 0))).setCell ⟨go29, (x11_2 : Int).toNat * 2 + 1, none⟩ (.slice none 0 0))) ?hg ?ho ?hn ?hr ?_; (case ho => rfl); (case hg => rfl); (case hn => rfl); (case hr => first | (go_simp; done) | (go_simp; rfl)); intro w32 hw; have hg : wr.grownBy w32 (some go29) := (by rw [hw]; exact HP31.2); have hp_ : Kd.N k74 74 w32 w.heap.size (fun k_ => (w.heap.size ≤ k_) ∧ some k_ ≠ (.slice (some ad371) x8_1.length co30 : Value).ownBlock) (.slice (some ⟨go29, 0, none⟩) x10_2.length co29) y373 := (by rw [hw, Ny373.out]; exact HP31.1); clear HP31; have n0_ := Aside0.mk (Kd.N_afterv (v := (.slice (some ⟨go29, 0, none⟩) x10_2.length co29)) (v1 := (.slice (some ⟨go29, 0, none⟩) x10_2.length co29)) (ok := (fun k_ => (w.heap.size ≤ k_))) qx16_2 hg (.inl rfl)); have n1_ := Aside0.mk (hp_); have n2_ := Aside0.mk (Kd.V_afterv (v := (.slice (some ⟨go29, 0, none⟩) x10_2.length co29)) (v1 := (.slice (some ⟨go29, 0, none⟩) x10_2.length co29)) (ok := (fun k_ => (w.heap.size ≤ k_) ∧ some k_ ≠ (.slice (some ad371) x8_1.length co30 : Value).ownBlock)) (by (with_reducible repeat (first | apply Kd.V_alloc | apply Kd.V_drewN | apply Kd.V_drew)); exact Kd.V_mono HL371_0.out (fun _ hk => ⟨⟨hk.1.1, hk.2⟩, hk.1.2⟩)) hg (.inl rfl)); have n3_ := Aside0.mk ((by rw [hw]; exact below_set (below_set (HB.out) GB29.out) GB29.out : Below w.heap.size w w32)); clear HO_8; clear HO_10; clear HL371_0; clear HB; have HO_8 := n0_; have HO_10 := n1_; have HL371_0 := n2_; have HB := n3_; clear n0_ n1_ n2_ n3_; clear hg hw hp_))
    go_roundg k2
    case measure => have := HK1.out; have := HK2.out; omega
    case rel => exact ⟨(y373), (wrap64 (x11_2 + 1)), qx16_11, H', ⟨by have := HK1.out; have := HK2.out; omega⟩, ⟨qx16_2⟩, ⟨qx16_3⟩, ⟨qx16_0⟩⟩
   rw [if_neg c24] at H
   have c24b0 : decide (x11_2 ≤ (l0.length : Int)) = false := decide_eq_false c24
   clear c24
   by_cases c33 : 0 ≤ (l0.length : Int)
   rotate_left
   ·rw [if_neg c33] at H
    exact absurd H (by simp)
   rw [if_pos c33] at H
   have c33b0 : decide (0 ≤ (l0.length : Int)) = true := decide_eq_true c33
   have c33b1 : decide (0 ≤ l0.length) = true := decide_eq_true (by omega)
   clear c33
   by_cases c34 : (l0.length : Int) < (x10_2.length : Int)
   rotate_left
   ·rw [if_neg c34] at H
    exact absurd H (by simp)
   rw [if_pos c34] at H
   have c34b0 : decide ((l0.length : Int) < (x10_2.length : Int)) = true := decide_eq_true c34
   have c34b1 : decide (l0.length < x10_2.length) = true := decide_eq_true (Int.ofNat_lt.mp c34)
   clear c34
   obtain ⟨y375, hy375⟩ : ∃ y_ : List (S27), y_ = (([(⟨([] : List Int), (rd_T74 x10_2 (l0.length : Int)).f0⟩ : S27)] : List (S27))) := ⟨_, rfl⟩
   replace H : (segmentation_Counts.l2 k2 a1 (l0.length : Int) x8_1 x10_2 y375 1) = some (r1, r2) := by first | (rw [hy375]; with_reducible exact H) | (have H2_ := (Option.bind_some _ _).symm.trans H; rw [hy375]; with_reducible exact H2_) | (have H2_ := (Option.bind_some _ _).symm.trans H; with_reducible exact H2_) | with_reducible exact H | (rw [hy375]; exact H) | exact H
   have Ny375 := Aside0.mk hy375
   clear hy375
   have H' := Aside0.mk H
   clear H
   obtain ⟨Ao35, co35, eo35⟩ := Kd.N_slice HO_10.out
   subst eo35
   have p374 : 0 ≤ ((l0.length : Int) : Int) := of_decide_eq_true qx16_1
   have q374 : (l0.length : Int) < (x10_2.length : Int) := of_decide_eq_true qx16_1
   obtain ⟨ad374, A374_1, c374_1, e374, hx374_0, hx374_1, hl374_1, hi374_1⟩ := at_T74 (Kd.N_reads' HO_10.out).2.2 (l0.length : Int) p374 q374
   cases e374
   obtain ⟨ce374, hce374, hMe374, hcc374⟩ := Kd.N_get HO_10.out z74 (l0.length : Int) p374 (by first | exact q374 | exact of_decide_eq_true qx16_1 | (have e_ := (Kd.N_reads' HO_10.out).1; omega))
   obtain ⟨ua374_1, uc374_1, rfl, ul374_1, ge374_1⟩ := k74_openF hMe374
   have hv374_1 := hcc374 1 _ rfl
   rw [add_field _ _ 1 (by omega)] at hv374_1
   replace hv374_1 := Option.some.inj (hv374_1.symm.trans hx374_1)
   injection hv374_1 with hva_ hvn_ hvc_
   rw [hva_] at ge374_1
   rw [hvc_] at ul374_1
   have HL374_1 := Aside0.mk (show Kd.V (Kd.int .i64) 3 _ w.heap.size _ _ ((rd_T74 x10_2 (l0.length : Int)).f1) from Kd.V_mk ul374_1 ge374_1)
   clear hva_ hvn_ hvc_ ge374_1 ul374_1
   clear hcc374 hce374
   have HR374_1 := Aside0.mk hi374_1
   have HC374_1 := Aside0.mk hl374_1
   clear hi374_1 hl374_1
   (try simp only [Go.IntWalk.toNatUp] at hx374_0)
   (try simp only [Go.IntWalk.toNatUp] at hx374_1)
   replace p374 := eq_true p374
   replace q374 := eq_true q374
   go_wp2_with (first | ((with_reducible refine gate_dst (N := 65) rfl ?_); refine Kd.N_lit k27 _ 27 ?hg (N' := 65) ?hd (xs := ([(⟨([] : List Int), (rd_T74 x10_2 (l0.length : Int)).f0⟩ : S27)] : List (S27))) (inner := [.slice none 0 0, .int .i64 ((rd_T74 x10_2 (l0.length : Int)).f0)]) (ok := (fun k_ => (w.heap.size ≤ k_) ∧ some k_ ≠ (v362 : Value).ownBlock ∧ some k_ ≠ (.slice (some ad374) x10_2.length co35 : Value).ownBlock)) (okp := (fun k_ => (w.heap.size ≤ k_) ∧ some k_ ≠ (v362 : Value).ownBlock ∧ some k_ ≠ (.slice (some ad374) x10_2.length co35 : Value).ownBlock)) ?hr ?hp (fun _ hk => hk) ((show ∀ k_, wr.heap.size ≤ k_ → (fun k_ => (w.heap.size ≤ k_) ∧ some k_ ≠ (v362 : Value).ownBlock ∧ some k_ ≠ (.slice (some ad374) x10_2.length co35 : Value).ownBlock) k_ from fun k_ hk => ⟨(Nat.le_trans (below_size qx16_0) hk), Kd.fresh' (Kd.N_lt qx16_2) k_ hk, Kd.fresh' (Kd.N_lt qx16_3) k_ hk⟩) _ (Nat.le_refl _)) (Below.refl _ _) (Nat.le_refl _) (by simp) ?_; (case hd => rfl); (case hg => rfl); (case hr => first | (go_simp; done) | (go_simp; rfl)); (case hp => exact (Reps.c2 (show Kd.FK k27 _ _ (⟨([] : List Int), (rd_T74 x10_2 (l0.length : Int)).f0⟩ : S27) [.slice none 0 0, .int .i64 ((rd_T74 x10_2 (l0.length : Int)).f0)] from (k27_mkF _ _ (⟨([] : List Int), (rd_T74 x10_2 (l0.length : Int)).f0⟩ : S27) (Nat.le_refl _) (Kd.F_nil _ _ _))) (Reps.none _ _))); intro v376 w36 ho37 hb hg_ hnew_; clear hg_ hnew_; (first | rw [← Ny375.out] at ho37 | (simp only [Int.reduceToNat] at ho37; rw [← Ny375.out] at ho37)); have n0_ := Aside0.mk (Kd.N_elder' qx16_2 (Kd.N_base ho37) hb); have n1_ := Aside0.mk (Kd.N_elder' qx16_3 (Kd.N_base ho37) hb); have n2_ := Aside0.mk (Kd.V_elder' (by (with_reducible repeat (first | apply Kd.V_alloc | apply Kd.V_drewN | apply Kd.V_drew)); exact HL374_1.out) (Kd.N_base ho37) hb); have n3_ := Aside0.mk (Kd.N_lower ho37 (below_size qx16_0)); have n4_ := Aside0.mk (Kd.C_below (by repeat (first | (with_reducible exact HR374_1.out) | (with_reducible refine Kd.C_alloc ?_ _) | (with_reducible refine Kd.C_drewN ?_ _) | (with_reducible refine Kd.C_drew ?_) | exact HR374_1.out)) hb); have n5_ := Aside0.mk (below_step qx16_0 hb); clear HO_8; clear HO_10; clear HL374_1; clear HR374_1; clear HB; have HO_8 := n0_; have HO_10 := n1_; have HL374_1 := n2_; have HO377 := n3_; have HR374_1 := n4_; have HB := n5_; clear n0_ n1_ n2_ n3_ n4_ n5_; clear hb ho37))
   go_loopg [10, 12, 13] k2 (fun kq v10 v12 v13 w' => ∃ (x10_3 : List (S74)) (x12_3 : List (S27)) (x13_3 : Int), v13 = .int .i64 x13_3 ∧ Aside0 (segmentation_Counts.l2 kq a1 (l0.length : Int) x8_1 x10_3 x12_3 x13_3 = some (r1, r2)) ∧ Aside0 (kq ≤ k2) ∧ Aside0 (Kd.N (Kd.slice 3 (Kd.int .i64)) 24 w' w.heap.size (fun k_ => (w.heap.size ≤ k_) ∧ some k_ ≠ (v10 : Value).ownBlock ∧ some k_ ≠ (v12 : Value).ownBlock) v362 x8_1) ∧ Aside0 (Kd.N k74 74 w' w.heap.size (fun k_ => (w.heap.size ≤ k_) ∧ some k_ ≠ (v362 : Value).ownBlock ∧ some k_ ≠ (v12 : Value).ownBlock) v10 x10_3) ∧ Aside0 (Kd.N k27 27 w' w.heap.size (fun k_ => (w.heap.size ≤ k_) ∧ some k_ ≠ (v362 : Value).ownBlock ∧ some k_ ≠ (v10 : Value).ownBlock) v12 x12_3) ∧ Aside0 (Below w.heap.size w w'))
   case atStart => exact ⟨(x10_2), (y375), (1), qx16_11, H', ⟨Nat.le_refl _⟩, ⟨by (with_reducible repeat (first | apply Kd.N_alloc | apply Kd.N_drewN | apply Kd.N_drew)); exact Kd.N_mono HO_8.out (fun _ hk => ⟨hk.1.1, ⟨hk.1.2, hk.2⟩⟩)⟩, ⟨by (with_reducible repeat (first | apply Kd.N_alloc | apply Kd.N_drewN | apply Kd.N_drew)); exact Kd.N_mono HO_10.out (fun _ hk => ⟨hk.1.1, ⟨hk.1.2, hk.2⟩⟩)⟩, ⟨by (with_reducible repeat (first | apply Kd.N_alloc | apply Kd.N_drewN | apply Kd.N_drew)); exact HO377.out⟩, ⟨qx16_0⟩⟩
   clear H'
   try clear c1
   try clear p1
   try clear q1
   try clear hx1
   try clear c2
   try clear p2
   try clear q2
   try clear hx2
   try clear hf2
   try clear c3
   try clear p3
   try clear q3
   try clear hx3
   try clear qi3
   try clear hf3
   try clear c4
   try clear c4b0
   try clear c4b1
   try clear c5
   try clear c5b0
   try clear p6
   try clear c7
   try clear c7b0
   try clear c7b1
   try clear c8
   try clear c8b0
   try clear c8b1
   try clear c11
   try clear c11b0
   try clear c13
   try clear c13b0
   try clear c14
   try clear c14b0
   try clear c15
   try clear p15
   try clear q15
   try clear hx15
   try clear hf15
   try clear c17
   try clear hx17
   try clear hf17
   try clear c20
   try clear c20b0
   try clear c20b1
   try clear c21
   try clear c21b0
   try clear c21b1
   try clear c24
   try clear c24b0
   try clear c25
   try clear c25b0
   try clear c26
   try clear c26b0
   try clear c27
   try clear c27b0
   try clear c27b1
   try clear c28
   try clear c28b0
   try clear c29
   try clear p29
   try clear q29
   try clear hx29
   try clear hf29
   try clear c31
   try clear hx31
   try clear hf31
   try clear c33
   try clear c33b0
   try clear c33b1
   try clear c34
   try clear c34b0
   try clear c34b1
   try clear c35
   try clear c36
   try clear c37
   try clear p37
   try clear q37
   try clear hx37
   try clear qi37
   try clear hx15_0
   try clear hx17_0
   try clear hx29_0
   try clear hx29_1
   try clear hx31_0
   try clear hx31_1
   try clear hx371_0
   try clear hx372_0
   try clear hx374_0
   try clear hx374_1
   try clear p1
   try clear p15
   try clear p2
   try clear p29
   try clear p371
   try clear p372
   try clear p374
   try clear p6
   try clear q1
   try clear q15
   try clear q29
   try clear q371
   try clear q372
   try clear q374
   obtain ⟨x10_3, x12_3, x13_3, rfl, HA, HK3, HO_8, HO_10, HO_12, HB⟩ := hrel
   cases gk with
   | zero => exact absurd HA.out (by simp [segmentation_Counts.l2])
   | succ k3 =>
    have H := HA.out
    clear HA
    simp only [segmentation_Counts.l2] at H
    obtain ⟨ji38, hji38⟩ : ∃ j_ : Int, (mn a1 (wrap64 ((l0.length : Int) - 1))) = j_ := ⟨_, rfl⟩
    replace H : (if x13_3 ≤ (ji38) then (if 0 ≤ (wrap64 ((l0.length : Int) + 1)) then (if (wrap64 ((l0.length : Int) + 1) : Int).toNat ≤ 8796093022208 then (segmentation_Counts.l3 k3 a1 (l0.length : Int) x8_1 x10_3 x12_3 x13_3 (List.replicate (wrap64 ((l0.length : Int) + 1) : Int).toNat z74) (wrap64 (x13_3 + 1))) else (none)) else (none)) else (some (x12_3, 0))) = some (r1, r2) := by first | (rw [hji38] at H; exact H) | (simp only [hji38] at H ⊢; exact H)
    have hji38_ : (if (wrap64 ((l0.length : Int) - 1)) < a1 then (wrap64 ((l0.length : Int) - 1)) else a1) = ji38 := hji38
    by_cases c39 : x13_3 ≤ (ji38)
    rotate_left
    ·rw [if_neg c39] at H
     have c39b0 : decide (x13_3 ≤ (ji38)) = false := decide_eq_false c39
     clear c39
     simp only [Option.some.injEq, Prod.mk.injEq] at H
     obtain ⟨rfl, rfl⟩ := H
     go_wp2
     go_ret2
     exact ⟨_, by first | rfl | (simp [errW_none, errW_some] <;> rfl) | (simp only [← hji6, ← hji6, ← hji38]; first | rfl | (simp [errW_none, errW_some] <;> rfl)) | (simp [*, errW_none, errW_some] <;> rfl), by (with_reducible repeat (first | apply Kd.N_alloc | apply Kd.N_drewN | apply Kd.N_drew)); exact Kd.N_mono HO_12.out (fun _ hk => hk.1), qx16_0⟩
    rw [if_pos c39] at H
    have c39b0 : decide (x13_3 ≤ (ji38)) = true := decide_eq_true c39
    clear c39
    replace H : (if 0 ≤ (ji6) then (if (ji6 : Int).toNat ≤ 8796093022208 then (segmentation_Counts.l3 k3 a1 (l0.length : Int) x8_1 x10_3 x12_3 x13_3 (List.replicate (ji6 : Int).toNat z74) (wrap64 (x13_3 + 1))) else (none)) else (none)) = some (r1, r2) := by first | (rw [hji6] at H; exact H) | (simp only [hji6] at H ⊢; exact H)
    by_cases c41 : 0 ≤ (ji6)
    rotate_left
    ·rw [if_neg c41] at H
     exact absurd H (by simp)
    rw [if_pos c41] at H
    have c41b0 := eq_true c41
    have c41b1 : decide (0 ≤ (ji6)) = true := decide_eq_true c41
    clear c41
    by_cases c42 : (ji6 : Int).toNat ≤ 8796093022208
    rotate_left
    ·rw [if_neg c42] at H
     exact absurd H (by simp)
    rw [if_pos c42] at H
    have c42b0 := eq_true c42
    have c42b1 : decide ((ji6 : Int).toNat ≤ 8796093022208) = true := decide_eq_true c42
    clear c42
    obtain ⟨y378, hy378⟩ : ∃ y_ : List (S74), y_ = (List.replicate (ji6 : Int).toNat z74) := ⟨_, rfl⟩
    replace H : (segmentation_Counts.l3 k3 a1 (l0.length : Int) x8_1 x10_3 x12_3 x13_3 y378 (wrap64 (x13_3 + 1))) = some (r1, r2) := by first | (rw [hy378]; with_reducible exact H) | (have H2_ := (Option.bind_some _ _).symm.trans H; rw [hy378]; with_reducible exact H2_) | (have H2_ := (Option.bind_some _ _).symm.trans H; with_reducible exact H2_) | with_reducible exact H | (rw [hy378]; exact H) | exact H
    have Ny378 := Aside0.mk hy378
    clear hy378
    have H' := Aside0.mk H
    clear H
    go_wp2_with (first | ((with_reducible refine gate_dst (N := 76) rfl ?_); refine Kd.N_make k74 _ 74 rfl (N' := 76) rfl 69 _ _ rfl ji6 rfl rfl Try.underlying69 (.agg #[(.int .i64 0), (.slice none 0 0)]) 32 info74 rfl (by decide) (by omega) z74 (ok := fun k_ => wr.heap.size ≤ k_) (okp := fun _ => False) (k74_mkF _ _ z74 (Nat.le_refl _) (Kd.F_nil _ _ _)) (fun _ hk => hk.elim) (Nat.le_refl _) (of_decide_eq_true qx16_1) (Nat.le_trans (Nat.mul_le_mul_right _ (of_decide_eq_true qx16_1 : ji6.toNat ≤ 8796093022208)) (by omega)) (Below.refl _ _) (Nat.le_refl _) ?_; intro v379 w43 ho44 hb hg_ hnew_; clear hg_ hnew_; (first | rw [← Ny378.out] at ho44 | (simp only [Int.reduceToNat] at ho44; rw [← Ny378.out] at ho44)); have n0_ := Aside0.mk (Kd.N_elder' qx16_2 (Kd.N_base ho44) hb); have n1_ := Aside0.mk (Kd.N_elder' qx16_3 (Kd.N_base ho44) hb); have n2_ := Aside0.mk (Kd.N_elder' qx16_5 (Kd.N_base ho44) hb); have n3_ := Aside0.mk (Kd.N_lower (Kd.N_mono (ok' := fun k_ => (w.heap.size ≤ k_) ∧ some k_ ≠ (v362 : Value).ownBlock ∧ some k_ ≠ (u10 : Value).ownBlock ∧ some k_ ≠ (u12 : Value).ownBlock) ho44 (fun k_ hk_ => ⟨(Nat.le_trans (below_size qx16_0) hk_), (Kd.fresh' (Kd.N_lt qx16_2) k_ hk_), (Kd.fresh' (Kd.N_lt qx16_3) k_ hk_), (Kd.fresh' (Kd.N_lt qx16_5) k_ hk_)⟩)) (below_size qx16_0)); have n4_ := Aside0.mk (below_step qx16_0 hb); clear HO_8; clear HO_10; clear HO_12; clear HB; have HO_8 := n0_; have HO_10 := n1_; have HO_12 := n2_; have HO380 := n3_; have HB := n4_; clear n0_ n1_ n2_ n3_ n4_; clear hb ho44))
    go_loopg [15] k3 (fun kq v15 w' => ∃ (x14_4 : List (S74)) (x15_4 : Int), v15 = .int .i64 x15_4 ∧ Aside0 (segmentation_Counts.l3 kq a1 (l0.length : Int) x8_1 x10_3 x12_3 x13_3 x14_4 x15_4 = some (r1, r2)) ∧ Aside0 (kq ≤ k3) ∧ Aside0 (Kd.N (Kd.slice 3 (Kd.int .i64)) 24 w' w.heap.size (fun k_ => (w.heap.size ≤ k_) ∧ some k_ ≠ (u10 : Value).ownBlock ∧ some k_ ≠ (u12 : Value).ownBlock ∧ some k_ ≠ (v379 : Value).ownBlock) v362 x8_1) ∧ Aside0 (Kd.N k74 74 w' w.heap.size (fun k_ => (w.heap.size ≤ k_) ∧ some k_ ≠ (v362 : Value).ownBlock ∧ some k_ ≠ (u12 : Value).ownBlock ∧ some k_ ≠ (v379 : Value).ownBlock) u10 x10_3) ∧ Aside0 (Kd.N k27 27 w' w.heap.size (fun k_ => (w.heap.size ≤ k_) ∧ some k_ ≠ (v362 : Value).ownBlock ∧ some k_ ≠ (u10 : Value).ownBlock ∧ some k_ ≠ (v379 : Value).ownBlock) u12 x12_3) ∧ Aside0 (Kd.N k74 74 w' w.heap.size (fun k_ => (w.heap.size ≤ k_) ∧ some k_ ≠ (v362 : Value).ownBlock ∧ some k_ ≠ (u10 : Value).ownBlock ∧ some k_ ≠ (u12 : Value).ownBlock) v379 x14_4) ∧ Aside0 (Below w.heap.size w w'))
    case atStart => exact ⟨(y378), (wrap64 (x13_3 + 1)), qx16_11, H', ⟨Nat.le_refl _⟩, ⟨by (with_reducible repeat (first | apply Kd.N_alloc | apply Kd.N_drewN | apply Kd.N_drew)); exact Kd.N_mono HO_8.out (fun _ hk => ⟨hk.1.1, ⟨hk.1.2.1, ⟨hk.1.2.2, hk.2⟩⟩⟩)⟩, ⟨by (with_reducible repeat (first | apply Kd.N_alloc | apply Kd.N_drewN | apply Kd.N_drew)); exact Kd.N_mono HO_10.out (fun _ hk => ⟨hk.1.1, ⟨hk.1.2.1, ⟨hk.1.2.2, hk.2⟩⟩⟩)⟩, ⟨by (with_reducible repeat (first | apply Kd.N_alloc | apply Kd.N_drewN | apply Kd.N_drew)); exact Kd.N_mono HO_12.out (fun _ hk => ⟨hk.1.1, ⟨hk.1.2.1, ⟨hk.1.2.2, hk.2⟩⟩⟩)⟩, ⟨by (with_reducible repeat (first | apply Kd.N_alloc | apply Kd.N_drewN | apply Kd.N_drew)); exact HO380.out⟩, ⟨qx16_0⟩⟩
    clear H'
    try clear c1
    try clear p1
    try clear q1
    try clear hx1
    try clear c2
    try clear p2
    try clear q2
    try clear hx2
    try clear hf2
    try clear c3
    try clear p3
    try clear q3
    try clear hx3
    try clear qi3
    try clear hf3
    try clear c4
    try clear c4b0
    try clear c4b1
    try clear c5
    try clear c5b0
    try clear p6
    try clear c7
    try clear c7b0
    try clear c7b1
    try clear c8
    try clear c8b0
    try clear c8b1
    try clear c11
    try clear c11b0
    try clear c13
    try clear c13b0
    try clear c14
    try clear c14b0
    try clear c15
    try clear p15
    try clear q15
    try clear hx15
    try clear hf15
    try clear c17
    try clear hx17
    try clear hf17
    try clear c20
    try clear c20b0
    try clear c20b1
    try clear c21
    try clear c21b0
    try clear c21b1
    try clear c24
    try clear c24b0
    try clear c25
    try clear c25b0
    try clear c26
    try clear c26b0
    try clear c27
    try clear c27b0
    try clear c27b1
    try clear c28
    try clear c28b0
    try clear c29
    try clear p29
    try clear q29
    try clear hx29
    try clear hf29
    try clear c31
    try clear hx31
    try clear hf31
    try clear c33
    try clear c33b0
    try clear c33b1
    try clear c34
    try clear c34b0
    try clear c34b1
    try clear c35
    try clear c36
    try clear c37
    try clear p37
    try clear q37
    try clear hx37
    try clear qi37
    try clear c39
    try clear c39b0
    try clear c40
    try clear c41
    try clear c41b0
    try clear c41b1
    try clear c42
    try clear c42b0
    try clear c42b1
    try clear hx15_0
    try clear hx17_0
    try clear hx29_0
    try clear hx29_1
    try clear hx31_0
    try clear hx31_1
    try clear hx371_0
    try clear hx372_0
    try clear hx374_0
    try clear hx374_1
    try clear p1
    try clear p15
    try clear p2
    try clear p29
    try clear p3
    try clear p37
    try clear p371
    try clear p372
    try clear p374
    try clear p6
    try clear q1
    try clear q15
    try clear q2
    try clear q29
    try clear q3
    try clear q37
    try clear q371
    try clear q372
    try clear q374
    obtain ⟨x14_4, x15_4, rfl, HA, HK4, HO_8, HO_10, HO_12, HO_14, HB⟩ := hrel
    cases gk with
    | zero => exact absurd HA.out (by simp [segmentation_Counts.l3])
    | succ k4 =>
     have H := HA.out
     clear HA
     simp only [segmentation_Counts.l3] at H
     by_cases c45 : x15_4 ≤ (l0.length : Int)
     rotate_left
     ·rw [if_neg c45] at H
      have c45b0 : decide (x15_4 ≤ (l0.length : Int)) = false := decide_eq_false c45
      clear c45
      by_cases c93 : 0 ≤ (l0.length : Int)
      rotate_left
      ·rw [if_neg c93] at H
       exact absurd H (by simp)
      rw [if_pos c93] at H
      have c93b0 : decide (0 ≤ (l0.length : Int)) = true := decide_eq_true c93
      have c93b1 : decide (0 ≤ l0.length) = true := decide_eq_true (by omega)
      clear c93
      by_cases c94 : (l0.length : Int) < (x14_4.length : Int)
      rotate_left
      ·rw [if_neg c94] at H
       exact absurd H (by simp)
      rw [if_pos c94] at H
      have c94b0 : decide ((l0.length : Int) < (x14_4.length : Int)) = true := decide_eq_true c94
      have c94b1 : decide (l0.length < x14_4.length) = true := decide_eq_true (Int.ofNat_lt.mp c94)
      clear c94
      replace H := Option.bind_eq_some_iff.mp H
      obtain ⟨t382, A950, H⟩ := H
      replace H : (if x12_3.length < 4398046511104 then (segmentation_Counts.l2 k4 a1 (l0.length : Int) x8_1 x14_4 (x12_3 ++ [(⟨t382, (rd_T74 x14_4 (l0.length : Int)).f0⟩ : S27)]) (wrap64 (x13_3 + 1))) else (none)) = some (r1, r2) := H
      have A95 := Aside0.mk A950
      clear A950
      by_cases c96 : x12_3.length < 4398046511104
      rotate_left
      ·rw [if_neg c96] at H
       exact absurd H (by simp)
      rw [if_pos c96] at H
      have LMc96 := Aside0.mk c96
      clear c96
      obtain ⟨y386, hy386⟩ : ∃ y_ : List (S27), y_ = (x12_3 ++ [(⟨t382, (rd_T74 x14_4 (l0.length : Int)).f0⟩ : S27)]) := ⟨_, rfl⟩
      replace H : (segmentation_Counts.l2 k4 a1 (l0.length : Int) x8_1 x14_4 y386 (wrap64 (x13_3 + 1))) = some (r1, r2) := by first | (rw [hy386]; with_reducible exact H) | (have H2_ := (Option.bind_some _ _).symm.trans H; rw [hy386]; with_reducible exact H2_) | (have H2_ := (Option.bind_some _ _).symm.trans H; with_reducible exact H2_) | with_reducible exact H | (rw [hy386]; exact H) | exact H
      have Ny386 := Aside0.mk hy386
      clear hy386
      have H' := Aside0.mk H
      clear H
      try go_wp2
      have n0_ := Aside0.mk (Kd.N_drew HO_8.out)
      have n1_ := Aside0.mk (Kd.N_drew HO_10.out)
      have n2_ := Aside0.mk (Kd.N_drew HO_12.out)
      have n3_ := Aside0.mk (Kd.N_drew HO_14.out)
      have n4_ := Aside0.mk (below_drew1 HB.out)
      clear HO_8
      clear HO_10
      clear HO_12
      clear HO_14
      clear HB
      have HO_8 := n0_
      have HO_10 := n1_
      have HO_12 := n2_
      have HO_14 := n3_
      have HB := n4_
      clear n0_ n1_ n2_ n3_ n4_
      obtain ⟨Ao98, co98, eo98⟩ := Kd.N_slice HO_14.out
      (first | subst eo98 | (injection eo98 with f1_ f2_ f3_; have f4_ := f1_.symm; have f5_ := f3_.symm; clear f1_ f2_ f3_; subst f4_; subst f5_))
      have p381 : 0 ≤ ((l0.length : Int) : Int) := of_decide_eq_true qx16_1
      have q381 : (l0.length : Int) < (x14_4.length : Int) := of_decide_eq_true qx16_1
      obtain ⟨ad381, A381_1, c381_1, e381, hx381_0, hx381_1, hl381_1, hi381_1⟩ := at_T74 (Kd.N_reads' HO_14.out).2.2 (l0.length : Int) p381 q381
      cases e381
      obtain ⟨ce381, hce381, hMe381, hcc381⟩ := Kd.N_get HO_14.out z74 (l0.length : Int) p381 (by first | exact q381 | exact of_decide_eq_true qx16_1 | (have e_ := (Kd.N_reads' HO_14.out).1; omega))
      obtain ⟨ua381_1, uc381_1, rfl, ul381_1, ge381_1⟩ := k74_openF hMe381
      have hv381_1 := hcc381 1 _ rfl
      rw [add_field _ _ 1 (by omega)] at hv381_1
      replace hv381_1 := Option.some.inj (hv381_1.symm.trans hx381_1)
      injection hv381_1 with hva_ hvn_ hvc_
      rw [hva_] at ge381_1
      rw [hvc_] at ul381_1
      have HL381_1 := Aside0.mk (show Kd.V (Kd.int .i64) 3 _ w.heap.size _ _ ((rd_T74 x14_4 (l0.length : Int)).f1) from Kd.V_mk ul381_1 ge381_1)
      clear hva_ hvn_ hvc_ ge381_1 ul381_1
      clear hcc381 hce381
      have HR381_1 := Aside0.mk hi381_1
      have HC381_1 := Aside0.mk hl381_1
      clear hi381_1 hl381_1
      (try simp only [Go.IntWalk.toNatUp] at hx381_0)
      (try simp only [Go.IntWalk.toNatUp] at hx381_1)
      replace p381 := eq_true p381
      replace q381 := eq_true q381
      have p385 : 0 ≤ ((l0.length : Int) : Int) := of_decide_eq_true qx16_1
      have q385 : (l0.length : Int) < (x14_4.length : Int) := of_decide_eq_true qx16_1
      obtain ⟨ad385, A385_1, c385_1, e385, hx385_0, hx385_1, hl385_1, hi385_1⟩ := at_T74 (Kd.N_reads' HO_14.out).2.2 (l0.length : Int) p385 q385
      obtain rfl : ad381 = ad385 := (by injection e385)
      obtain ⟨ce385, hce385, hMe385, hcc385⟩ := Kd.N_get HO_14.out z74 (l0.length : Int) p385 (by first | exact q385 | exact of_decide_eq_true qx16_1 | (have e_ := (Kd.N_reads' HO_14.out).1; omega))
      obtain ⟨ua385_1, uc385_1, rfl, ul385_1, ge385_1⟩ := k74_openF hMe385
      have hv385_1 := hcc385 1 _ rfl
      rw [add_field _ _ 1 (by omega)] at hv385_1
      replace hv385_1 := Option.some.inj (hv385_1.symm.trans hx385_1)
      injection hv385_1 with hva_ hvn_ hvc_
      rw [hva_] at ge385_1
      rw [hvc_] at ul385_1
      have HL385_1 := Aside0.mk (show Kd.V (Kd.int .i64) 3 _ w.heap.size _ _ ((rd_T74 x14_4 (l0.length : Int)).f1) from Kd.V_mk ul385_1 ge385_1)
      clear hva_ hvn_ hvc_ ge385_1 ul385_1
      clear hcc385 hce385
      have HR385_1 := Aside0.mk hi385_1
      have HC385_1 := Aside0.mk hl385_1
      clear hi385_1 hl385_1
      (try simp only [Go.IntWalk.toNatUp] at hx385_0)
      (try simp only [Go.IntWalk.toNatUp] at hx385_1)
      replace p385 := eq_true p385
      replace q385 := eq_true q385
      have ea_ := Option.some.inj (hx381_1.symm.trans hx385_1)
      injection ea_ with ea_ en_ ec_
      subst ea_
      subst ec_
      clear en_
      refine start_ (n := 16) (S := fun w' => w'.cell? (ad381.add (l0.length * 2)) = some (.int .i64 ((rd_T74 x14_4 (l0.length : Int)).f0)) ∧ w'.cell? ⟨(ad381.add (l0.length * 2)).block, (ad381.add (l0.length * 2)).off + 1, none⟩ = some (.slice A381_1 ((rd_T74 x14_4 (l0.length : Int)).f1).length c381_1) ∧ w'.cell? (ad381.add (l0.length * 2)) = some (.int .i64 ((rd_T74 x14_4 (l0.length : Int)).f0)) ∧ w'.cell? ⟨(ad381.add (l0.length * 2)).block, (ad381.add (l0.length * 2)).off + 1, none⟩ = some (.slice A381_1 ((rd_T74 x14_4 (l0.length : Int)).f1).length c381_1)) (ds := [13, 14]) #[F16, F16, F16, F16, F16, F16, F16, F16, F16, F16, F16, F16, F16, F16, F16, F16] (by kernel_rfl) rfl rfl ⟨hx381_0, hx381_1, hx385_0, hx385_1⟩ (fun hHeld => ?_); refine with_tabW segmentation_Counts.tab33 segmentation_Counts.bits33 (fun HT_ HW_ => ?_)
      generalize wr.drew = w97 at HO_8 HO_10 HO_12 HO_14 HB HL381_1 HL385_1 HR381_1 HR385_1 hx381_0 hx381_1 hx385_0 hx385_1 hHeld ⊢
      refine pure_ (i := 0) (N := some 143) (v := ?_) (a' := ?_) #[T16, F16, F16, F16, F16, F16, F16, F16, F16, F16, F16, F16, F16, F16, F16, F16] rfl rfl (any_of HT_.out (by kernel_rfl)) (fun _ _ _ h => h) (Or.inl ⟨by rfl, ?_⟩) ?_ ?_
      rotate_left
      ·intro w'
       go_simp
       with_reducible rfl
      rotate_left
      ·simp only [Act.put, List.setIfInBounds_toArray, List.set_cons_zero, List.set_cons_succ, i64_w, i32_w]
       rfl
      refine pure_ (i := 1) (N := some 144) (v := ?_) (a' := ?_) #[T16, T16, F16, F16, F16, F16, F16, F16, F16, F16, F16, F16, F16, F16, F16, F16] rfl rfl (any_of HT_.out (by kernel_rfl)) (fun _ _ _ h => h) (Or.inl ⟨by rfl, ?_⟩) ?_ ?_
      rotate_left
      ·intro w'
       go_simp
       with_reducible rfl
      rotate_left
      ·simp only [Act.put, List.setIfInBounds_toArray, List.set_cons_zero, List.set_cons_succ, i64_w, i32_w]
       rfl
      refine pure_ (i := 2) (N := some 145) (v := ?_) (a' := ?_) #[T16, T16, T16, F16, F16, F16, F16, F16, F16, F16, F16, F16, F16, F16, F16, F16] rfl rfl (any_of HT_.out (by kernel_rfl)) (fun _ _ _ h => h) (Or.inl ⟨by rfl, ?_⟩) ?_ ?_
      rotate_left
      ·intro w'
       go_simp
       with_reducible rfl
      rotate_left
      ·simp only [Act.put, List.setIfInBounds_toArray, List.set_cons_zero, List.set_cons_succ, i64_w, i32_w]
       rfl
      refine pure_ (i := 3) (N := some 146) (v := ?_) (a' := ?_) #[T16, T16, T16, T16, F16, F16, F16, F16, F16, F16, F16, F16, F16, F16, F16, F16] rfl rfl (any_of HT_.out (by kernel_rfl)) (fun _ _ _ h => h) (Or.inl ⟨by rfl, ?_⟩) ?_ ?_
      rotate_left
      ·intro w'
       go_simp
       with_reducible rfl
      rotate_left
      ·simp only [Act.put, List.setIfInBounds_toArray, List.set_cons_zero, List.set_cons_succ, i64_w, i32_w]
       rfl
      refine pure_ (i := 4) (N := some 147) (v := ?_) (a' := ?_) #[T16, T16, T16, T16, T16, F16, F16, F16, F16, F16, F16, F16, F16, F16, F16, F16] rfl rfl (any_of HT_.out (by kernel_rfl)) (fun _ _ _ h => h) (Or.inl ⟨by rfl, ?_⟩) ?_ ?_
      rotate_left
      ·intro w'
       go_simp
       with_reducible rfl
      rotate_left
      ·simp only [Act.put, List.setIfInBounds_toArray, List.set_cons_zero, List.set_cons_succ, i64_w, i32_w]
       rfl
      refine pure_ (i := 7) (N := some 150) (v := ?_) (a' := ?_) #[T16, T16, T16, T16, T16, F16, F16, T16, F16, F16, F16, F16, F16, F16, F16, F16] rfl rfl (any_of HT_.out (by kernel_rfl)) (fun _ _ _ h => h) (Or.inl ⟨by rfl, ?_⟩) ?_ ?_
      rotate_left
      ·intro w'
       go_simp
       with_reducible rfl
      rotate_left
      ·simp only [Act.put, List.setIfInBounds_toArray, List.set_cons_zero, List.set_cons_succ, i64_w, i32_w]
       rfl
      refine pure_ (i := 8) (N := some 151) (v := ?_) (a' := ?_) #[T16, T16, T16, T16, T16, F16, F16, T16, T16, F16, F16, F16, F16, F16, F16, F16] rfl rfl (any_of HT_.out (by kernel_rfl)) (fun _ _ _ h => h) (Or.inl ⟨by rfl, ?_⟩) ?_ ?_
      rotate_left
      ·intro w'
       go_simp
       with_reducible rfl
      rotate_left
      ·simp only [Act.put, List.setIfInBounds_toArray, List.set_cons_zero, List.set_cons_succ, i64_w, i32_w]
       rfl
      refine pure_ (i := 9) (N := some 152) (v := ?_) (a' := ?_) #[T16, T16, T16, T16, T16, F16, F16, T16, T16, T16, F16, F16, F16, F16, F16, F16] rfl rfl (any_of HT_.out (by kernel_rfl)) (fun _ _ _ h => h) (Or.inl ⟨by rfl, ?_⟩) ?_ ?_
      rotate_left
      ·intro w'
       go_simp
       with_reducible rfl
      rotate_left
      ·simp only [Act.put, List.setIfInBounds_toArray, List.set_cons_zero, List.set_cons_succ, i64_w, i32_w]
       rfl
      refine pure_ (i := 10) (N := some 153) (v := ?_) (a' := ?_) #[T16, T16, T16, T16, T16, F16, F16, T16, T16, T16, T16, F16, F16, F16, F16, F16] rfl rfl (any_of HT_.out (by kernel_rfl)) (fun _ _ _ h => h) (Or.inl ⟨by rfl, ?_⟩) ?_ ?_
      rotate_left
      ·intro w'
       go_simp
       with_reducible rfl
      rotate_left
      ·simp only [Act.put, List.setIfInBounds_toArray, List.set_cons_zero, List.set_cons_succ, i64_w, i32_w]
       rfl
      refine take_ (i := 5) (N := some 148) (v := ?_) (a' := ?_) #[T16, T16, T16, T16, T16, T16, F16, T16, T16, T16, T16, F16, F16, F16, F16, F16] rfl rfl (take_ofW HT_.out HW_.out (by kernel_rfl)) (fun _ _ _ h => h) (Or.inl ⟨by rfl, ?_⟩) hHeld ?_ ?_
      rotate_left
      ·rintro w' ⟨s0, s1, s2, s3⟩
       go_simp
       with_reducible rfl
      rotate_left
      ·simp only [Act.put, List.setIfInBounds_toArray, List.set_cons_zero, List.set_cons_succ, i64_w, i32_w]
       rfl
      refine take_ (i := 11) (N := some 154) (v := ?_) (a' := ?_) #[T16, T16, T16, T16, T16, T16, F16, T16, T16, T16, T16, T16, F16, F16, F16, F16] rfl rfl (take_ofW HT_.out HW_.out (by kernel_rfl)) (fun _ _ _ h => h) (Or.inl ⟨by rfl, ?_⟩) hHeld ?_ ?_
      rotate_left
      ·rintro w' ⟨s0, s1, s2, s3⟩
       go_simp
       with_reducible rfl
      rotate_left
      ·simp only [Act.put, List.setIfInBounds_toArray, List.set_cons_zero, List.set_cons_succ, i64_w, i32_w]
       rfl
      refine one_ (i := 6) (N := some 149) #[T16, T16, T16, T16, T16, T16, T16, T16, T16, T16, T16, T16, F16, F16, F16, F16] rfl rfl (one_of HT_.out (by kernel_rfl)) (by decide) (fun K hK => ?_)
      refine goes_ Try.func48 (by kernel_rfl) rfl #[.slice A381_1 ((rd_T74 x14_4 (l0.length : Int)).f1).length c381_1] (by rfl) rfl rfl qx16_8 ?_
      with_reducible refine (slices_Clone_int_int.calls _ _ ((rd_T74 x14_4 (l0.length : Int)).f1) t382 _ ?side1 ?side2 A95.out).mono ?_
      (case side1 => repeat (first | exact qx16_32 | (with_reducible refine Kd.C_alloc ?_ _) | (with_reducible refine Kd.C_drewN ?_ _) | (with_reducible refine Kd.C_drew ?_)))
      (case side2 => exact HC381_1.out)
      rintro e w99 ⟨v383, rfl, ho0, hb⟩
      have HS0_ := (hb.cell (World.block_lt_of_cell? _ _ (hHeld.1))).trans (hHeld.1)
      have HS1_ := (hb.cell (World.block_lt_of_cell? _ _ (hHeld.2.1))).trans (hHeld.2.1)
      have HS2_ := (hb.cell (World.block_lt_of_cell? _ _ (hHeld.2.2.1))).trans (hHeld.2.2.1)
      have HS3_ := (hb.cell (World.block_lt_of_cell? _ _ (hHeld.2.2.2))).trans (hHeld.2.2.2)
      refine ⟨_, rfl, ?_⟩
      have n0_ := Aside0.mk (Kd.N_elder' qx16_2 (Kd.R_base ho0) hb)
      have n1_ := Aside0.mk (Kd.N_elder' qx16_3 (Kd.R_base ho0) hb)
      have n2_ := Aside0.mk (Kd.N_elder' qx16_5 (Kd.R_base ho0) hb)
      have n3_ := Aside0.mk (Kd.N_elder' qx16_6 (Kd.R_base ho0) hb)
      have n4_ := Aside0.mk (Kd.V_elder' (by (with_reducible repeat (first | apply Kd.V_alloc | apply Kd.V_drewN | apply Kd.V_drew)); exact HL381_1.out) (Kd.R_base ho0) hb)
      have n5_ := Aside0.mk (Kd.V_elder' (by (with_reducible repeat (first | apply Kd.V_alloc | apply Kd.V_drewN | apply Kd.V_drew)); exact HL385_1.out) (Kd.R_base ho0) hb)
      have n6_ := Aside0.mk (Kd.R_lower (Kd.R_newM (M := fun k_ => (w.heap.size ≤ k_)) ho0 (below_size qx16_0) (fun k_ h_ => h_)) (below_size qx16_0))
      have n7_ := Aside0.mk (Kd.C_below qx16_32 hb)
      have n8_ := Aside0.mk (Kd.C_below (by repeat (first | (with_reducible exact HR385_1.out) | (with_reducible refine Kd.C_alloc ?_ _) | (with_reducible refine Kd.C_drewN ?_ _) | (with_reducible refine Kd.C_drew ?_) | exact HR385_1.out)) hb)
      have n9_ := Aside0.mk (below_step qx16_0 hb)
      clear HO_8
      clear HO_10
      clear HO_12
      clear HO_14
      clear HL381_1
      clear HL385_1
      clear HR381_1
      clear HR385_1
      clear HB
      have HO_8 := n0_
      have HO_10 := n1_
      have HO_12 := n2_
      have HO_14 := n3_
      have HL381_1 := n4_
      have HL385_1 := n5_
      have HO384 := n6_
      have HR381_1 := n7_
      have HR385_1 := n8_
      have HB := n9_
      clear n0_ n1_ n2_ n3_ n4_ n5_ n6_ n7_ n8_ n9_
      (try clear hb)
      (try clear hb2)
      (try clear hk)
      (try clear hi)
      (try clear ho0)
      obtain ⟨Ao100, co100, eo100⟩ := Kd.R_slice HO384.out
      (first | subst eo100 | (injection eo100 with f1_ f2_ f3_; have f4_ := f1_.symm; have f5_ := f3_.symm; clear f1_ f2_ f3_; subst f4_; subst f5_))
      refine hK.out _ _ ⟨HS0_, HS1_, HS2_, HS3_⟩ (fun hHeld => ?_)
      clear hK K
      refine norm_ (a' := ?_) ?_ ?_
      rotate_left
      ·show Act.put _ (some 149) _ = _
       simp only [Act.put, List.setIfInBounds_toArray, List.set_cons_zero, List.set_cons_succ, i64_w, i32_w]
       rfl
      refine pure_ (i := 12) (N := some 155) (v := ?_) (a' := ?_) #[T16, T16, T16, T16, T16, T16, T16, T16, T16, T16, T16, T16, T16, F16, F16, F16] rfl rfl (any_of HT_.out (by kernel_rfl)) (fun _ _ _ h => h) (Or.inl ⟨by rfl, ?_⟩) ?_ ?_
      rotate_left
      ·intro w'
       go_simp
       with_reducible rfl
      rotate_left
      ·simp only [Act.put, List.setIfInBounds_toArray, List.set_cons_zero, List.set_cons_succ, i64_w, i32_w]
       rfl
      refine last_ (i := 13) (N := some 156) #[T16, T16, T16, T16, T16, T16, T16, T16, T16, T16, T16, T16, T16, T16, F16, F16] rfl rfl (one_of HT_.out (by kernel_rfl)) (by decide) (fun K hK => ?_)
      refine value_ (w1 := ?_) (v := ?_) (by rfl) rfl ?_ ?_
      rotate_left 2
      ·go_simp
       constructor
       ·rfl
       ·rfl
      refine hK.out _ _ ?_
      clear hK K
      refine norm_ (a' := ?_) ?_ ?_
      rotate_left
      ·show Act.put _ (some 156) _ = _
       simp only [Act.put, List.setIfInBounds_toArray, List.set_cons_zero, List.set_cons_succ, i64_w, i32_w]
       rfl
      refine last_ (i := 14) (N := some 157) #[T16, T16, T16, T16, T16, T16, T16, T16, T16, T16, T16, T16, T16, T16, T16, F16] rfl rfl (one_of HT_.out (by kernel_rfl)) (by decide) (fun K hK => ?_)
      refine Kd.N_append_step k27 (w0 := w) w.heap.size (by rfl) (.tmp 143) (.tmp 156) 64 27 (.agg #[(.slice none 0 0), (.int .i64 0)]) 32 rfl Try.underlying64 info27 rfl (by decide) (by omega) u12 x12_3 (⟨t382, (rd_T74 x14_4 (l0.length : Int)).f0⟩ : S27) [.slice Ao100 t382.length co100, .int .i64 ((rd_T74 x14_4 (l0.length : Int)).f0)] (fun k_ => (w.heap.size ≤ k_) ∧ some k_ ≠ (v362 : Value).ownBlock ∧ some k_ ≠ (u10 : Value).ownBlock ∧ some k_ ≠ (.slice (some ad381) x14_4.length co98 : Value).ownBlock) (fun k_ => ((fun k_ => (w.heap.size ≤ k_) ∧ some k_ ≠ (v362 : Value).ownBlock ∧ some k_ ≠ (u10 : Value).ownBlock ∧ some k_ ≠ (.slice (some ad381) x14_4.length co98 : Value).ownBlock)) k_ ∧ some k_ ≠ (u12 : Value).ownBlock) rfl rfl ?aP (fun _ hk => hk) ?aF ?aO ?aB ?aS ?aL ?_
      (case aP => exact (k27_mkF _ _ (⟨t382, (rd_T74 x14_4 (l0.length : Int)).f0⟩ : S27) (Kd.R_reads' (Kd.R_mono (ok' := (fun k_ => ((fun k_ => (w.heap.size ≤ k_) ∧ some k_ ≠ (v362 : Value).ownBlock ∧ some k_ ≠ (u10 : Value).ownBlock ∧ some k_ ≠ (.slice (some ad381) x14_4.length co98 : Value).ownBlock)) k_ ∧ some k_ ≠ (u12 : Value).ownBlock)) (Kd.R_apart' (Kd.R_apart' (Kd.R_apart' (Kd.R_apart' (HO384.out) (Kd.N_typed HO_8.out) (by decide)) (Kd.N_typed HO_10.out) (by decide)) (Kd.N_typed HO_14.out) (by decide)) (Kd.N_typed HO_12.out) (by decide)) (fun k_ hk => ⟨⟨hk.1.1.1.1.1, ⟨hk.1.1.1.2, ⟨hk.1.1.2, hk.1.2⟩⟩⟩, hk.2⟩))).2.1 (Kd.R_F (Kd.R_mono (ok' := (fun k_ => ((fun k_ => (w.heap.size ≤ k_) ∧ some k_ ≠ (v362 : Value).ownBlock ∧ some k_ ≠ (u10 : Value).ownBlock ∧ some k_ ≠ (.slice (some ad381) x14_4.length co98 : Value).ownBlock)) k_ ∧ some k_ ≠ (u12 : Value).ownBlock)) (Kd.R_apart' (Kd.R_apart' (Kd.R_apart' (Kd.R_apart' (HO384.out) (Kd.N_typed HO_8.out) (by decide)) (Kd.N_typed HO_10.out) (by decide)) (Kd.N_typed HO_14.out) (by decide)) (Kd.N_typed HO_12.out) (by decide)) (fun k_ hk => ⟨⟨hk.1.1.1.1.1, ⟨hk.1.1.1.2, ⟨hk.1.1.2, hk.1.2⟩⟩⟩, hk.2⟩)))))
      (case aB => exact qx16_0)
      (case aF => exact (fun k_ hk => ⟨(Nat.le_trans (below_size qx16_0) hk), Kd.fresh' (Kd.N_lt qx16_2) k_ hk, Kd.fresh' (Kd.N_lt qx16_3) k_ hk, Kd.fresh' (Kd.N_lt qx16_6) k_ hk⟩))
      (case aO => exact (by (with_reducible repeat (first | apply Kd.N_alloc | apply Kd.N_drewN | apply Kd.N_drew)); exact Kd.N_mono HO_12.out (fun _ hk => ⟨hk.1.1, ⟨hk.1.2.1, ⟨hk.1.2.2.1, hk.1.2.2.2⟩⟩⟩)))
      (case aS => exact (below_size qx16_0))
      (case aL => have := LMc96.out; omega)
      intro v387 w101 ho hb hg hat
      rw [← Ny386.out] at ho
      have n0_ := Aside0.mk (Kd.N_afterv (ok := (fun k_ => (w.heap.size ≤ k_) ∧ some k_ ≠ (u10 : Value).ownBlock ∧ some k_ ≠ (.slice (some ad381) x14_4.length co98 : Value).ownBlock ∧ some k_ ≠ (.slice Ao100 t382.length co100 : Value).ownBlock)) (by (with_reducible repeat (first | apply Kd.N_alloc | apply Kd.N_drewN | apply Kd.N_drew)); exact Kd.N_mono HO_8.out (fun _ hk => ⟨⟨hk.1.1, ⟨hk.1.2.1, ⟨hk.1.2.2.2, hk.2⟩⟩⟩, hk.1.2.2.1⟩)) hg hat)
      have n1_ := Aside0.mk (Kd.N_afterv (ok := (fun k_ => (w.heap.size ≤ k_) ∧ some k_ ≠ (v362 : Value).ownBlock ∧ some k_ ≠ (.slice (some ad381) x14_4.length co98 : Value).ownBlock ∧ some k_ ≠ (.slice Ao100 t382.length co100 : Value).ownBlock)) (by (with_reducible repeat (first | apply Kd.N_alloc | apply Kd.N_drewN | apply Kd.N_drew)); exact Kd.N_mono HO_10.out (fun _ hk => ⟨⟨hk.1.1, ⟨hk.1.2.1, ⟨hk.1.2.2.2, hk.2⟩⟩⟩, hk.1.2.2.1⟩)) hg hat)
      have n2_ := Aside0.mk (Kd.N_afterv (ok := (fun k_ => (w.heap.size ≤ k_) ∧ some k_ ≠ (v362 : Value).ownBlock ∧ some k_ ≠ (u10 : Value).ownBlock ∧ some k_ ≠ (.slice Ao100 t382.length co100 : Value).ownBlock)) (by (with_reducible repeat (first | apply Kd.N_alloc | apply Kd.N_drewN | apply Kd.N_drew)); exact Kd.N_mono HO_14.out (fun _ hk => ⟨⟨hk.1.1, ⟨hk.1.2.1, ⟨hk.1.2.2.1, hk.2⟩⟩⟩, hk.1.2.2.2⟩)) hg hat)
      have n3_ := Aside0.mk (Kd.V_afterv (ok := (fun k_ => (w.heap.size ≤ k_) ∧ some k_ ≠ (v362 : Value).ownBlock ∧ some k_ ≠ (u10 : Value).ownBlock ∧ some k_ ≠ (.slice (some ad381) x14_4.length co98 : Value).ownBlock ∧ some k_ ≠ (.slice Ao100 t382.length co100 : Value).ownBlock)) (by (with_reducible repeat (first | apply Kd.V_alloc | apply Kd.V_drewN | apply Kd.V_drew)); exact Kd.V_mono HL381_1.out (fun _ hk => ⟨⟨hk.1.1.1, ⟨hk.1.1.2.1, ⟨hk.1.1.2.2.1, ⟨hk.1.2, hk.2⟩⟩⟩⟩, hk.1.1.2.2.2⟩)) hg hat)
      have n4_ := Aside0.mk (Kd.V_afterv (ok := (fun k_ => (w.heap.size ≤ k_) ∧ some k_ ≠ (v362 : Value).ownBlock ∧ some k_ ≠ (u10 : Value).ownBlock ∧ some k_ ≠ (.slice (some ad381) x14_4.length co98 : Value).ownBlock ∧ some k_ ≠ (.slice Ao100 t382.length co100 : Value).ownBlock)) (by (with_reducible repeat (first | apply Kd.V_alloc | apply Kd.V_drewN | apply Kd.V_drew)); exact Kd.V_mono HL385_1.out (fun _ hk => ⟨⟨hk.1.1.1, ⟨hk.1.1.2.1, ⟨hk.1.1.2.2.1, ⟨hk.1.2, hk.2⟩⟩⟩⟩, hk.1.1.2.2.2⟩)) hg hat)
      have n5_ := Aside0.mk (hb)
      have n6_ := Aside0.mk (ho)
      clear HO_8
      clear HO_10
      clear HO_14
      clear HL381_1
      clear HL385_1
      clear HB
      clear HO_12
      clear HO384
      have HO_8 := n0_
      have HO_10 := n1_
      have HO_14 := n2_
      have HL381_1 := n3_
      have HL385_1 := n4_
      have HB := n5_
      have HO388 := n6_
      clear n0_ n1_ n2_ n3_ n4_ n5_ n6_
      clear ho hb hg hat
      refine hK.out _ _ ?_
      clear hK K
      refine norm_ (a' := ?_) ?_ ?_
      rotate_left
      ·show Act.put _ (some 157) _ = _
       simp only [Act.put, List.setIfInBounds_toArray, List.set_cons_zero, List.set_cons_succ, i64_w, i32_w]
       rfl
      refine pure_ (i := 15) (N := some 12) (v := ?_) (a' := ?_) #[T16, T16, T16, T16, T16, T16, T16, T16, T16, T16, T16, T16, T16, T16, T16, T16] rfl rfl (any_of HT_.out (by kernel_rfl)) (fun _ _ _ h => h) (Or.inl ⟨by rfl, ?_⟩) ?_ ?_
      rotate_left
      ·intro w'
       go_simp
       with_reducible rfl
      rotate_left
      ·simp only [Act.put, List.setIfInBounds_toArray, List.set_cons_zero, List.set_cons_succ, i64_w, i32_w]
       rfl
      refine done_ (done_of HT_.out (by kernel_rfl)) ?_
      try go_wp2
      go_roundg k4
      case measure => have := HK1.out; have := HK2.out; have := HK3.out; have := HK4.out; omega
      case rel => exact ⟨(x14_4), (y386), (wrap64 (x13_3 + 1)), qx16_11, H', ⟨by have := HK1.out; have := HK2.out; have := HK3.out; have := HK4.out; omega⟩, ⟨by (with_reducible repeat (first | apply Kd.N_alloc | apply Kd.N_drewN | apply Kd.N_drew)); exact Kd.N_mono HO_8.out (fun _ hk => ⟨hk.1.1, ⟨hk.1.2.2.1, hk.2⟩⟩)⟩, ⟨by (with_reducible repeat (first | apply Kd.N_alloc | apply Kd.N_drewN | apply Kd.N_drew)); exact Kd.N_mono HO_14.out (fun _ hk => ⟨hk.1.1, ⟨hk.1.2.1, hk.2⟩⟩)⟩, ⟨by (with_reducible repeat (first | apply Kd.N_alloc | apply Kd.N_drewN | apply Kd.N_drew)); exact Kd.N_mono HO388.out (fun _ hk => ⟨hk.1, ⟨hk.2.1, hk.2.2.2⟩⟩)⟩, ⟨qx16_0⟩⟩
     rw [if_pos c45] at H
     have c45b0 : decide (x15_4 ≤ (l0.length : Int)) = true := decide_eq_true c45
     clear c45
     have H' := Aside0.mk H
     clear H
     go_wp2
     go_loopg [16] k4 (fun kq v16 w' => ∃ (x14_5 : List (S74)) (x16_5 : Int), v16 = .int .i64 x16_5 ∧ Aside0 (segmentation_Counts.l4 kq a1 (l0.length : Int) x8_1 x10_3 x12_3 x13_3 x14_5 x15_4 x16_5 = some (r1, r2)) ∧ Aside0 (kq ≤ k4) ∧ Aside0 (Kd.N (Kd.slice 3 (Kd.int .i64)) 24 w' w.heap.size (fun k_ => (w.heap.size ≤ k_) ∧ some k_ ≠ (u10 : Value).ownBlock ∧ some k_ ≠ (u12 : Value).ownBlock ∧ some k_ ≠ (v379 : Value).ownBlock) v362 x8_1) ∧ Aside0 (Kd.N k74 74 w' w.heap.size (fun k_ => (w.heap.size ≤ k_) ∧ some k_ ≠ (v362 : Value).ownBlock ∧ some k_ ≠ (u12 : Value).ownBlock ∧ some k_ ≠ (v379 : Value).ownBlock) u10 x10_3) ∧ Aside0 (Kd.N k27 27 w' w.heap.size (fun k_ => (w.heap.size ≤ k_) ∧ some k_ ≠ (v362 : Value).ownBlock ∧ some k_ ≠ (u10 : Value).ownBlock ∧ some k_ ≠ (v379 : Value).ownBlock) u12 x12_3) ∧ Aside0 (Kd.N k74 74 w' w.heap.size (fun k_ => (w.heap.size ≤ k_) ∧ some k_ ≠ (v362 : Value).ownBlock ∧ some k_ ≠ (u10 : Value).ownBlock ∧ some k_ ≠ (u12 : Value).ownBlock) v379 x14_5) ∧ Aside0 (Below w.heap.size w w'))
     case atStart => exact ⟨(x14_4), (x13_3), qx16_11, H', ⟨Nat.le_refl _⟩, ⟨qx16_2⟩, ⟨qx16_3⟩, ⟨qx16_5⟩, ⟨qx16_6⟩, ⟨qx16_0⟩⟩
     clear H'
     try clear c1
     try clear p1
     try clear q1
     try clear hx1
     try clear c2
     try clear p2
     try clear q2
     try clear hx2
     try clear hf2
     try clear c3
     try clear p3
     try clear q3
     try clear hx3
     try clear qi3
     try clear hf3
     try clear c4
     try clear c4b0
     try clear c4b1
     try clear c5
     try clear c5b0
     try clear p6
     try clear c7
     try clear c7b0
     try clear c7b1
     try clear c8
     try clear c8b0
     try clear c8b1
     try clear c11
     try clear c11b0
     try clear c13
     try clear c13b0
     try clear c14
     try clear c14b0
     try clear c15
     try clear p15
     try clear q15
     try clear hx15
     try clear hf15
     try clear c17
     try clear hx17
     try clear hf17
     try clear c20
     try clear c20b0
     try clear c20b1
     try clear c21
     try clear c21b0
     try clear c21b1
     try clear c24
     try clear c24b0
     try clear c25
     try clear c25b0
     try clear c26
     try clear c26b0
     try clear c27
     try clear c27b0
     try clear c27b1
     try clear c28
     try clear c28b0
     try clear c29
     try clear p29
     try clear q29
     try clear hx29
     try clear hf29
     try clear c31
     try clear hx31
     try clear hf31
     try clear c33
     try clear c33b0
     try clear c33b1
     try clear c34
     try clear c34b0
     try clear c34b1
     try clear c35
     try clear c36
     try clear c37
     try clear p37
     try clear q37
     try clear hx37
     try clear qi37
     try clear c39
     try clear c39b0
     try clear c40
     try clear c41
     try clear c41b0
     try clear c41b1
     try clear c42
     try clear c42b0
     try clear c42b1
     try clear c45
     try clear c45b0
     try clear hx15_0
     try clear hx17_0
     try clear hx29_0
     try clear hx29_1
     try clear hx31_0
     try clear hx31_1
     try clear hx371_0
     try clear hx372_0
     try clear hx374_0
     try clear hx374_1
     try clear p1
     try clear p15
     try clear p2
     try clear p29
     try clear p3
     try clear p37
     try clear p371
     try clear p372
     try clear p374
     try clear p6
     try clear q1
     try clear q15
     try clear q2
     try clear q29
     try clear q3
     try clear q37
     try clear q371
     try clear q372
     try clear q374
     obtain ⟨x14_5, x16_5, rfl, HA, HK5, HO_8, HO_10, HO_12, HO_14, HB⟩ := hrel
     cases gk with
     | zero => exact absurd HA.out (by simp [segmentation_Counts.l4])
     | succ k5 =>
      have H := HA.out
      clear HA
      simp only [segmentation_Counts.l4] at H
      by_cases c46 : x16_5 < x15_4
      rotate_left
      ·rw [if_neg c46] at H
       have c46b0 : decide (x16_5 < x15_4) = false := decide_eq_false c46
       clear c46
       have H' := Aside0.mk H
       clear H
       go_wp2
       go_roundg k5
       case measure => have := HK1.out; have := HK2.out; have := HK3.out; have := HK4.out; have := HK5.out; omega
       case rel => exact ⟨(x14_5), (wrap64 (x15_4 + 1)), qx16_11, H', ⟨by have := HK1.out; have := HK2.out; have := HK3.out; have := HK4.out; have := HK5.out; omega⟩, ⟨qx16_2⟩, ⟨qx16_3⟩, ⟨qx16_5⟩, ⟨qx16_6⟩, ⟨qx16_0⟩⟩
      rw [if_pos c46] at H
      have c46b0 : decide (x16_5 < x15_4) = true := decide_eq_true c46
      clear c46
      have HC47 := Aside0.mk H
      clear H
      go_upto_region 28 with (fail)
      go_cut [113] (fun v113 wc => ∃ (kq : Nat) (x113_46 : Bool), v113 = .bool x113_46 ∧ Aside0 (segmentation_Counts.j5 kq a1 (l0.length : Int) x8_1 x10_3 x12_3 x13_3 x14_5 x15_4 x16_5 x113_46 = some (r1, r2)) ∧ Aside0 (kq ≤ k5) ∧ Aside0 (Kd.N (Kd.slice 3 (Kd.int .i64)) 24 wc w.heap.size (fun k_ => (w.heap.size ≤ k_) ∧ some k_ ≠ (u10 : Value).ownBlock ∧ some k_ ≠ (u12 : Value).ownBlock ∧ some k_ ≠ (v379 : Value).ownBlock) v362 x8_1) ∧ Aside0 (Kd.N k74 74 wc w.heap.size (fun k_ => (w.heap.size ≤ k_) ∧ some k_ ≠ (v362 : Value).ownBlock ∧ some k_ ≠ (u12 : Value).ownBlock ∧ some k_ ≠ (v379 : Value).ownBlock) u10 x10_3) ∧ Aside0 (Kd.N k27 27 wc w.heap.size (fun k_ => (w.heap.size ≤ k_) ∧ some k_ ≠ (v362 : Value).ownBlock ∧ some k_ ≠ (u10 : Value).ownBlock ∧ some k_ ≠ (v379 : Value).ownBlock) u12 x12_3) ∧ Aside0 (Kd.N k74 74 wc w.heap.size (fun k_ => (w.heap.size ≤ k_) ∧ some k_ ≠ (v362 : Value).ownBlock ∧ some k_ ≠ (u10 : Value).ownBlock ∧ some k_ ≠ (u12 : Value).ownBlock) v379 x14_5) ∧ Aside0 (Below w.heap.size w wc))
      case first =>
       have H := HC47.out
       clear HC47
       by_cases c48 : x16_5 > x13_3
       rotate_left
       ·rw [if_neg c48] at H
        have c48b0 : decide (x13_3 < x16_5) = false := decide_eq_false c48
        clear c48
        (first | rw [c48b0] | (simp only [i64_w, i32_w]; rw [c48b0]) | skip)
        have H' := Aside0.mk H
        clear H
        try go_wp2
        have n0_ := Aside0.mk (Kd.N_drew HO_8.out)
        have n1_ := Aside0.mk (Kd.N_drew HO_10.out)
        have n2_ := Aside0.mk (Kd.N_drew HO_12.out)
        have n3_ := Aside0.mk (Kd.N_drew HO_14.out)
        have n4_ := Aside0.mk (below_drew1 HB.out)
        clear HO_8
        clear HO_10
        clear HO_12
        clear HO_14
        clear HB
        have HO_8 := n0_
        have HO_10 := n1_
        have HO_12 := n2_
        have HO_14 := n3_
        have HB := n4_
        clear n0_ n1_ n2_ n3_ n4_
        refine start_ (n := 24) (S := fun w' => True) (ds := []) #[F16, F16, F16, F16, F16, F16, F16, F16, F16, F16, F16, F16, F16, F16, F16, F16, F16, F16, F16, F16, F16, F16, F16, F16] (by kernel_rfl) rfl rfl trivial (fun hHeld => ?_); refine with_tabW segmentation_Counts.tab28 segmentation_Counts.bits28 (fun HT_ HW_ => ?_)
        generalize wr.drew = w59 at HO_8 HO_10 HO_12 HO_14 HB hHeld ⊢
        refine pure_ (i := 0) (N := some 90) (v := ?_) (a' := ?_) #[T16, F16, F16, F16, F16, F16, F16, F16, F16, F16, F16, F16, F16, F16, F16, F16, F16, F16, F16, F16, F16, F16, F16, F16] rfl rfl (any_of HT_.out (by kernel_rfl)) (fun _ _ _ h => h) (Or.inl ⟨by rfl, ?_⟩) ?_ ?_
        rotate_left
        ·intro w'
         go_simp
         with_reducible rfl
        rotate_left
        ·simp only [Act.put, List.setIfInBounds_toArray, List.set_cons_zero, List.set_cons_succ, i64_w, i32_w]
         rfl
        refine pure_ (i := 1) (N := some 91) (v := ?_) (a' := ?_) #[T16, T16, F16, F16, F16, F16, F16, F16, F16, F16, F16, F16, F16, F16, F16, F16, F16, F16, F16, F16, F16, F16, F16, F16] rfl rfl (any_of HT_.out (by kernel_rfl)) (fun _ _ _ h => h) (Or.inl ⟨by rfl, ?_⟩) ?_ ?_
        rotate_left
        ·intro w'
         go_simp
         with_reducible rfl
        rotate_left
        ·simp only [Act.put, List.setIfInBounds_toArray, List.set_cons_zero, List.set_cons_succ, i64_w, i32_w]
         rfl
        refine pure_ (i := 2) (N := some 92) (v := ?_) (a' := ?_) #[T16, T16, T16, F16, F16, F16, F16, F16, F16, F16, F16, F16, F16, F16, F16, F16, F16, F16, F16, F16, F16, F16, F16, F16] rfl rfl (any_of HT_.out (by kernel_rfl)) (fun _ _ _ h => h) (Or.inl ⟨by rfl, ?_⟩) ?_ ?_
        rotate_left
        ·intro w'
         go_simp
         with_reducible rfl
        rotate_left
        ·simp only [Act.put, List.setIfInBounds_toArray, List.set_cons_zero, List.set_cons_succ, i64_w, i32_w]
         rfl
        refine pure_ (i := 3) (N := some 93) (v := ?_) (a' := ?_) #[T16, T16, T16, T16, F16, F16, F16, F16, F16, F16, F16, F16, F16, F16, F16, F16, F16, F16, F16, F16, F16, F16, F16, F16] rfl rfl (any_of HT_.out (by kernel_rfl)) (fun _ _ _ h => h) (Or.inl ⟨by rfl, ?_⟩) ?_ ?_
        rotate_left
        ·intro w'
         go_simp
         with_reducible rfl
        rotate_left
        ·simp only [Act.put, List.setIfInBounds_toArray, List.set_cons_zero, List.set_cons_succ, i64_w, i32_w]
         rfl
        refine pure_ (i := 4) (N := some 94) (v := undef) (a' := ?_) #[T16, T16, T16, T16, T16, F16, F16, F16, F16, F16, F16, F16, F16, F16, F16, F16, F16, F16, F16, F16, F16, F16, F16, F16] rfl rfl (any_of HT_.out (by kernel_rfl)) (fun _ _ _ h => h) (Or.inr ⟨by rfl, rfl⟩) ?_ ?_
        rotate_left
        ·simp only [Act.put, List.setIfInBounds_toArray, List.set_cons_zero, List.set_cons_succ, i64_w, i32_w]
         rfl
        refine pure_ (i := 5) (N := some 95) (v := undef) (a' := ?_) #[T16, T16, T16, T16, T16, T16, F16, F16, F16, F16, F16, F16, F16, F16, F16, F16, F16, F16, F16, F16, F16, F16, F16, F16] rfl rfl (any_of HT_.out (by kernel_rfl)) (fun _ _ _ h => h) (Or.inr ⟨by rfl, rfl⟩) ?_ ?_
        rotate_left
        ·simp only [Act.put, List.setIfInBounds_toArray, List.set_cons_zero, List.set_cons_succ, i64_w, i32_w]
         rfl
        refine pure_ (i := 6) (N := some 96) (v := undef) (a' := ?_) #[T16, T16, T16, T16, T16, T16, T16, F16, F16, F16, F16, F16, F16, F16, F16, F16, F16, F16, F16, F16, F16, F16, F16, F16] rfl rfl (any_of HT_.out (by kernel_rfl)) (fun _ _ _ h => h) (Or.inr ⟨by rfl, rfl⟩) ?_ ?_
        rotate_left
        ·simp only [Act.put, List.setIfInBounds_toArray, List.set_cons_zero, List.set_cons_succ, i64_w, i32_w]
         rfl
        refine pure_ (i := 7) (N := some 97) (v := undef) (a' := ?_) #[T16, T16, T16, T16, T16, T16, T16, T16, F16, F16, F16, F16, F16, F16, F16, F16, F16, F16, F16, F16, F16, F16, F16, F16] rfl rfl (any_of HT_.out (by kernel_rfl)) (fun _ _ _ h => h) (Or.inr ⟨by rfl, rfl⟩) ?_ ?_
        rotate_left
        ·simp only [Act.put, List.setIfInBounds_toArray, List.set_cons_zero, List.set_cons_succ, i64_w, i32_w]
         rfl
        refine pure_ (i := 8) (N := some 98) (v := undef) (a' := ?_) #[T16, T16, T16, T16, T16, T16, T16, T16, T16, F16, F16, F16, F16, F16, F16, F16, F16, F16, F16, F16, F16, F16, F16, F16] rfl rfl (any_of HT_.out (by kernel_rfl)) (fun _ _ _ h => h) (Or.inr ⟨by rfl, rfl⟩) ?_ ?_
        rotate_left
        ·simp only [Act.put, List.setIfInBounds_toArray, List.set_cons_zero, List.set_cons_succ, i64_w, i32_w]
         rfl
        refine pure_ (i := 9) (N := some 99) (v := undef) (a' := ?_) #[T16, T16, T16, T16, T16, T16, T16, T16, T16, T16, F16, F16, F16, F16, F16, F16, F16, F16, F16, F16, F16, F16, F16, F16] rfl rfl (any_of HT_.out (by kernel_rfl)) (fun _ _ _ h => h) (Or.inr ⟨by rfl, rfl⟩) ?_ ?_
        rotate_left
        ·simp only [Act.put, List.setIfInBounds_toArray, List.set_cons_zero, List.set_cons_succ, i64_w, i32_w]
         rfl
        refine pure_ (i := 10) (N := some 100) (v := undef) (a' := ?_) #[T16, T16, T16, T16, T16, T16, T16, T16, T16, T16, T16, F16, F16, F16, F16, F16, F16, F16, F16, F16, F16, F16, F16, F16] rfl rfl (any_of HT_.out (by kernel_rfl)) (fun _ _ _ h => h) (Or.inr ⟨by rfl, rfl⟩) ?_ ?_
        rotate_left
        ·simp only [Act.put, List.setIfInBounds_toArray, List.set_cons_zero, List.set_cons_succ, i64_w, i32_w]
         rfl
        refine pure_ (i := 11) (N := some 101) (v := undef) (a' := ?_) #[T16, T16, T16, T16, T16, T16, T16, T16, T16, T16, T16, T16, F16, F16, F16, F16, F16, F16, F16, F16, F16, F16, F16, F16] rfl rfl (any_of HT_.out (by kernel_rfl)) (fun _ _ _ h => h) (Or.inr ⟨by rfl, rfl⟩) ?_ ?_
        rotate_left
        ·simp only [Act.put, List.setIfInBounds_toArray, List.set_cons_zero, List.set_cons_succ, i64_w, i32_w]
         rfl
        refine pure_ (i := 12) (N := some 102) (v := undef) (a' := ?_) #[T16, T16, T16, T16, T16, T16, T16, T16, T16, T16, T16, T16, T16, F16, F16, F16, F16, F16, F16, F16, F16, F16, F16, F16] rfl rfl (any_of HT_.out (by kernel_rfl)) (fun _ _ _ h => h) (Or.inr ⟨by rfl, rfl⟩) ?_ ?_
        rotate_left
        ·simp only [Act.put, List.setIfInBounds_toArray, List.set_cons_zero, List.set_cons_succ, i64_w, i32_w]
         rfl
        refine pure_ (i := 13) (N := some 103) (v := undef) (a' := ?_) #[T16, T16, T16, T16, T16, T16, T16, T16, T16, T16, T16, T16, T16, T16, F16, F16, F16, F16, F16, F16, F16, F16, F16, F16] rfl rfl (any_of HT_.out (by kernel_rfl)) (fun _ _ _ h => h) (Or.inr ⟨by rfl, rfl⟩) ?_ ?_
        rotate_left
        ·simp only [Act.put, List.setIfInBounds_toArray, List.set_cons_zero, List.set_cons_succ, i64_w, i32_w]
         rfl
        refine pure_ (i := 14) (N := some 104) (v := undef) (a' := ?_) #[T16, T16, T16, T16, T16, T16, T16, T16, T16, T16, T16, T16, T16, T16, T16, F16, F16, F16, F16, F16, F16, F16, F16, F16] rfl rfl (any_of HT_.out (by kernel_rfl)) (fun _ _ _ h => h) (Or.inr ⟨by rfl, rfl⟩) ?_ ?_
        rotate_left
        ·simp only [Act.put, List.setIfInBounds_toArray, List.set_cons_zero, List.set_cons_succ, i64_w, i32_w]
         rfl
        refine pure_ (i := 15) (N := some 105) (v := undef) (a' := ?_) #[T16, T16, T16, T16, T16, T16, T16, T16, T16, T16, T16, T16, T16, T16, T16, T16, F16, F16, F16, F16, F16, F16, F16, F16] rfl rfl (any_of HT_.out (by kernel_rfl)) (fun _ _ _ h => h) (Or.inr ⟨by rfl, rfl⟩) ?_ ?_
        rotate_left
        ·simp only [Act.put, List.setIfInBounds_toArray, List.set_cons_zero, List.set_cons_succ, i64_w, i32_w]
         rfl
        refine pure_ (i := 16) (N := some 106) (v := undef) (a' := ?_) #[T16, T16, T16, T16, T16, T16, T16, T16, T16, T16, T16, T16, T16, T16, T16, T16, T16, F16, F16, F16, F16, F16, F16, F16] rfl rfl (any_of HT_.out (by kernel_rfl)) (fun _ _ _ h => h) (Or.inr ⟨by rfl, rfl⟩) ?_ ?_
        rotate_left
        ·simp only [Act.put, List.setIfInBounds_toArray, List.set_cons_zero, List.set_cons_succ, i64_w, i32_w]
         rfl
        refine pure_ (i := 17) (N := some 107) (v := undef) (a' := ?_) #[T16, T16, T16, T16, T16, T16, T16, T16, T16, T16, T16, T16, T16, T16, T16, T16, T16, T16, F16, F16, F16, F16, F16, F16] rfl rfl (any_of HT_.out (by kernel_rfl)) (fun _ _ _ h => h) (Or.inr ⟨by rfl, rfl⟩) ?_ ?_
        rotate_left
        ·simp only [Act.put, List.setIfInBounds_toArray, List.set_cons_zero, List.set_cons_succ, i64_w, i32_w]
         rfl
        refine pure_ (i := 18) (N := some 108) (v := undef) (a' := ?_) #[T16, T16, T16, T16, T16, T16, T16, T16, T16, T16, T16, T16, T16, T16, T16, T16, T16, T16, T16, F16, F16, F16, F16, F16] rfl rfl (any_of HT_.out (by kernel_rfl)) (fun _ _ _ h => h) (Or.inr ⟨by rfl, rfl⟩) ?_ ?_
        rotate_left
        ·simp only [Act.put, List.setIfInBounds_toArray, List.set_cons_zero, List.set_cons_succ, i64_w, i32_w]
         rfl
        refine pure_ (i := 19) (N := some 109) (v := undef) (a' := ?_) #[T16, T16, T16, T16, T16, T16, T16, T16, T16, T16, T16, T16, T16, T16, T16, T16, T16, T16, T16, T16, F16, F16, F16, F16] rfl rfl (any_of HT_.out (by kernel_rfl)) (fun _ _ _ h => h) (Or.inr ⟨by rfl, rfl⟩) ?_ ?_
        rotate_left
        ·simp only [Act.put, List.setIfInBounds_toArray, List.set_cons_zero, List.set_cons_succ, i64_w, i32_w]
         rfl
        refine pure_ (i := 20) (N := some 110) (v := undef) (a' := ?_) #[T16, T16, T16, T16, T16, T16, T16, T16, T16, T16, T16, T16, T16, T16, T16, T16, T16, T16, T16, T16, T16, F16, F16, F16] rfl rfl (any_of HT_.out (by kernel_rfl)) (fun _ _ _ h => h) (Or.inr ⟨by rfl, rfl⟩) ?_ ?_
        rotate_left
        ·simp only [Act.put, List.setIfInBounds_toArray, List.set_cons_zero, List.set_cons_succ, i64_w, i32_w]
         rfl
        refine pure_ (i := 21) (N := some 111) (v := undef) (a' := ?_) #[T16, T16, T16, T16, T16, T16, T16, T16, T16, T16, T16, T16, T16, T16, T16, T16, T16, T16, T16, T16, T16, T16, F16, F16] rfl rfl (any_of HT_.out (by kernel_rfl)) (fun _ _ _ h => h) (Or.inr ⟨by rfl, rfl⟩) ?_ ?_
        rotate_left
        ·simp only [Act.put, List.setIfInBounds_toArray, List.set_cons_zero, List.set_cons_succ, i64_w, i32_w]
         rfl
        refine pure_ (i := 22) (N := some 112) (v := undef) (a' := ?_) #[T16, T16, T16, T16, T16, T16, T16, T16, T16, T16, T16, T16, T16, T16, T16, T16, T16, T16, T16, T16, T16, T16, T16, F16] rfl rfl (any_of HT_.out (by kernel_rfl)) (fun _ _ _ h => h) (Or.inr ⟨by rfl, rfl⟩) ?_ ?_
        rotate_left
        ·simp only [Act.put, List.setIfInBounds_toArray, List.set_cons_zero, List.set_cons_succ, i64_w, i32_w]
         rfl
        refine pure_ (i := 23) (N := some 113) (v := ?_) (a' := ?_) #[T16, T16, T16, T16, T16, T16, T16, T16, T16, T16, T16, T16, T16, T16, T16, T16, T16, T16, T16, T16, T16, T16, T16, T16] rfl rfl (any_of HT_.out (by kernel_rfl)) (fun _ _ _ h => h) (Or.inl ⟨by rfl, ?_⟩) ?_ ?_
        rotate_left
        ·intro w'
         go_simp
         with_reducible rfl
        rotate_left
        ·simp only [Act.put, List.setIfInBounds_toArray, List.set_cons_zero, List.set_cons_succ, i64_w, i32_w]
         rfl
        refine done_ (done_of HT_.out (by kernel_rfl)) ?_
        try go_wp2
        go_meet
        case rel => exact ⟨_, (false), qx16_11, H', ⟨by have := HK1.out; have := HK2.out; have := HK3.out; have := HK4.out; have := HK5.out; first | omega | exact Nat.le_refl _⟩, ⟨qx16_2⟩, ⟨qx16_3⟩, ⟨qx16_5⟩, ⟨qx16_6⟩, ⟨qx16_0⟩⟩
       rw [if_pos c48] at H
       have c48b0 : decide (x13_3 < x16_5) = true := decide_eq_true c48
       clear c48
       (first | rw [c48b0] | (simp only [i64_w, i32_w]; rw [c48b0]) | skip)
       by_cases c49 : 0 ≤ x16_5
       rotate_left
       ·rw [if_neg c49] at H
        exact absurd H (by simp)
       rw [if_pos c49] at H
       have c49b0 : decide (0 ≤ x16_5) = true := decide_eq_true c49
       clear c49
       by_cases c50 : x16_5 < (x10_3.length : Int)
       rotate_left
       ·rw [if_neg c50] at H
        exact absurd H (by simp)
       rw [if_pos c50] at H
       have c50b0 : decide (x16_5 < (x10_3.length : Int)) = true := decide_eq_true c50
       clear c50
       by_cases c51 : 0 ≤ x15_4
       rotate_left
       ·rw [if_neg c51] at H
        exact absurd H (by simp)
       rw [if_pos c51] at H
       have c51b0 : decide (0 ≤ x15_4) = true := decide_eq_true c51
       clear c51
       by_cases c52 : x15_4 < (x8_1.length : Int)
       rotate_left
       ·rw [if_neg c52] at H
        exact absurd H (by simp)
       rw [if_pos c52] at H
       have c52b0 : decide (x15_4 < (x8_1.length : Int)) = true := decide_eq_true c52
       clear c52
       by_cases c53 : x16_5 < ((rd_L1 x8_1 x15_4).length : Int)
       rotate_left
       ·rw [if_neg c53] at H
        exact absurd H (by simp)
       rw [if_pos c53] at H
       have c53b0 : decide (x16_5 < ((rd_L1 x8_1 x15_4).length : Int)) = true := decide_eq_true c53
       clear c53
       by_cases c54 : x15_4 < (x14_5.length : Int)
       rotate_left
       ·rw [if_neg c54] at H
        exact absurd H (by simp)
       rw [if_pos c54] at H
       have c54b0 : decide (x15_4 < (x14_5.length : Int)) = true := decide_eq_true c54
       clear c54
       have H' := Aside0.mk H
       clear H
       try go_wp2
       have n0_ := Aside0.mk (Kd.N_drew HO_8.out)
       have n1_ := Aside0.mk (Kd.N_drew HO_10.out)
       have n2_ := Aside0.mk (Kd.N_drew HO_12.out)
       have n3_ := Aside0.mk (Kd.N_drew HO_14.out)
       have n4_ := Aside0.mk (below_drew1 HB.out)
       clear HO_8
       clear HO_10
       clear HO_12
       clear HO_14
       clear HB
       have HO_8 := n0_
       have HO_10 := n1_
       have HO_12 := n2_
       have HO_14 := n3_
       have HB := n4_
       clear n0_ n1_ n2_ n3_ n4_
       obtain ⟨Ao56, co56, eo56⟩ := Kd.N_slice HO_10.out
       (first | subst eo56 | (injection eo56 with f1_ f2_ f3_; have f4_ := f1_.symm; have f5_ := f3_.symm; clear f1_ f2_ f3_; subst f4_; subst f5_))
       have p389 : 0 ≤ (x16_5 : Int) := of_decide_eq_true qx16_1
       have q389 : x16_5 < (x10_3.length : Int) := of_decide_eq_true qx16_1
       obtain ⟨ad389, A389_1, c389_1, e389, hx389_0, hx389_1, hl389_1, hi389_1⟩ := at_T74 (Kd.N_reads' HO_10.out).2.2 x16_5 p389 q389
       cases e389
       obtain ⟨ce389, hce389, hMe389, hcc389⟩ := Kd.N_get HO_10.out z74 x16_5 p389 (by first | exact q389 | exact of_decide_eq_true qx16_1 | (have e_ := (Kd.N_reads' HO_10.out).1; omega))
       obtain ⟨ua389_1, uc389_1, rfl, ul389_1, ge389_1⟩ := k74_openF hMe389
       have hv389_1 := hcc389 1 _ rfl
       rw [add_field _ _ 1 (by omega)] at hv389_1
       replace hv389_1 := Option.some.inj (hv389_1.symm.trans hx389_1)
       injection hv389_1 with hva_ hvn_ hvc_
       rw [hva_] at ge389_1
       rw [hvc_] at ul389_1
       have HL389_1 := Aside0.mk (show Kd.V (Kd.int .i64) 3 _ w.heap.size _ _ ((rd_T74 x10_3 x16_5).f1) from Kd.V_mk ul389_1 ge389_1)
       clear hva_ hvn_ hvc_ ge389_1 ul389_1
       clear hcc389 hce389
       have HR389_1 := Aside0.mk hi389_1
       have HC389_1 := Aside0.mk hl389_1
       clear hi389_1 hl389_1
       replace p389 := eq_true p389
       replace q389 := eq_true q389
       obtain ⟨Ao57, co57, eo57⟩ := Kd.N_slice HO_8.out
       (first | subst eo57 | (injection eo57 with f1_ f2_ f3_; have f4_ := f1_.symm; have f5_ := f3_.symm; clear f1_ f2_ f3_; subst f4_; subst f5_))
       have p390 : 0 ≤ (x15_4 : Int) := of_decide_eq_true qx16_1
       have q390 : x15_4 < (x8_1.length : Int) := of_decide_eq_true qx16_1
       obtain ⟨ad390, A390_0, c390_0, e390, hx390_0, hl390_0, hi390_0⟩ := at_L1 (Kd.N_reads' HO_8.out).2.2 x15_4 p390 q390
       cases e390
       obtain ⟨ce390, hce390, hMe390, hcc390⟩ := Kd.N_get HO_8.out [] x15_4 p390 (by first | exact q390 | exact of_decide_eq_true qx16_1 | (have e_ := (Kd.N_reads' HO_8.out).1; omega))
       obtain ⟨ua390_0, uc390_0, rfl, ul390_0, ge390_0⟩ := Kd.FK_slice_open hMe390
       have hv390_0 := hcc390 0 _ rfl
       rw [Nat.add_zero, show ((Kd.slice 3 (Kd.int .i64))).sz = 1 from rfl, Nat.mul_one] at hv390_0
       replace hv390_0 := Option.some.inj (hv390_0.symm.trans hx390_0)
       injection hv390_0 with hva_ hvn_ hvc_
       rw [hva_] at ge390_0
       rw [hvc_] at ul390_0
       have HL390_0 := Aside0.mk (show Kd.V (Kd.int .i64) 3 _ w.heap.size _ _ (rd_L1 x8_1 x15_4) from Kd.V_mk ul390_0 ge390_0)
       clear hva_ hvn_ hvc_ ge390_0 ul390_0
       clear hcc390 hce390
       have HR390_0 := Aside0.mk hi390_0
       have HC390_0 := Aside0.mk hl390_0
       clear hi390_0 hl390_0
       replace p390 := eq_true p390
       replace q390 := eq_true q390
       have p391 : 0 ≤ (x16_5 : Int) := of_decide_eq_true qx16_1
       have q391 : x16_5 < ((rd_L1 x8_1 x15_4).length : Int) := of_decide_eq_true qx16_1
       obtain ⟨ad391, e391, hx391_0⟩ := Kd.at_int (by repeat (first | (with_reducible exact HR390_0.out) | (with_reducible refine Kd.C_alloc ?_ _) | (with_reducible refine Kd.C_drewN ?_ _) | (with_reducible refine Kd.C_drew ?_) | exact HR390_0.out)) x16_5 p391 q391
       cases e391
       replace p391 := eq_true p391
       replace q391 := eq_true q391
       obtain ⟨Ao58, co58, eo58⟩ := Kd.N_slice HO_14.out
       (first | subst eo58 | (injection eo58 with f1_ f2_ f3_; have f4_ := f1_.symm; have f5_ := f3_.symm; clear f1_ f2_ f3_; subst f4_; subst f5_))
       have p392 : 0 ≤ (x15_4 : Int) := of_decide_eq_true qx16_1
       have q392 : x15_4 < (x14_5.length : Int) := of_decide_eq_true qx16_1
       obtain ⟨ad392, A392_1, c392_1, e392, hx392_0, hx392_1, hl392_1, hi392_1⟩ := at_T74 (Kd.N_reads' HO_14.out).2.2 x15_4 p392 q392
       cases e392
       obtain ⟨ce392, hce392, hMe392, hcc392⟩ := Kd.N_get HO_14.out z74 x15_4 p392 (by first | exact q392 | exact of_decide_eq_true qx16_1 | (have e_ := (Kd.N_reads' HO_14.out).1; omega))
       obtain ⟨ua392_1, uc392_1, rfl, ul392_1, ge392_1⟩ := k74_openF hMe392
       have hv392_1 := hcc392 1 _ rfl
       rw [add_field _ _ 1 (by omega)] at hv392_1
       replace hv392_1 := Option.some.inj (hv392_1.symm.trans hx392_1)
       injection hv392_1 with hva_ hvn_ hvc_
       rw [hva_] at ge392_1
       rw [hvc_] at ul392_1
       have HL392_1 := Aside0.mk (show Kd.V (Kd.int .i64) 3 _ w.heap.size _ _ ((rd_T74 x14_5 x15_4).f1) from Kd.V_mk ul392_1 ge392_1)
       clear hva_ hvn_ hvc_ ge392_1 ul392_1
       clear hcc392 hce392
       have HR392_1 := Aside0.mk hi392_1
       have HC392_1 := Aside0.mk hl392_1
       clear hi392_1 hl392_1
       replace p392 := eq_true p392
       replace q392 := eq_true q392
       refine start_ (n := 24) (S := fun w' => w'.cell? (ad389.add ((x16_5).toNat * 2)) = some (.int .i64 ((rd_T74 x10_3 x16_5).f0)) ∧ w'.cell? ⟨(ad389.add ((x16_5).toNat * 2)).block, (ad389.add ((x16_5).toNat * 2)).off + 1, none⟩ = some (.slice A389_1 ((rd_T74 x10_3 x16_5).f1).length c389_1) ∧ w'.cell? (ad390.add (x15_4).toNat) = some (.slice (some ad391) (rd_L1 x8_1 x15_4).length c390_0) ∧ w'.cell? (ad391.add (x16_5).toNat) = some (.int .i64 (rd (rd_L1 x8_1 x15_4) x16_5)) ∧ w'.cell? (ad392.add ((x15_4).toNat * 2)) = some (.int .i64 ((rd_T74 x14_5 x15_4).f0)) ∧ w'.cell? ⟨(ad392.add ((x15_4).toNat * 2)).block, (ad392.add ((x15_4).toNat * 2)).off + 1, none⟩ = some (.slice A392_1 ((rd_T74 x14_5 x15_4).f1).length c392_1)) (ds := []) #[F16, F16, F16, F16, F16, F16, F16, F16, F16, F16, F16, F16, F16, F16, F16, F16, F16, F16, F16, F16, F16, F16, F16, F16] (by kernel_rfl) rfl rfl ⟨hx389_0, hx389_1, hx390_0, hx391_0, hx392_0, hx392_1⟩ (fun hHeld => ?_); refine with_tabW segmentation_Counts.tab28 segmentation_Counts.bits28 (fun HT_ HW_ => ?_)
       generalize wr.drew = w55 at HO_8 HO_10 HO_12 HO_14 HB HL389_1 HL390_0 HL392_1 HR389_1 HR390_0 HR392_1 hx389_0 hx389_1 hx390_0 hx391_0 hx392_0 hx392_1 hHeld ⊢
       refine pure_ (i := 0) (N := some 90) (v := ?_) (a' := ?_) #[T16, F16, F16, F16, F16, F16, F16, F16, F16, F16, F16, F16, F16, F16, F16, F16, F16, F16, F16, F16, F16, F16, F16, F16] rfl rfl (any_of HT_.out (by kernel_rfl)) (fun _ _ _ h => h) (Or.inl ⟨by rfl, ?_⟩) ?_ ?_
       rotate_left
       ·intro w'
        go_simp
        with_reducible rfl
       rotate_left
       ·simp only [Act.put, List.setIfInBounds_toArray, List.set_cons_zero, List.set_cons_succ, i64_w, i32_w]
        rfl
       refine pure_ (i := 1) (N := some 91) (v := ?_) (a' := ?_) #[T16, T16, F16, F16, F16, F16, F16, F16, F16, F16, F16, F16, F16, F16, F16, F16, F16, F16, F16, F16, F16, F16, F16, F16] rfl rfl (any_of HT_.out (by kernel_rfl)) (fun _ _ _ h => h) (Or.inl ⟨by rfl, ?_⟩) ?_ ?_
       rotate_left
       ·intro w'
        go_simp
        with_reducible rfl
       rotate_left
       ·simp only [Act.put, List.setIfInBounds_toArray, List.set_cons_zero, List.set_cons_succ, i64_w, i32_w]
        rfl
       refine pure_ (i := 2) (N := some 92) (v := ?_) (a' := ?_) #[T16, T16, T16, F16, F16, F16, F16, F16, F16, F16, F16, F16, F16, F16, F16, F16, F16, F16, F16, F16, F16, F16, F16, F16] rfl rfl (any_of HT_.out (by kernel_rfl)) (fun _ _ _ h => h) (Or.inl ⟨by rfl, ?_⟩) ?_ ?_
       rotate_left
       ·intro w'
        go_simp
        with_reducible rfl
       rotate_left
       ·simp only [Act.put, List.setIfInBounds_toArray, List.set_cons_zero, List.set_cons_succ, i64_w, i32_w]
        rfl
       refine pure_ (i := 3) (N := some 93) (v := ?_) (a' := ?_) #[T16, T16, T16, T16, F16, F16, F16, F16, F16, F16, F16, F16, F16, F16, F16, F16, F16, F16, F16, F16, F16, F16, F16, F16] rfl rfl (any_of HT_.out (by kernel_rfl)) (fun _ _ _ h => h) (Or.inl ⟨by rfl, ?_⟩) ?_ ?_
       rotate_left
       ·intro w'
        go_simp
        with_reducible rfl
       rotate_left
       ·simp only [Act.put, List.setIfInBounds_toArray, List.set_cons_zero, List.set_cons_succ, i64_w, i32_w]
        rfl
       refine pure_ (i := 4) (N := some 94) (v := ?_) (a' := ?_) #[T16, T16, T16, T16, T16, F16, F16, F16, F16, F16, F16, F16, F16, F16, F16, F16, F16, F16, F16, F16, F16, F16, F16, F16] rfl rfl (any_of HT_.out (by kernel_rfl)) (fun _ _ _ h => h) (Or.inl ⟨by rfl, ?_⟩) ?_ ?_
       rotate_left
       ·intro w'
        go_simp
        with_reducible rfl
       rotate_left
       ·simp only [Act.put, List.setIfInBounds_toArray, List.set_cons_zero, List.set_cons_succ, i64_w, i32_w]
        rfl
       refine pure_ (i := 5) (N := some 95) (v := ?_) (a' := ?_) #[T16, T16, T16, T16, T16, T16, F16, F16, F16, F16, F16, F16, F16, F16, F16, F16, F16, F16, F16, F16, F16, F16, F16, F16] rfl rfl (any_of HT_.out (by kernel_rfl)) (fun _ _ _ h => h) (Or.inl ⟨by rfl, ?_⟩) ?_ ?_
       rotate_left
       ·intro w'
        go_simp
        with_reducible rfl
       rotate_left
       ·simp only [Act.put, List.setIfInBounds_toArray, List.set_cons_zero, List.set_cons_succ, i64_w, i32_w]
        rfl
       refine pure_ (i := 6) (N := some 96) (v := ?_) (a' := ?_) #[T16, T16, T16, T16, T16, T16, T16, F16, F16, F16, F16, F16, F16, F16, F16, F16, F16, F16, F16, F16, F16, F16, F16, F16] rfl rfl (any_of HT_.out (by kernel_rfl)) (fun _ _ _ h => h) (Or.inl ⟨by rfl, ?_⟩) ?_ ?_
       rotate_left
       ·intro w'
        go_simp
        with_reducible rfl
       rotate_left
       ·simp only [Act.put, List.setIfInBounds_toArray, List.set_cons_zero, List.set_cons_succ, i64_w, i32_w]
        rfl
       refine pure_ (i := 7) (N := some 97) (v := ?_) (a' := ?_) #[T16, T16, T16, T16, T16, T16, T16, T16, F16, F16, F16, F16, F16, F16, F16, F16, F16, F16, F16, F16, F16, F16, F16, F16] rfl rfl (any_of HT_.out (by kernel_rfl)) (fun _ _ _ h => h) (Or.inl ⟨by rfl, ?_⟩) ?_ ?_
       rotate_left
       ·intro w'
        go_simp
        with_reducible rfl
       rotate_left
       ·simp only [Act.put, List.setIfInBounds_toArray, List.set_cons_zero, List.set_cons_succ, i64_w, i32_w]
        rfl
       refine pure_ (i := 9) (N := some 99) (v := ?_) (a' := ?_) #[T16, T16, T16, T16, T16, T16, T16, T16, F16, T16, F16, F16, F16, F16, F16, F16, F16, F16, F16, F16, F16, F16, F16, F16] rfl rfl (any_of HT_.out (by kernel_rfl)) (fun _ _ _ h => h) (Or.inl ⟨by rfl, ?_⟩) ?_ ?_
       rotate_left
       ·intro w'
        go_simp
        with_reducible rfl
       rotate_left
       ·simp only [Act.put, List.setIfInBounds_toArray, List.set_cons_zero, List.set_cons_succ, i64_w, i32_w]
        rfl
       refine pure_ (i := 10) (N := some 100) (v := ?_) (a' := ?_) #[T16, T16, T16, T16, T16, T16, T16, T16, F16, T16, T16, F16, F16, F16, F16, F16, F16, F16, F16, F16, F16, F16, F16, F16] rfl rfl (any_of HT_.out (by kernel_rfl)) (fun _ _ _ h => h) (Or.inl ⟨by rfl, ?_⟩) ?_ ?_
       rotate_left
       ·intro w'
        go_simp
        with_reducible rfl
       rotate_left
       ·simp only [Act.put, List.setIfInBounds_toArray, List.set_cons_zero, List.set_cons_succ, i64_w, i32_w]
        rfl
       refine pure_ (i := 11) (N := some 101) (v := ?_) (a' := ?_) #[T16, T16, T16, T16, T16, T16, T16, T16, F16, T16, T16, T16, F16, F16, F16, F16, F16, F16, F16, F16, F16, F16, F16, F16] rfl rfl (any_of HT_.out (by kernel_rfl)) (fun _ _ _ h => h) (Or.inl ⟨by rfl, ?_⟩) ?_ ?_
       rotate_left
       ·intro w'
        go_simp
        with_reducible rfl
       rotate_left
       ·simp only [Act.put, List.setIfInBounds_toArray, List.set_cons_zero, List.set_cons_succ, i64_w, i32_w]
        rfl
       refine pure_ (i := 13) (N := some 103) (v := ?_) (a' := ?_) #[T16, T16, T16, T16, T16, T16, T16, T16, F16, T16, T16, T16, F16, T16, F16, F16, F16, F16, F16, F16, F16, F16, F16, F16] rfl rfl (any_of HT_.out (by kernel_rfl)) (fun _ _ _ h => h) (Or.inl ⟨by rfl, ?_⟩) ?_ ?_
       rotate_left
       ·intro w'
        go_simp
        with_reducible rfl
       rotate_left
       ·simp only [Act.put, List.setIfInBounds_toArray, List.set_cons_zero, List.set_cons_succ, i64_w, i32_w]
        rfl
       refine pure_ (i := 17) (N := some 107) (v := ?_) (a' := ?_) #[T16, T16, T16, T16, T16, T16, T16, T16, F16, T16, T16, T16, F16, T16, F16, F16, F16, T16, F16, F16, F16, F16, F16, F16] rfl rfl (any_of HT_.out (by kernel_rfl)) (fun _ _ _ h => h) (Or.inl ⟨by rfl, ?_⟩) ?_ ?_
       rotate_left
       ·intro w'
        go_simp
        with_reducible rfl
       rotate_left
       ·simp only [Act.put, List.setIfInBounds_toArray, List.set_cons_zero, List.set_cons_succ, i64_w, i32_w]
        rfl
       refine pure_ (i := 18) (N := some 108) (v := ?_) (a' := ?_) #[T16, T16, T16, T16, T16, T16, T16, T16, F16, T16, T16, T16, F16, T16, F16, F16, F16, T16, T16, F16, F16, F16, F16, F16] rfl rfl (any_of HT_.out (by kernel_rfl)) (fun _ _ _ h => h) (Or.inl ⟨by rfl, ?_⟩) ?_ ?_
       rotate_left
       ·intro w'
        go_simp
        with_reducible rfl
       rotate_left
       ·simp only [Act.put, List.setIfInBounds_toArray, List.set_cons_zero, List.set_cons_succ, i64_w, i32_w]
        rfl
       refine pure_ (i := 19) (N := some 109) (v := ?_) (a' := ?_) #[T16, T16, T16, T16, T16, T16, T16, T16, F16, T16, T16, T16, F16, T16, F16, F16, F16, T16, T16, T16, F16, F16, F16, F16] rfl rfl (any_of HT_.out (by kernel_rfl)) (fun _ _ _ h => h) (Or.inl ⟨by rfl, ?_⟩) ?_ ?_
       rotate_left
       ·intro w'
        go_simp
        with_reducible rfl
       rotate_left
       ·simp only [Act.put, List.setIfInBounds_toArray, List.set_cons_zero, List.set_cons_succ, i64_w, i32_w]
        rfl
       refine pure_ (i := 20) (N := some 110) (v := ?_) (a' := ?_) #[T16, T16, T16, T16, T16, T16, T16, T16, F16, T16, T16, T16, F16, T16, F16, F16, F16, T16, T16, T16, T16, F16, F16, F16] rfl rfl (any_of HT_.out (by kernel_rfl)) (fun _ _ _ h => h) (Or.inl ⟨by rfl, ?_⟩) ?_ ?_
       rotate_left
       ·intro w'
        go_simp
        with_reducible rfl
       rotate_left
       ·simp only [Act.put, List.setIfInBounds_toArray, List.set_cons_zero, List.set_cons_succ, i64_w, i32_w]
        rfl
       refine take_ (i := 8) (N := some 98) (v := ?_) (a' := ?_) #[T16, T16, T16, T16, T16, T16, T16, T16, T16, T16, T16, T16, F16, T16, F16, F16, F16, T16, T16, T16, T16, F16, F16, F16] rfl rfl (take_ofW HT_.out HW_.out (by kernel_rfl)) (fun _ _ _ h => h) (Or.inl ⟨by rfl, ?_⟩) hHeld ?_ ?_
       rotate_left
       ·rintro w' ⟨s0, s1, s2, s3, s4, s5⟩
        go_simp
        with_reducible rfl
       rotate_left
       ·simp only [Act.put, List.setIfInBounds_toArray, List.set_cons_zero, List.set_cons_succ, i64_w, i32_w]
        rfl
       refine take_ (i := 12) (N := some 102) (v := ?_) (a' := ?_) #[T16, T16, T16, T16, T16, T16, T16, T16, T16, T16, T16, T16, T16, T16, F16, F16, F16, T16, T16, T16, T16, F16, F16, F16] rfl rfl (take_ofW HT_.out HW_.out (by kernel_rfl)) (fun _ _ _ h => h) (Or.inl ⟨by rfl, ?_⟩) hHeld ?_ ?_
       rotate_left
       ·rintro w' ⟨s0, s1, s2, s3, s4, s5⟩
        go_simp
        with_reducible rfl
       rotate_left
       ·simp only [Act.put, List.setIfInBounds_toArray, List.set_cons_zero, List.set_cons_succ, i64_w, i32_w]
        rfl
       refine pure_ (i := 14) (N := some 104) (v := ?_) (a' := ?_) #[T16, T16, T16, T16, T16, T16, T16, T16, T16, T16, T16, T16, T16, T16, T16, F16, F16, T16, T16, T16, T16, F16, F16, F16] rfl rfl (any_of HT_.out (by kernel_rfl)) (fun _ _ _ h => h) (Or.inl ⟨by rfl, ?_⟩) ?_ ?_
       rotate_left
       ·intro w'
        go_simp
        with_reducible rfl
       rotate_left
       ·simp only [Act.put, List.setIfInBounds_toArray, List.set_cons_zero, List.set_cons_succ, i64_w, i32_w]
        rfl
       refine take_ (i := 15) (N := some 105) (v := ?_) (a' := ?_) #[T16, T16, T16, T16, T16, T16, T16, T16, T16, T16, T16, T16, T16, T16, T16, T16, F16, T16, T16, T16, T16, F16, F16, F16] rfl rfl (take_ofW HT_.out HW_.out (by kernel_rfl)) (fun _ _ _ h => h) (Or.inl ⟨by rfl, ?_⟩) hHeld ?_ ?_
       rotate_left
       ·rintro w' ⟨s0, s1, s2, s3, s4, s5⟩
        go_simp
        with_reducible rfl
       rotate_left
       ·simp only [Act.put, List.setIfInBounds_toArray, List.set_cons_zero, List.set_cons_succ, i64_w, i32_w]
        rfl
       refine pure_ (i := 16) (N := some 106) (v := ?_) (a' := ?_) #[T16, T16, T16, T16, T16, T16, T16, T16, T16, T16, T16, T16, T16, T16, T16, T16, T16, T16, T16, T16, T16, F16, F16, F16] rfl rfl (any_of HT_.out (by kernel_rfl)) (fun _ _ _ h => h) (Or.inl ⟨by rfl, ?_⟩) ?_ ?_
       rotate_left
       ·intro w'
        go_simp
        with_reducible rfl
       rotate_left
       ·simp only [Act.put, List.setIfInBounds_toArray, List.set_cons_zero, List.set_cons_succ, i64_w, i32_w]
        rfl
       refine take_ (i := 21) (N := some 111) (v := ?_) (a' := ?_) #[T16, T16, T16, T16, T16, T16, T16, T16, T16, T16, T16, T16, T16, T16, T16, T16, T16, T16, T16, T16, T16, T16, F16, F16] rfl rfl (take_ofW HT_.out HW_.out (by kernel_rfl)) (fun _ _ _ h => h) (Or.inl ⟨by rfl, ?_⟩) hHeld ?_ ?_
       rotate_left
       ·rintro w' ⟨s0, s1, s2, s3, s4, s5⟩
        go_simp
        with_reducible rfl
       rotate_left
       ·simp only [Act.put, List.setIfInBounds_toArray, List.set_cons_zero, List.set_cons_succ, i64_w, i32_w]
        rfl
       refine pure_ (i := 22) (N := some 112) (v := ?_) (a' := ?_) #[T16, T16, T16, T16, T16, T16, T16, T16, T16, T16, T16, T16, T16, T16, T16, T16, T16, T16, T16, T16, T16, T16, T16, F16] rfl rfl (any_of HT_.out (by kernel_rfl)) (fun _ _ _ h => h) (Or.inl ⟨by rfl, ?_⟩) ?_ ?_
       rotate_left
       ·intro w'
        go_simp
        with_reducible rfl
       rotate_left
       ·simp only [Act.put, List.setIfInBounds_toArray, List.set_cons_zero, List.set_cons_succ, i64_w, i32_w]
        rfl
       refine pure_ (i := 23) (N := some 113) (v := ?_) (a' := ?_) #[T16, T16, T16, T16, T16, T16, T16, T16, T16, T16, T16, T16, T16, T16, T16, T16, T16, T16, T16, T16, T16, T16, T16, T16] rfl rfl (any_of HT_.out (by kernel_rfl)) (fun _ _ _ h => h) (Or.inl ⟨by rfl, ?_⟩) ?_ ?_
       rotate_left
       ·intro w'
        go_simp
        with_reducible rfl
       rotate_left
       ·simp only [Act.put, List.setIfInBounds_toArray, List.set_cons_zero, List.set_cons_succ, i64_w, i32_w]
        rfl
       refine done_ (done_of HT_.out (by kernel_rfl)) ?_
       try go_wp2
       go_meet
       case rel => exact ⟨_, (decide ((wrap64 (((rd_T74 x10_3 x16_5).f0) + (rd (rd_L1 x8_1 x15_4) x16_5))) > ((rd_T74 x14_5 x15_4).f0))), qx16_11, H', ⟨by have := HK1.out; have := HK2.out; have := HK3.out; have := HK4.out; have := HK5.out; first | omega | exact Nat.le_refl _⟩, ⟨qx16_2⟩, ⟨qx16_3⟩, ⟨qx16_5⟩, ⟨qx16_6⟩, ⟨qx16_0⟩⟩
      clear HC47
      try clear c1
      try clear p1
      try clear q1
      try clear hx1
      try clear c2
      try clear p2
      try clear q2
      try clear hx2
      try clear hf2
      try clear c3
      try clear p3
      try clear q3
      try clear hx3
      try clear qi3
      try clear hf3
      try clear c4
      try clear c4b0
      try clear c4b1
      try clear c5
      try clear c5b0
      try clear p6
      try clear c7
      try clear c7b0
      try clear c7b1
      try clear c8
      try clear c8b0
      try clear c8b1
      try clear c11
      try clear c11b0
      try clear c13
      try clear c13b0
      try clear c14
      try clear c14b0
      try clear c15
      try clear p15
      try clear q15
      try clear hx15
      try clear hf15
      try clear c17
      try clear hx17
      try clear hf17
      try clear c20
      try clear c20b0
      try clear c20b1
      try clear c21
      try clear c21b0
      try clear c21b1
      try clear c24
      try clear c24b0
      try clear c25
      try clear c25b0
      try clear c26
      try clear c26b0
      try clear c27
      try clear c27b0
      try clear c27b1
      try clear c28
      try clear c28b0
      try clear c29
      try clear p29
      try clear q29
      try clear hx29
      try clear hf29
      try clear c31
      try clear hx31
      try clear hf31
      try clear c33
      try clear c33b0
      try clear c33b1
      try clear c34
      try clear c34b0
      try clear c34b1
      try clear c35
      try clear c36
      try clear c37
      try clear p37
      try clear q37
      try clear hx37
      try clear qi37
      try clear c38
      try clear p38
      try clear q38
      try clear hx38
      try clear c39
      try clear c39b0
      try clear p39
      try clear q39
      try clear hx39
      try clear c40
      try clear c41
      try clear c41b0
      try clear c41b1
      try clear c42
      try clear c42b0
      try clear c42b1
      try clear c45
      try clear c45b0
      try clear c46
      try clear c46b0
      try clear c48
      try clear c48b0
      try clear c49
      try clear c49b0
      try clear c50
      try clear c50b0
      try clear c51
      try clear c51b0
      try clear c52
      try clear c52b0
      try clear c53
      try clear c53b0
      try clear c54
      try clear c54b0
      try clear hx15_0
      try clear hx17_0
      try clear hx29_0
      try clear hx29_1
      try clear hx31_0
      try clear hx31_1
      try clear hx371_0
      try clear hx372_0
      try clear hx374_0
      try clear hx374_1
      try clear hx389_0
      try clear hx389_1
      try clear hx390_0
      try clear hx391_0
      try clear hx392_0
      try clear hx392_1
      try clear p1
      try clear p15
      try clear p2
      try clear p29
      try clear p3
      try clear p37
      try clear p371
      try clear p372
      try clear p374
      try clear p389
      try clear p390
      try clear p391
      try clear p392
      try clear p6
      try clear q1
      try clear q15
      try clear q2
      try clear q29
      try clear q3
      try clear q37
      try clear q371
      try clear q372
      try clear q374
      try clear q389
      try clear q390
      try clear q391
      try clear q392
      obtain ⟨kq, x113_46, rfl, HA, HJ46, HO_8, HO_10, HO_12, HO_14, HB⟩ := hcut
      cases kq with
      | zero => exact absurd HA.out (by simp [segmentation_Counts.j5])
      | succ kj46 =>
       have H := HA.out
       clear HA
       simp only [segmentation_Counts.j5] at H
       by_cases c60 : x113_46 = true
       ·subst c60
        have H1 : (segmentation_Counts.l4 kj46 a1 (l0.length : Int) x8_1 x10_3 x12_3 x13_3 x14_5 x15_4 (wrap64 (x16_5 + 1))) = some (r1, r2) := by rw [if_pos rfl] at H; exact H
        clear H
        have H := H1
        clear H1
        have H' := Aside0.mk H
        clear H
        go_wp2
        go_roundg kj46
        case measure => have := HK1.out; have := HK2.out; have := HK3.out; have := HK4.out; have := HK5.out; have := HJ46.out; omega
        case rel => exact ⟨(x14_5), (wrap64 (x16_5 + 1)), qx16_11, H', ⟨by have := HK1.out; have := HK2.out; have := HK3.out; have := HK4.out; have := HK5.out; have := HJ46.out; omega⟩, ⟨qx16_2⟩, ⟨qx16_3⟩, ⟨qx16_5⟩, ⟨qx16_6⟩, ⟨qx16_0⟩⟩
       replace c60 := Bool.eq_false_iff.mpr c60
       subst c60
       have H1 : (if 0 ≤ x16_5 then (if x16_5 < (x10_3.length : Int) then (if 0 ≤ x15_4 then (if x15_4 < (x8_1.length : Int) then (if x16_5 < ((rd_L1 x8_1 x15_4).length : Int) then ((segmentation_best_after.f ((rd_T74 x10_3 x16_5).f0) ((rd_T74 x10_3 x16_5).f1) x16_5 (rd (rd_L1 x8_1 x15_4) x16_5)).bind fun bt396 => (if x16_5 = x13_3 then (segmentation_Counts.j6 kj46 a1 (l0.length : Int) x8_1 x10_3 x12_3 x13_3 x14_5 x15_4 x16_5 true bt396.1 bt396.2) else (if x15_4 < (x14_5.length : Int) then ((segmentation_best_better.f kj46 bt396.1 bt396.2 ((rd_T74 x14_5 x15_4).f0) ((rd_T74 x14_5 x15_4).f1)).bind fun t402 => (segmentation_Counts.j6 kj46 a1 (l0.length : Int) x8_1 x10_3 x12_3 x13_3 x14_5 x15_4 x16_5 t402 bt396.1 bt396.2)) else (none)))) else (none)) else (none)) else (none)) else (none)) else (none)) = some (r1, r2) := by rw [if_neg (show ¬ (false = true) by decide)] at H; exact H
       clear H
       have H := H1
       clear H1
       by_cases c61 : 0 ≤ x16_5
       rotate_left
       ·rw [if_neg c61] at H
        exact absurd H (by simp)
       rw [if_pos c61] at H
       have c61b0 : decide (0 ≤ x16_5) = true := decide_eq_true c61
       clear c61
       by_cases c62 : x16_5 < (x10_3.length : Int)
       rotate_left
       ·rw [if_neg c62] at H
        exact absurd H (by simp)
       rw [if_pos c62] at H
       have c62b0 : decide (x16_5 < (x10_3.length : Int)) = true := decide_eq_true c62
       clear c62
       by_cases c63 : 0 ≤ x15_4
       rotate_left
       ·rw [if_neg c63] at H
        exact absurd H (by simp)
       rw [if_pos c63] at H
       have c63b0 : decide (0 ≤ x15_4) = true := decide_eq_true c63
       clear c63
       by_cases c64 : x15_4 < (x8_1.length : Int)
       rotate_left
       ·rw [if_neg c64] at H
        exact absurd H (by simp)
       rw [if_pos c64] at H
       have c64b0 : decide (x15_4 < (x8_1.length : Int)) = true := decide_eq_true c64
       clear c64
       by_cases c65 : x16_5 < ((rd_L1 x8_1 x15_4).length : Int)
       rotate_left
       ·rw [if_neg c65] at H
        exact absurd H (by simp)
       rw [if_pos c65] at H
       have c65b0 : decide (x16_5 < ((rd_L1 x8_1 x15_4).length : Int)) = true := decide_eq_true c65
       clear c65
       replace H := Option.bind_eq_some_iff.mp H
       obtain ⟨⟨t396, t397⟩, A660, H⟩ := H
       replace H : (if x16_5 = x13_3 then (segmentation_Counts.j6 kj46 a1 (l0.length : Int) x8_1 x10_3 x12_3 x13_3 x14_5 x15_4 x16_5 true t396 t397) else (if x15_4 < (x14_5.length : Int) then ((segmentation_best_better.f kj46 t396 t397 ((rd_T74 x14_5 x15_4).f0) ((rd_T74 x14_5 x15_4).f1)).bind fun t402 => (segmentation_Counts.j6 kj46 a1 (l0.length : Int) x8_1 x10_3 x12_3 x13_3 x14_5 x15_4 x16_5 t402 t396 t397)) else (none))) = some (r1, r2) := H
       have A66 := Aside0.mk A660
       clear A660
       have HC67 := Aside0.mk H
       clear H
       try go_wp2
       have n0_ := Aside0.mk (Kd.N_drew HO_8.out)
       have n1_ := Aside0.mk (Kd.N_drew HO_10.out)
       have n2_ := Aside0.mk (Kd.N_drew HO_12.out)
       have n3_ := Aside0.mk (Kd.N_drew HO_14.out)
       have n4_ := Aside0.mk (below_drew1 HB.out)
       clear HO_8
       clear HO_10
       clear HO_12
       clear HO_14
       clear HB
       have HO_8 := n0_
       have HO_10 := n1_
       have HO_12 := n2_
       have HO_14 := n3_
       have HB := n4_
       clear n0_ n1_ n2_ n3_ n4_
       obtain ⟨Ao69, co69, eo69⟩ := Kd.N_slice HO_10.out
       (first | subst eo69 | (injection eo69 with f1_ f2_ f3_; have f4_ := f1_.symm; have f5_ := f3_.symm; clear f1_ f2_ f3_; subst f4_; subst f5_))
       have p393 : 0 ≤ (x16_5 : Int) := of_decide_eq_true qx16_1
       have q393 : x16_5 < (x10_3.length : Int) := of_decide_eq_true qx16_1
       obtain ⟨ad393, A393_1, c393_1, e393, hx393_0, hx393_1, hl393_1, hi393_1⟩ := at_T74 (Kd.N_reads' HO_10.out).2.2 x16_5 p393 q393
       cases e393
       obtain ⟨ce393, hce393, hMe393, hcc393⟩ := Kd.N_get HO_10.out z74 x16_5 p393 (by first | exact q393 | exact of_decide_eq_true qx16_1 | (have e_ := (Kd.N_reads' HO_10.out).1; omega))
       obtain ⟨ua393_1, uc393_1, rfl, ul393_1, ge393_1⟩ := k74_openF hMe393
       have hv393_1 := hcc393 1 _ rfl
       rw [add_field _ _ 1 (by omega)] at hv393_1
       replace hv393_1 := Option.some.inj (hv393_1.symm.trans hx393_1)
       injection hv393_1 with hva_ hvn_ hvc_
       rw [hva_] at ge393_1
       rw [hvc_] at ul393_1
       have HL393_1 := Aside0.mk (show Kd.V (Kd.int .i64) 3 _ w.heap.size _ _ ((rd_T74 x10_3 x16_5).f1) from Kd.V_mk ul393_1 ge393_1)
       clear hva_ hvn_ hvc_ ge393_1 ul393_1
       clear hcc393 hce393
       have HR393_1 := Aside0.mk hi393_1
       have HC393_1 := Aside0.mk hl393_1
       clear hi393_1 hl393_1
       replace p393 := eq_true p393
       replace q393 := eq_true q393
       obtain ⟨Ao70, co70, eo70⟩ := Kd.N_slice HO_8.out
       (first | subst eo70 | (injection eo70 with f1_ f2_ f3_; have f4_ := f1_.symm; have f5_ := f3_.symm; clear f1_ f2_ f3_; subst f4_; subst f5_))
       have p394 : 0 ≤ (x15_4 : Int) := of_decide_eq_true qx16_1
       have q394 : x15_4 < (x8_1.length : Int) := of_decide_eq_true qx16_1
       obtain ⟨ad394, A394_0, c394_0, e394, hx394_0, hl394_0, hi394_0⟩ := at_L1 (Kd.N_reads' HO_8.out).2.2 x15_4 p394 q394
       cases e394
       obtain ⟨ce394, hce394, hMe394, hcc394⟩ := Kd.N_get HO_8.out [] x15_4 p394 (by first | exact q394 | exact of_decide_eq_true qx16_1 | (have e_ := (Kd.N_reads' HO_8.out).1; omega))
       obtain ⟨ua394_0, uc394_0, rfl, ul394_0, ge394_0⟩ := Kd.FK_slice_open hMe394
       have hv394_0 := hcc394 0 _ rfl
       rw [Nat.add_zero, show ((Kd.slice 3 (Kd.int .i64))).sz = 1 from rfl, Nat.mul_one] at hv394_0
       replace hv394_0 := Option.some.inj (hv394_0.symm.trans hx394_0)
       injection hv394_0 with hva_ hvn_ hvc_
       rw [hva_] at ge394_0
       rw [hvc_] at ul394_0
       have HL394_0 := Aside0.mk (show Kd.V (Kd.int .i64) 3 _ w.heap.size _ _ (rd_L1 x8_1 x15_4) from Kd.V_mk ul394_0 ge394_0)
       clear hva_ hvn_ hvc_ ge394_0 ul394_0
       clear hcc394 hce394
       have HR394_0 := Aside0.mk hi394_0
       have HC394_0 := Aside0.mk hl394_0
       clear hi394_0 hl394_0
       replace p394 := eq_true p394
       replace q394 := eq_true q394
       have p395 : 0 ≤ (x16_5 : Int) := of_decide_eq_true qx16_1
       have q395 : x16_5 < ((rd_L1 x8_1 x15_4).length : Int) := of_decide_eq_true qx16_1
       obtain ⟨ad395, e395, hx395_0⟩ := Kd.at_int qx16_10 x16_5 p395 q395
       cases e395
       replace p395 := eq_true p395
       replace q395 := eq_true q395
       refine start_ (n := 15) (S := fun w' => w'.cell? (ad393.add ((x16_5).toNat * 2)) = some (.int .i64 ((rd_T74 x10_3 x16_5).f0)) ∧ w'.cell? ⟨(ad393.add ((x16_5).toNat * 2)).block, (ad393.add ((x16_5).toNat * 2)).off + 1, none⟩ = some (.slice A393_1 ((rd_T74 x10_3 x16_5).f1).length c393_1) ∧ w'.cell? (ad394.add (x15_4).toNat) = some (.slice (some ad395) (rd_L1 x8_1 x15_4).length c394_0) ∧ w'.cell? (ad395.add (x16_5).toNat) = some (.int .i64 (rd (rd_L1 x8_1 x15_4) x16_5))) (ds := []) #[F16, F16, F16, F16, F16, F16, F16, F16, F16, F16, F16, F16, F16, F16, F16] (by kernel_rfl) rfl rfl ⟨hx393_0, hx393_1, hx394_0, hx395_0⟩ (fun hHeld => ?_); refine with_tabW segmentation_Counts.tab29 segmentation_Counts.bits29 (fun HT_ HW_ => ?_)
       generalize wc.drew = w68 at HO_8 HO_10 HO_12 HO_14 HB HL393_1 HL394_0 HR393_1 HR394_0 hx393_0 hx393_1 hx394_0 hx395_0 hHeld ⊢
       refine pure_ (i := 0) (N := some 114) (v := ?_) (a' := ?_) #[T16, F16, F16, F16, F16, F16, F16, F16, F16, F16, F16, F16, F16, F16, F16] rfl rfl (any_of HT_.out (by kernel_rfl)) (fun _ _ _ h => h) (Or.inl ⟨by rfl, ?_⟩) ?_ ?_
       rotate_left
       ·intro w'
        go_simp
        with_reducible rfl
       rotate_left
       ·simp only [Act.put, List.setIfInBounds_toArray, List.set_cons_zero, List.set_cons_succ, i64_w, i32_w]
        rfl
       refine pure_ (i := 1) (N := some 115) (v := ?_) (a' := ?_) #[T16, T16, F16, F16, F16, F16, F16, F16, F16, F16, F16, F16, F16, F16, F16] rfl rfl (any_of HT_.out (by kernel_rfl)) (fun _ _ _ h => h) (Or.inl ⟨by rfl, ?_⟩) ?_ ?_
       rotate_left
       ·intro w'
        go_simp
        with_reducible rfl
       rotate_left
       ·simp only [Act.put, List.setIfInBounds_toArray, List.set_cons_zero, List.set_cons_succ, i64_w, i32_w]
        rfl
       refine pure_ (i := 2) (N := some 116) (v := ?_) (a' := ?_) #[T16, T16, T16, F16, F16, F16, F16, F16, F16, F16, F16, F16, F16, F16, F16] rfl rfl (any_of HT_.out (by kernel_rfl)) (fun _ _ _ h => h) (Or.inl ⟨by rfl, ?_⟩) ?_ ?_
       rotate_left
       ·intro w'
        go_simp
        with_reducible rfl
       rotate_left
       ·simp only [Act.put, List.setIfInBounds_toArray, List.set_cons_zero, List.set_cons_succ, i64_w, i32_w]
        rfl
       refine pure_ (i := 4) (N := some 118) (v := ?_) (a' := ?_) #[T16, T16, T16, F16, T16, F16, F16, F16, F16, F16, F16, F16, F16, F16, F16] rfl rfl (any_of HT_.out (by kernel_rfl)) (fun _ _ _ h => h) (Or.inl ⟨by rfl, ?_⟩) ?_ ?_
       rotate_left
       ·intro w'
        go_simp
        with_reducible rfl
       rotate_left
       ·simp only [Act.put, List.setIfInBounds_toArray, List.set_cons_zero, List.set_cons_succ, i64_w, i32_w]
        rfl
       refine pure_ (i := 5) (N := some 119) (v := ?_) (a' := ?_) #[T16, T16, T16, F16, T16, T16, F16, F16, F16, F16, F16, F16, F16, F16, F16] rfl rfl (any_of HT_.out (by kernel_rfl)) (fun _ _ _ h => h) (Or.inl ⟨by rfl, ?_⟩) ?_ ?_
       rotate_left
       ·intro w'
        go_simp
        with_reducible rfl
       rotate_left
       ·simp only [Act.put, List.setIfInBounds_toArray, List.set_cons_zero, List.set_cons_succ, i64_w, i32_w]
        rfl
       refine pure_ (i := 6) (N := some 120) (v := ?_) (a' := ?_) #[T16, T16, T16, F16, T16, T16, T16, F16, F16, F16, F16, F16, F16, F16, F16] rfl rfl (any_of HT_.out (by kernel_rfl)) (fun _ _ _ h => h) (Or.inl ⟨by rfl, ?_⟩) ?_ ?_
       rotate_left
       ·intro w'
        go_simp
        with_reducible rfl
       rotate_left
       ·simp only [Act.put, List.setIfInBounds_toArray, List.set_cons_zero, List.set_cons_succ, i64_w, i32_w]
        rfl
       refine pure_ (i := 7) (N := some 121) (v := ?_) (a' := ?_) #[T16, T16, T16, F16, T16, T16, T16, T16, F16, F16, F16, F16, F16, F16, F16] rfl rfl (any_of HT_.out (by kernel_rfl)) (fun _ _ _ h => h) (Or.inl ⟨by rfl, ?_⟩) ?_ ?_
       rotate_left
       ·intro w'
        go_simp
        with_reducible rfl
       rotate_left
       ·simp only [Act.put, List.setIfInBounds_toArray, List.set_cons_zero, List.set_cons_succ, i64_w, i32_w]
        rfl
       refine pure_ (i := 9) (N := some 123) (v := ?_) (a' := ?_) #[T16, T16, T16, F16, T16, T16, T16, T16, F16, T16, F16, F16, F16, F16, F16] rfl rfl (any_of HT_.out (by kernel_rfl)) (fun _ _ _ h => h) (Or.inl ⟨by rfl, ?_⟩) ?_ ?_
       rotate_left
       ·intro w'
        go_simp
        with_reducible rfl
       rotate_left
       ·simp only [Act.put, List.setIfInBounds_toArray, List.set_cons_zero, List.set_cons_succ, i64_w, i32_w]
        rfl
       refine take_ (i := 3) (N := some 117) (v := ?_) (a' := ?_) #[T16, T16, T16, T16, T16, T16, T16, T16, F16, T16, F16, F16, F16, F16, F16] rfl rfl (take_ofW HT_.out HW_.out (by kernel_rfl)) (fun _ _ _ h => h) (Or.inl ⟨by rfl, ?_⟩) hHeld ?_ ?_
       rotate_left
       ·rintro w' ⟨s0, s1, s2, s3⟩
        go_simp
        with_reducible rfl
       rotate_left
       ·simp only [Act.put, List.setIfInBounds_toArray, List.set_cons_zero, List.set_cons_succ, i64_w, i32_w]
        rfl
       refine take_ (i := 8) (N := some 122) (v := ?_) (a' := ?_) #[T16, T16, T16, T16, T16, T16, T16, T16, T16, T16, F16, F16, F16, F16, F16] rfl rfl (take_ofW HT_.out HW_.out (by kernel_rfl)) (fun _ _ _ h => h) (Or.inl ⟨by rfl, ?_⟩) hHeld ?_ ?_
       rotate_left
       ·rintro w' ⟨s0, s1, s2, s3⟩
        go_simp
        with_reducible rfl
       rotate_left
       ·simp only [Act.put, List.setIfInBounds_toArray, List.set_cons_zero, List.set_cons_succ, i64_w, i32_w]
        rfl
       refine pure_ (i := 10) (N := some 124) (v := ?_) (a' := ?_) #[T16, T16, T16, T16, T16, T16, T16, T16, T16, T16, T16, F16, F16, F16, F16] rfl rfl (any_of HT_.out (by kernel_rfl)) (fun _ _ _ h => h) (Or.inl ⟨by rfl, ?_⟩) ?_ ?_
       rotate_left
       ·intro w'
        go_simp
        with_reducible rfl
       rotate_left
       ·simp only [Act.put, List.setIfInBounds_toArray, List.set_cons_zero, List.set_cons_succ, i64_w, i32_w]
        rfl
       refine take_ (i := 11) (N := some 125) (v := ?_) (a' := ?_) #[T16, T16, T16, T16, T16, T16, T16, T16, T16, T16, T16, T16, F16, F16, F16] rfl rfl (take_ofW HT_.out HW_.out (by kernel_rfl)) (fun _ _ _ h => h) (Or.inl ⟨by rfl, ?_⟩) hHeld ?_ ?_
       rotate_left
       ·rintro w' ⟨s0, s1, s2, s3⟩
        go_simp
        with_reducible rfl
       rotate_left
       ·simp only [Act.put, List.setIfInBounds_toArray, List.set_cons_zero, List.set_cons_succ, i64_w, i32_w]
        rfl
       refine join_ (σ := Value × Nat) 1 #[T16, T16, T16, T16, T16, T16, T16, T16, T16, T16, T16, T16, T16, T16, F16] (fun s_ => [(126, .agg #[.int .i64 t396, s_.1]), (17, .pointer (some ⟨s_.2, 0, none⟩))]) (fun s_ w' => (w'.cell? (ad393.add ((x16_5).toNat * 2)) = some (.int .i64 ((rd_T74 x10_3 x16_5).f0)) ∧ w'.cell? ⟨(ad393.add ((x16_5).toNat * 2)).block, (ad393.add ((x16_5).toNat * 2)).off + 1, none⟩ = some (.slice A393_1 ((rd_T74 x10_3 x16_5).f1).length c393_1) ∧ w'.cell? (ad394.add (x15_4).toNat) = some (.slice (some ad395) (rd_L1 x8_1 x15_4).length c394_0) ∧ w'.cell? (ad395.add (x16_5).toNat) = some (.int .i64 (rd (rd_L1 x8_1 x15_4) x16_5))) ∧ (Kd.V (Kd.int .i64) 3 w' w.heap.size (fun k_ => (w.heap.size ≤ k_) ∧ some k_ ≠ (.slice (some ad393) x10_3.length co69 : Value).ownBlock ∧ some k_ ≠ (u12 : Value).ownBlock ∧ some k_ ≠ (v379 : Value).ownBlock ∧ some k_ ≠ (.slice (some ad394) x8_1.length co70 : Value).ownBlock ∧ k_ ≠ s_.2) (.slice A393_1 ((rd_T74 x10_3 x16_5).f1).length c393_1) ((rd_T74 x10_3 x16_5).f1)) ∧ (Kd.V (Kd.int .i64) 3 w' w.heap.size (fun k_ => (w.heap.size ≤ k_) ∧ some k_ ≠ (.slice (some ad393) x10_3.length co69 : Value).ownBlock ∧ some k_ ≠ (u12 : Value).ownBlock ∧ some k_ ≠ (v379 : Value).ownBlock ∧ some k_ ≠ (.slice (some ad394) x8_1.length co70 : Value).ownBlock ∧ k_ ≠ s_.2) (.slice (some ad395) (rd_L1 x8_1 x15_4).length c394_0) (rd_L1 x8_1 x15_4)) ∧ (Kd.V (Kd.int .i64) 3 w' w.heap.size (fun k_ => (w.heap.size ≤ k_) ∧ some k_ ≠ (.slice (some ad393) x10_3.length co69 : Value).ownBlock ∧ some k_ ≠ (u12 : Value).ownBlock ∧ some k_ ≠ (v379 : Value).ownBlock ∧ some k_ ≠ (.slice (some ad394) x8_1.length co70 : Value).ownBlock ∧ k_ ≠ s_.2) s_.1 t397) ∧ (Kd.N k74 74 w' w.heap.size (fun k_ => (w.heap.size ≤ k_) ∧ some k_ ≠ (u12 : Value).ownBlock ∧ some k_ ≠ (v379 : Value).ownBlock ∧ some k_ ≠ (.slice (some ad394) x8_1.length co70 : Value).ownBlock ∧ k_ ≠ s_.2) (.slice (some ad393) x10_3.length co69) x10_3) ∧ (Kd.N k27 27 w' w.heap.size (fun k_ => (w.heap.size ≤ k_) ∧ some k_ ≠ (.slice (some ad393) x10_3.length co69 : Value).ownBlock ∧ some k_ ≠ (v379 : Value).ownBlock ∧ some k_ ≠ (.slice (some ad394) x8_1.length co70 : Value).ownBlock ∧ k_ ≠ s_.2) u12 x12_3) ∧ (Kd.N k74 74 w' w.heap.size (fun k_ => (w.heap.size ≤ k_) ∧ some k_ ≠ (.slice (some ad393) x10_3.length co69 : Value).ownBlock ∧ some k_ ≠ (u12 : Value).ownBlock ∧ some k_ ≠ (.slice (some ad394) x8_1.length co70 : Value).ownBlock ∧ k_ ≠ s_.2) v379 x14_5) ∧ (Kd.N (Kd.slice 3 (Kd.int .i64)) 24 w' w.heap.size (fun k_ => (w.heap.size ≤ k_) ∧ some k_ ≠ (.slice (some ad393) x10_3.length co69 : Value).ownBlock ∧ some k_ ≠ (u12 : Value).ownBlock ∧ some k_ ≠ (v379 : Value).ownBlock ∧ k_ ≠ s_.2) (.slice (some ad394) x8_1.length co70) x8_1) ∧ (w'.heap[s_.2]? = some (.cells #[.int .i64 0, .slice none 0 0] 74 (0, 0))) ∧ (w.heap.size ≤ s_.2) ∧ (w.heap.size ≤ s_.2) ∧ (Below w.heap.size w w')) ?_ ?_
       rotate_left
       ·intro hCont
        refine two_ (i := 12) (j := 13) (Ni := some 126) (Nj := some 17) #[T16, T16, T16, T16, T16, T16, T16, T16, T16, T16, T16, T16, T16, F16, F16] #[T16, T16, T16, T16, T16, T16, T16, T16, T16, T16, T16, T16, F16, T16, F16] rfl rfl rfl rfl (two_of HT_.out (by kernel_rfl)) (by decide) (by decide) (fun K hK => ?_) (fun K hK => ?_)
        ·skip
         refine goes_ Try.func46 (by kernel_rfl) rfl #[.agg #[.int .i64 ((rd_T74 x10_3 x16_5).f0), .slice A393_1 ((rd_T74 x10_3 x16_5).f1).length c393_1], .int .i64 x16_5, .int .i64 (rd (rd_L1 x8_1 x15_4) x16_5)] (by rfl) rfl rfl qx16_8 ?_
         with_reducible refine (segmentation_best_after.calls ((rd_T74 x10_3 x16_5).f0) (fun k_ => (((w.heap.size ≤ k_) ∧ (some k_ ≠ (.slice (some ad394) x8_1.length co70 : Value).ownBlock ∧ (some k_ ≠ (u12 : Value).ownBlock ∧ some k_ ≠ (v379 : Value).ownBlock))) ∧ some k_ ≠ (.slice (some ad393) x10_3.length co69 : Value).ownBlock)) _ _ ((rd_T74 x10_3 x16_5).f1) x16_5 (rd (rd_L1 x8_1 x15_4) x16_5) t396 t397 _ ?side1 A66.out).mono ?_
         (case side1 => exact HL393_1.out)
         rintro e w71 ⟨v398, rfl, ho0, hb⟩
         have HS0_ := (hb.cell (World.block_lt_of_cell? _ _ (hHeld.1))).trans (hHeld.1)
         have HS1_ := (hb.cell (World.block_lt_of_cell? _ _ (hHeld.2.1))).trans (hHeld.2.1)
         have HS2_ := (hb.cell (World.block_lt_of_cell? _ _ (hHeld.2.2.1))).trans (hHeld.2.2.1)
         have HS3_ := (hb.cell (World.block_lt_of_cell? _ _ (hHeld.2.2.2))).trans (hHeld.2.2.2)
         refine ⟨_, rfl, ?_⟩
         have n0_ := Aside0.mk (Kd.N_below qx16_2 hb)
         have n1_ := Aside0.mk (Kd.N_below qx16_3 hb)
         have n2_ := Aside0.mk (Kd.N_below qx16_5 hb)
         have n3_ := Aside0.mk (Kd.N_below qx16_6 hb)
         have n4_ := Aside0.mk (Kd.V_below qx16_21 hb)
         have n5_ := Aside0.mk (Kd.V_below qx16_22 hb)
         have n6_ := Aside0.mk (Kd.V_lower (Kd.V_mono (ok' := fun k_ => (w.heap.size ≤ k_) ∧ some k_ ≠ (.slice (some ad394) x8_1.length co70 : Value).ownBlock ∧ some k_ ≠ (.slice (some ad393) x10_3.length co69 : Value).ownBlock ∧ some k_ ≠ (u12 : Value).ownBlock ∧ some k_ ≠ (v379 : Value).ownBlock) ho0 (fun k_ hk_ => ⟨Or.elim hk_ (fun hs_ => hs_.1.1) (fun hn_ => (Nat.le_trans (below_size qx16_0) hn_)), Or.elim hk_ (fun hs_ => hs_.1.2.1) (fun hn_ => (Kd.fresh' (Kd.N_lt qx16_2) k_ hn_)), Or.elim hk_ (fun hs_ => hs_.2) (fun hn_ => (Kd.fresh' (Kd.N_lt qx16_3) k_ hn_)), Or.elim hk_ (fun hs_ => hs_.1.2.2.1) (fun hn_ => (Kd.fresh' (Kd.N_lt qx16_5) k_ hn_)), Or.elim hk_ (fun hs_ => hs_.1.2.2.2) (fun hn_ => (Kd.fresh' (Kd.N_lt qx16_6) k_ hn_))⟩)) (below_size qx16_0))
         have n7_ := Aside0.mk (Kd.C_below qx16_12 hb)
         have n8_ := Aside0.mk (Kd.C_below qx16_10 hb)
         have n9_ := Aside0.mk (below_step qx16_0 hb)
         clear HO_8
         clear HO_10
         clear HO_12
         clear HO_14
         clear HL393_1
         clear HL394_0
         clear HR393_1
         clear HR394_0
         clear HB
         have HO_8 := n0_
         have HO_10 := n1_
         have HO_12 := n2_
         have HO_14 := n3_
         have HL393_1 := n4_
         have HL394_0 := n5_
         have HO399 := n6_
         have HR393_1 := n7_
         have HR394_0 := n8_
         have HB := n9_
         clear n0_ n1_ n2_ n3_ n4_ n5_ n6_ n7_ n8_ n9_
         (try clear hb)
         (try clear hb2)
         (try clear hk)
         (try clear hi)
         (try clear ho0)
         refine hK.out _ _ ⟨HS0_, HS1_, HS2_, HS3_⟩ (fun hHeld => ?_)
         clear hK K
         refine norm_ (a' := ?_) ?_ ?_
         rotate_left
         ·show Act.put _ (some 126) _ = _
          simp only [Act.put, List.setIfInBounds_toArray, List.set_cons_zero, List.set_cons_succ, i64_w, i32_w]
          rfl
         refine one_ (i := 13) (N := some 17) #[T16, T16, T16, T16, T16, T16, T16, T16, T16, T16, T16, T16, T16, T16, F16] rfl rfl (one_of HT_.out (by kernel_rfl)) (by decide) (fun K hK => ?_)
         refine box_step ?hg (N := 17) ?hd (cs := #[.int .i64 0, .slice none 0 0]) (t := 74) ?hr ?_; (case hd => rfl); (case hg => rfl); (case hr => first | (go_simp; done) | (go_simp; rfl))
         intro gb400 hg w72 hbox hb
         have HS0_ := (hb.cell (World.block_lt_of_cell? _ _ (hHeld.1))).trans (hHeld.1)
         have HS1_ := (hb.cell (World.block_lt_of_cell? _ _ (hHeld.2.1))).trans (hHeld.2.1)
         have HS2_ := (hb.cell (World.block_lt_of_cell? _ _ (hHeld.2.2.1))).trans (hHeld.2.2.1)
         have HS3_ := (hb.cell (World.block_lt_of_cell? _ _ (hHeld.2.2.2))).trans (hHeld.2.2.2)
         have n0_ := Aside0.mk (Kd.N_below (Kd.N_elderB qx16_2 gb400 (Nat.le_of_eq hg.symm)) hb)
         have n1_ := Aside0.mk (Kd.N_below (Kd.N_elderB qx16_3 gb400 (Nat.le_of_eq hg.symm)) hb)
         have n2_ := Aside0.mk (Kd.N_below (Kd.N_elderB qx16_5 gb400 (Nat.le_of_eq hg.symm)) hb)
         have n3_ := Aside0.mk (Kd.N_below (Kd.N_elderB qx16_6 gb400 (Nat.le_of_eq hg.symm)) hb)
         have n4_ := Aside0.mk (Kd.V_below (Kd.V_elderB qx16_21 gb400 (Nat.le_of_eq hg.symm)) hb)
         have n5_ := Aside0.mk (Kd.V_below (Kd.V_elderB qx16_22 gb400 (Nat.le_of_eq hg.symm)) hb)
         have n6_ := Aside0.mk (Kd.V_below (Kd.V_elderB qx16_24 gb400 (Nat.le_of_eq hg.symm)) hb)
         have n7_ := Aside0.mk (Kd.C_below qx16_12 hb)
         have n8_ := Aside0.mk (Kd.C_below qx16_10 hb)
         have n9_ := Aside0.mk (below_step qx16_0 hb)
         have n10_ := Aside0.mk (hbox)
         have n11_ := Aside0.mk ((by rw [hg]; exact (below_size qx16_0) : w.heap.size ≤ gb400))
         have n12_ := Aside0.mk ((by rw [hg]; exact (below_size qx16_0) : w.heap.size ≤ gb400))
         clear HO_8
         clear HO_10
         clear HO_12
         clear HO_14
         clear HL393_1
         clear HL394_0
         clear HO399
         clear HR393_1
         clear HR394_0
         clear HB
         have HO_8 := n0_
         have HO_10 := n1_
         have HO_12 := n2_
         have HO_14 := n3_
         have HL393_1 := n4_
         have HL394_0 := n5_
         have HO399 := n6_
         have HR393_1 := n7_
         have HR394_0 := n8_
         have HB := n9_
         have BK400 := n10_
         have GW400 := n11_
         have GE400 := n12_
         clear n0_ n1_ n2_ n3_ n4_ n5_ n6_ n7_ n8_ n9_ n10_ n11_ n12_
         clear hb hbox hg
         refine hK.out _ _ ⟨HS0_, HS1_, HS2_, HS3_⟩ (fun hHeld => ?_)
         clear hK K
         refine norm_ (a' := ?_) ?_ ?_
         rotate_left
         ·show Act.put _ (some 17) _ = _
          simp only [Act.put, List.setIfInBounds_toArray, List.set_cons_zero, List.set_cons_succ, i64_w, i32_w]
          rfl
         exact norm_ (by simp only [putAll, Act.put, List.setIfInBounds_toArray, List.set_cons_zero, List.set_cons_succ]) (hCont (v398, gb400) _ ⟨hHeld, qx16_26, qx16_27, (by (with_reducible repeat (first | apply Kd.V_alloc | apply Kd.V_drewN | apply Kd.V_drew)); exact Kd.V_mono HO399.out (fun _ hk => ⟨hk.1.1, ⟨hk.1.2.2.1, ⟨hk.1.2.2.2.1, ⟨hk.1.2.2.2.2, ⟨hk.1.2.1, hk.2⟩⟩⟩⟩⟩)), qx16_28, qx16_29, qx16_30, qx16_31, qx16_9, GW400.out, GE400.out, qx16_4⟩)
        ·skip
         refine box_step ?hg (N := 17) ?hd (cs := #[.int .i64 0, .slice none 0 0]) (t := 74) ?hr ?_; (case hd => rfl); (case hg => rfl); (case hr => first | (go_simp; done) | (go_simp; rfl))
         intro gb400 hg w71 hbox hb
         have HS0_ := (hb.cell (World.block_lt_of_cell? _ _ (hHeld.1))).trans (hHeld.1)
         have HS1_ := (hb.cell (World.block_lt_of_cell? _ _ (hHeld.2.1))).trans (hHeld.2.1)
         have HS2_ := (hb.cell (World.block_lt_of_cell? _ _ (hHeld.2.2.1))).trans (hHeld.2.2.1)
         have HS3_ := (hb.cell (World.block_lt_of_cell? _ _ (hHeld.2.2.2))).trans (hHeld.2.2.2)
         have n0_ := Aside0.mk (Kd.N_below (Kd.N_elderB qx16_2 gb400 (Nat.le_of_eq hg.symm)) hb)
         have n1_ := Aside0.mk (Kd.N_below (Kd.N_elderB qx16_3 gb400 (Nat.le_of_eq hg.symm)) hb)
         have n2_ := Aside0.mk (Kd.N_below (Kd.N_elderB qx16_5 gb400 (Nat.le_of_eq hg.symm)) hb)
         have n3_ := Aside0.mk (Kd.N_below (Kd.N_elderB qx16_6 gb400 (Nat.le_of_eq hg.symm)) hb)
         have n4_ := Aside0.mk (Kd.V_below (Kd.V_elderB qx16_21 gb400 (Nat.le_of_eq hg.symm)) hb)
         have n5_ := Aside0.mk (Kd.V_below (Kd.V_elderB qx16_22 gb400 (Nat.le_of_eq hg.symm)) hb)
         have n6_ := Aside0.mk (Kd.C_below qx16_12 hb)
         have n7_ := Aside0.mk (Kd.C_below qx16_10 hb)
         have n8_ := Aside0.mk (below_step qx16_0 hb)
         have n9_ := Aside0.mk (hbox)
         have n10_ := Aside0.mk ((by rw [hg]; exact (below_size qx16_0) : w.heap.size ≤ gb400))
         have n11_ := Aside0.mk ((by rw [hg]; exact (below_size qx16_0) : w.heap.size ≤ gb400))
         clear HO_8
         clear HO_10
         clear HO_12
         clear HO_14
         clear HL393_1
         clear HL394_0
         clear HR393_1
         clear HR394_0
         clear HB
         have HO_8 := n0_
         have HO_10 := n1_
         have HO_12 := n2_
         have HO_14 := n3_
         have HL393_1 := n4_
         have HL394_0 := n5_
         have HR393_1 := n6_
         have HR394_0 := n7_
         have HB := n8_
         have BK400 := n9_
         have GW400 := n10_
         have GE400 := n11_
         clear n0_ n1_ n2_ n3_ n4_ n5_ n6_ n7_ n8_ n9_ n10_ n11_
         clear hb hbox hg
         refine hK.out _ _ ⟨HS0_, HS1_, HS2_, HS3_⟩ (fun hHeld => ?_)
         clear hK K
         refine norm_ (a' := ?_) ?_ ?_
         rotate_left
         ·show Act.put _ (some 17) _ = _
          simp only [Act.put, List.setIfInBounds_toArray, List.set_cons_zero, List.set_cons_succ, i64_w, i32_w]
          rfl
         refine one_ (i := 12) (N := some 126) #[T16, T16, T16, T16, T16, T16, T16, T16, T16, T16, T16, T16, T16, T16, F16] rfl rfl (one_of HT_.out (by kernel_rfl)) (by decide) (fun K hK => ?_)
         refine goes_ Try.func46 (by kernel_rfl) rfl #[.agg #[.int .i64 ((rd_T74 x10_3 x16_5).f0), .slice A393_1 ((rd_T74 x10_3 x16_5).f1).length c393_1], .int .i64 x16_5, .int .i64 (rd (rd_L1 x8_1 x15_4) x16_5)] (by rfl) rfl rfl qx16_8 ?_
         with_reducible refine (segmentation_best_after.calls ((rd_T74 x10_3 x16_5).f0) (fun k_ => ((((w.heap.size ≤ k_) ∧ (some k_ ≠ (.slice (some ad394) x8_1.length co70 : Value).ownBlock ∧ (some k_ ≠ (u12 : Value).ownBlock ∧ some k_ ≠ (v379 : Value).ownBlock))) ∧ some k_ ≠ (.slice (some ad393) x10_3.length co69 : Value).ownBlock) ∧ k_ ≠ gb400)) _ _ ((rd_T74 x10_3 x16_5).f1) x16_5 (rd (rd_L1 x8_1 x15_4) x16_5) t396 t397 _ ?side1 A66.out).mono ?_
         (case side1 => exact HL393_1.out)
         rintro e w72 ⟨v398, rfl, ho0, hb⟩
         have HS0_ := (hb.cell (World.block_lt_of_cell? _ _ (hHeld.1))).trans (hHeld.1)
         have HS1_ := (hb.cell (World.block_lt_of_cell? _ _ (hHeld.2.1))).trans (hHeld.2.1)
         have HS2_ := (hb.cell (World.block_lt_of_cell? _ _ (hHeld.2.2.1))).trans (hHeld.2.2.1)
         have HS3_ := (hb.cell (World.block_lt_of_cell? _ _ (hHeld.2.2.2))).trans (hHeld.2.2.2)
         refine ⟨_, rfl, ?_⟩
         have n0_ := Aside0.mk (Kd.N_below qx16_2 hb)
         have n1_ := Aside0.mk (Kd.N_below qx16_3 hb)
         have n2_ := Aside0.mk (Kd.N_below qx16_5 hb)
         have n3_ := Aside0.mk (Kd.N_below qx16_6 hb)
         have n4_ := Aside0.mk (Kd.V_below qx16_21 hb)
         have n5_ := Aside0.mk (Kd.V_below qx16_22 hb)
         have n6_ := Aside0.mk (Kd.V_lower (Kd.V_mono (ok' := fun k_ => (w.heap.size ≤ k_) ∧ some k_ ≠ (.slice (some ad394) x8_1.length co70 : Value).ownBlock ∧ some k_ ≠ (.slice (some ad393) x10_3.length co69 : Value).ownBlock ∧ some k_ ≠ (u12 : Value).ownBlock ∧ some k_ ≠ (v379 : Value).ownBlock ∧ k_ ≠ gb400) ho0 (fun k_ hk_ => ⟨Or.elim hk_ (fun hs_ => hs_.1.1.1) (fun hn_ => (Nat.le_trans (below_size qx16_4) hn_)), Or.elim hk_ (fun hs_ => hs_.1.1.2.1) (fun hn_ => (Kd.fresh' (Kd.N_lt qx16_2) k_ hn_)), Or.elim hk_ (fun hs_ => hs_.1.2) (fun hn_ => (Kd.fresh' (Kd.N_lt qx16_3) k_ hn_)), Or.elim hk_ (fun hs_ => hs_.1.1.2.2.1) (fun hn_ => (Kd.fresh' (Kd.N_lt qx16_5) k_ hn_)), Or.elim hk_ (fun hs_ => hs_.1.1.2.2.2) (fun hn_ => (Kd.fresh' (Kd.N_lt qx16_6) k_ hn_)), Or.elim hk_ (fun hs_ => hs_.2) (fun hn_ => (Kd.freshB (g := gb400) (o := .cells #[.int .i64 0, .slice none 0 0] 74 (0, 0)) qx16_9 k_ hn_))⟩)) (below_size qx16_4))
         have n7_ := Aside0.mk (Kd.C_below qx16_12 hb)
         have n8_ := Aside0.mk (Kd.C_below qx16_10 hb)
         have n9_ := Aside0.mk (blk_below (g := gb400) (o := .cells #[.int .i64 0, .slice none 0 0] 74 (0, 0)) qx16_9 hb)
         have n10_ := Aside0.mk (below_step qx16_4 hb)
         clear HO_8
         clear HO_10
         clear HO_12
         clear HO_14
         clear HL393_1
         clear HL394_0
         clear HR393_1
         clear HR394_0
         clear BK400
         clear HB
         have HO_8 := n0_
         have HO_10 := n1_
         have HO_12 := n2_
         have HO_14 := n3_
         have HL393_1 := n4_
         have HL394_0 := n5_
         have HO399 := n6_
         have HR393_1 := n7_
         have HR394_0 := n8_
         have BK400 := n9_
         have HB := n10_
         clear n0_ n1_ n2_ n3_ n4_ n5_ n6_ n7_ n8_ n9_ n10_
         (try clear hb)
         (try clear hb2)
         (try clear hk)
         (try clear hi)
         (try clear ho0)
         refine hK.out _ _ ⟨HS0_, HS1_, HS2_, HS3_⟩ (fun hHeld => ?_)
         clear hK K
         refine norm_ (a' := ?_) ?_ ?_
         rotate_left
         ·show Act.put _ (some 126) _ = _
          simp only [Act.put, List.setIfInBounds_toArray, List.set_cons_zero, List.set_cons_succ, i64_w, i32_w]
          rfl
         exact norm_ (by simp only [putAll, Act.put, List.setIfInBounds_toArray, List.set_cons_zero, List.set_cons_succ]) (hCont (v398, gb400) _ ⟨hHeld, qx16_26, qx16_27, (by (with_reducible repeat (first | apply Kd.V_alloc | apply Kd.V_drewN | apply Kd.V_drew)); exact Kd.V_mono HO399.out (fun _ hk => ⟨hk.1, ⟨hk.2.2.1, ⟨hk.2.2.2.1, ⟨hk.2.2.2.2.1, ⟨hk.2.1, hk.2.2.2.2.2⟩⟩⟩⟩⟩)), qx16_28, qx16_29, qx16_30, qx16_31, qx16_9, GW400.out, GE400.out, qx16_4⟩)
       rintro ⟨v398, gb400⟩ w73 ⟨hS_, h0_, h1_, h2_, h3_, h4_, h5_, h6_, h7_, h8_, h9_, h10_⟩
       have n0_ : Aside0 (Kd.V (Kd.int .i64) 3 w73 w.heap.size (fun k_ => (w.heap.size ≤ k_) ∧ some k_ ≠ (.slice (some ad393) x10_3.length co69 : Value).ownBlock ∧ some k_ ≠ (u12 : Value).ownBlock ∧ some k_ ≠ (v379 : Value).ownBlock ∧ some k_ ≠ (.slice (some ad394) x8_1.length co70 : Value).ownBlock ∧ k_ ≠ gb400) (.slice A393_1 ((rd_T74 x10_3 x16_5).f1).length c393_1) ((rd_T74 x10_3 x16_5).f1)) := ⟨h0_⟩
       have n1_ : Aside0 (Kd.V (Kd.int .i64) 3 w73 w.heap.size (fun k_ => (w.heap.size ≤ k_) ∧ some k_ ≠ (.slice (some ad393) x10_3.length co69 : Value).ownBlock ∧ some k_ ≠ (u12 : Value).ownBlock ∧ some k_ ≠ (v379 : Value).ownBlock ∧ some k_ ≠ (.slice (some ad394) x8_1.length co70 : Value).ownBlock ∧ k_ ≠ gb400) (.slice (some ad395) (rd_L1 x8_1 x15_4).length c394_0) (rd_L1 x8_1 x15_4)) := ⟨h1_⟩
       have n2_ : Aside0 (Kd.V (Kd.int .i64) 3 w73 w.heap.size (fun k_ => (w.heap.size ≤ k_) ∧ some k_ ≠ (.slice (some ad393) x10_3.length co69 : Value).ownBlock ∧ some k_ ≠ (u12 : Value).ownBlock ∧ some k_ ≠ (v379 : Value).ownBlock ∧ some k_ ≠ (.slice (some ad394) x8_1.length co70 : Value).ownBlock ∧ k_ ≠ gb400) v398 t397) := ⟨h2_⟩
       have n3_ : Aside0 (Kd.N k74 74 w73 w.heap.size (fun k_ => (w.heap.size ≤ k_) ∧ some k_ ≠ (u12 : Value).ownBlock ∧ some k_ ≠ (v379 : Value).ownBlock ∧ some k_ ≠ (.slice (some ad394) x8_1.length co70 : Value).ownBlock ∧ k_ ≠ gb400) (.slice (some ad393) x10_3.length co69) x10_3) := ⟨h3_⟩
       have n4_ : Aside0 (Kd.N k27 27 w73 w.heap.size (fun k_ => (w.heap.size ≤ k_) ∧ some k_ ≠ (.slice (some ad393) x10_3.length co69 : Value).ownBlock ∧ some k_ ≠ (v379 : Value).ownBlock ∧ some k_ ≠ (.slice (some ad394) x8_1.length co70 : Value).ownBlock ∧ k_ ≠ gb400) u12 x12_3) := ⟨h4_⟩
       have n5_ : Aside0 (Kd.N k74 74 w73 w.heap.size (fun k_ => (w.heap.size ≤ k_) ∧ some k_ ≠ (.slice (some ad393) x10_3.length co69 : Value).ownBlock ∧ some k_ ≠ (u12 : Value).ownBlock ∧ some k_ ≠ (.slice (some ad394) x8_1.length co70 : Value).ownBlock ∧ k_ ≠ gb400) v379 x14_5) := ⟨h5_⟩
       have n6_ : Aside0 (Kd.N (Kd.slice 3 (Kd.int .i64)) 24 w73 w.heap.size (fun k_ => (w.heap.size ≤ k_) ∧ some k_ ≠ (.slice (some ad393) x10_3.length co69 : Value).ownBlock ∧ some k_ ≠ (u12 : Value).ownBlock ∧ some k_ ≠ (v379 : Value).ownBlock ∧ k_ ≠ gb400) (.slice (some ad394) x8_1.length co70) x8_1) := ⟨h6_⟩
       have n7_ : Aside0 (w73.heap[gb400]? = some (.cells #[.int .i64 0, .slice none 0 0] 74 (0, 0))) := ⟨h7_⟩
       have n8_ : Aside0 (w.heap.size ≤ gb400) := ⟨h8_⟩
       have n9_ : Aside0 (w.heap.size ≤ gb400) := ⟨h9_⟩
       have n10_ : Aside0 (Below w.heap.size w w73) := ⟨h10_⟩
       clear HO_8
       clear HO_10
       clear HO_12
       clear HO_14
       clear HB
       clear h0_ h1_ h2_ h3_ h4_ h5_ h6_ h7_ h8_ h9_ h10_
       have HL393_1 := n0_
       have HL394_0 := n1_
       have HO399 := n2_
       have HO_10 := n3_
       have HO_12 := n4_
       have HO_14 := n5_
       have HO_8 := n6_
       have BK400 := n7_
       have GW400 := n8_
       have GE400 := n9_
       have HB := n10_
       clear n0_ n1_ n2_ n3_ n4_ n5_ n6_ n7_ n8_ n9_ n10_
       have hHeld : w73.cell? (ad393.add ((x16_5).toNat * 2)) = some (.int .i64 ((rd_T74 x10_3 x16_5).f0)) ∧ w73.cell? ⟨(ad393.add ((x16_5).toNat * 2)).block, (ad393.add ((x16_5).toNat * 2)).off + 1, none⟩ = some (.slice A393_1 ((rd_T74 x10_3 x16_5).f1).length c393_1) ∧ w73.cell? (ad394.add (x15_4).toNat) = some (.slice (some ad395) (rd_L1 x8_1 x15_4).length c394_0) ∧ w73.cell? (ad395.add (x16_5).toNat) = some (.int .i64 (rd (rd_L1 x8_1 x15_4) x16_5)) := hS_
       obtain ⟨Ao75, co75, eo75⟩ := Kd.V_slice HO399.out
       (first | subst eo75 | (injection eo75 with f1_ f2_ f3_; have f4_ := f1_.symm; have f5_ := f3_.symm; clear f1_ f2_ f3_; subst f4_; subst f5_))
       refine norm_ (a' := ?_) ?_ ?_
       rotate_left
       ·simp only [putAll, Act.put, List.setIfInBounds_toArray, List.set_cons_zero, List.set_cons_succ]
        rfl
       refine one_ (i := 14) (N := none) #[T16, T16, T16, T16, T16, T16, T16, T16, T16, T16, T16, T16, T16, T16, T16] rfl rfl (one_of HT_.out (by kernel_rfl)) (by decide) (fun K hK => ?_)
       have hs74 : w73.cell? ⟨gb400, 0, none⟩ = some (.int .i64 0) := (blk_cell BK400.out 0).trans rfl
       have hfs74 := blk_frozen BK400.out 0
       have hs76 : w73.cell? ⟨gb400, 1, none⟩ = some (.slice none 0 0) := (blk_cell BK400.out 1).trans rfl
       have hfs76 := blk_frozen BK400.out 1
       refine skip_ (w1 := ?_) (by rfl) rfl ?_ ?_
       rotate_left
       ·go_simp
        rfl
       refine hK.out _ _ ⟨((cell_far (p := ⟨gb400, _, none⟩) qx16_7 _).trans (((cell_far (p := ⟨gb400, _, none⟩) qx16_7 _).trans (hHeld.1)))), ((cell_far (p := ⟨gb400, _, none⟩) qx16_7 _).trans (((cell_far (p := ⟨gb400, _, none⟩) qx16_7 _).trans (hHeld.2.1)))), ((cell_far (p := ⟨gb400, _, none⟩) qx16_23 _).trans (((cell_far (p := ⟨gb400, _, none⟩) qx16_23 _).trans (hHeld.2.2.1)))), cell_V HL394_0.out (fun _ hk => hk.2.2.2.2.2) x16_5 (of_eq_true p395) (of_eq_true q395) _ _ _ _⟩ (fun hHeld => ?_)
       clear hK K
       refine done_ (done_of HT_.out (by kernel_rfl)) ?_
       go_upto_region 30 with (fail)
       go_cut [137] (fun v137 wc => ∃ (kq : Nat) (x137_66 : Bool), v137 = .bool x137_66 ∧ Aside0 (segmentation_Counts.j6 kq a1 (l0.length : Int) x8_1 x10_3 x12_3 x13_3 x14_5 x15_4 x16_5 x137_66 t396 t397 = some (r1, r2)) ∧ Aside0 (kq ≤ kj46) ∧ Aside0 (Kd.N (Kd.slice 3 (Kd.int .i64)) 24 wc w.heap.size (fun k_ => (w.heap.size ≤ k_) ∧ some k_ ≠ ((.slice (some ad393) x10_3.length co69) : Value).ownBlock ∧ some k_ ≠ (u12 : Value).ownBlock ∧ some k_ ≠ (v379 : Value).ownBlock ∧ k_ ≠ gb400) (.slice (some ad394) x8_1.length co70) x8_1) ∧ Aside0 (Kd.N k74 74 wc w.heap.size (fun k_ => (w.heap.size ≤ k_) ∧ some k_ ≠ ((.slice (some ad394) x8_1.length co70) : Value).ownBlock ∧ some k_ ≠ (u12 : Value).ownBlock ∧ some k_ ≠ (v379 : Value).ownBlock ∧ k_ ≠ gb400) (.slice (some ad393) x10_3.length co69) x10_3) ∧ Aside0 (Kd.N k27 27 wc w.heap.size (fun k_ => (w.heap.size ≤ k_) ∧ some k_ ≠ ((.slice (some ad394) x8_1.length co70) : Value).ownBlock ∧ some k_ ≠ ((.slice (some ad393) x10_3.length co69) : Value).ownBlock ∧ some k_ ≠ (v379 : Value).ownBlock ∧ k_ ≠ gb400) u12 x12_3) ∧ Aside0 (Kd.N k74 74 wc w.heap.size (fun k_ => (w.heap.size ≤ k_) ∧ some k_ ≠ ((.slice (some ad394) x8_1.length co70) : Value).ownBlock ∧ some k_ ≠ ((.slice (some ad393) x10_3.length co69) : Value).ownBlock ∧ some k_ ≠ (u12 : Value).ownBlock ∧ k_ ≠ gb400) v379 x14_5) ∧ Aside0 (Kd.V (Kd.int .i64) 3 wc w.heap.size (fun k_ => (w.heap.size ≤ k_) ∧ some k_ ≠ ((.slice (some ad394) x8_1.length co70) : Value).ownBlock ∧ some k_ ≠ ((.slice (some ad393) x10_3.length co69) : Value).ownBlock ∧ some k_ ≠ (u12 : Value).ownBlock ∧ some k_ ≠ (v379 : Value).ownBlock ∧ k_ ≠ gb400) (.slice Ao75 t397.length co75) t397) ∧ Aside0 (wc.heap[gb400]? = some (.cells #[.int .i64 t396, (.slice Ao75 t397.length co75)] 74 (0, 0))) ∧ Aside0 (Below w.heap.size w wc))
       case first =>
        have H := HC67.out
        clear HC67
        by_cases c77 : x16_5 = x13_3
        ·rw [if_pos c77] at H
         have c77b0 : (x16_5 == x13_3) = true := beq_iff_eq.mpr c77
         have c77b1 : (x16_5 != x13_3) = false := bne_eq_false_iff_eq.mpr c77
         clear c77
         (first | rw [c77b0] | (simp only [i64_w, i32_w]; rw [c77b0]) | skip)
         have H' := Aside0.mk H
         clear H
         try go_wp2
         have n0_ : Aside0 (Kd.N (Kd.slice 3 (Kd.int .i64)) 24 ((w73.setCell ⟨gb400, 0, none⟩ (.int .i64 t396)).setCell ⟨gb400, 1, none⟩ (.slice Ao75 t397.length co75)) w.heap.size (fun k_ => (w.heap.size ≤ k_) ∧ some k_ ≠ (.slice (some ad393) x10_3.length co69 : Value).ownBlock ∧ some k_ ≠ (u12 : Value).ownBlock ∧ some k_ ≠ (v379 : Value).ownBlock ∧ k_ ≠ gb400) (.slice (some ad394) x8_1.length co70) x8_1) := ⟨qx16_20⟩
         have n1_ : Aside0 (Kd.N k74 74 ((w73.setCell ⟨gb400, 0, none⟩ (.int .i64 t396)).setCell ⟨gb400, 1, none⟩ (.slice Ao75 t397.length co75)) w.heap.size (fun k_ => (w.heap.size ≤ k_) ∧ some k_ ≠ (.slice (some ad394) x8_1.length co70 : Value).ownBlock ∧ some k_ ≠ (u12 : Value).ownBlock ∧ some k_ ≠ (v379 : Value).ownBlock ∧ k_ ≠ gb400) (.slice (some ad393) x10_3.length co69) x10_3) := ⟨qx16_17⟩
         have n2_ : Aside0 (Kd.N k27 27 ((w73.setCell ⟨gb400, 0, none⟩ (.int .i64 t396)).setCell ⟨gb400, 1, none⟩ (.slice Ao75 t397.length co75)) w.heap.size (fun k_ => (w.heap.size ≤ k_) ∧ some k_ ≠ (.slice (some ad394) x8_1.length co70 : Value).ownBlock ∧ some k_ ≠ (.slice (some ad393) x10_3.length co69 : Value).ownBlock ∧ some k_ ≠ (v379 : Value).ownBlock ∧ k_ ≠ gb400) u12 x12_3) := ⟨qx16_18⟩
         have n3_ : Aside0 (Kd.N k74 74 ((w73.setCell ⟨gb400, 0, none⟩ (.int .i64 t396)).setCell ⟨gb400, 1, none⟩ (.slice Ao75 t397.length co75)) w.heap.size (fun k_ => (w.heap.size ≤ k_) ∧ some k_ ≠ (.slice (some ad394) x8_1.length co70 : Value).ownBlock ∧ some k_ ≠ (.slice (some ad393) x10_3.length co69 : Value).ownBlock ∧ some k_ ≠ (u12 : Value).ownBlock ∧ k_ ≠ gb400) v379 x14_5) := ⟨qx16_19⟩
         have n4_ : Aside0 (Kd.V (Kd.int .i64) 3 ((w73.setCell ⟨gb400, 0, none⟩ (.int .i64 t396)).setCell ⟨gb400, 1, none⟩ (.slice Ao75 t397.length co75)) w.heap.size (fun k_ => (w.heap.size ≤ k_) ∧ some k_ ≠ (.slice (some ad394) x8_1.length co70 : Value).ownBlock ∧ some k_ ≠ (.slice (some ad393) x10_3.length co69 : Value).ownBlock ∧ some k_ ≠ (u12 : Value).ownBlock ∧ some k_ ≠ (v379 : Value).ownBlock ∧ k_ ≠ gb400) (.slice A393_1 ((rd_T74 x10_3 x16_5).f1).length c393_1) ((rd_T74 x10_3 x16_5).f1)) := ⟨qx16_13⟩
         have n5_ : Aside0 (Kd.V (Kd.int .i64) 3 ((w73.setCell ⟨gb400, 0, none⟩ (.int .i64 t396)).setCell ⟨gb400, 1, none⟩ (.slice Ao75 t397.length co75)) w.heap.size (fun k_ => (w.heap.size ≤ k_) ∧ some k_ ≠ (.slice (some ad394) x8_1.length co70 : Value).ownBlock ∧ some k_ ≠ (.slice (some ad393) x10_3.length co69 : Value).ownBlock ∧ some k_ ≠ (u12 : Value).ownBlock ∧ some k_ ≠ (v379 : Value).ownBlock ∧ k_ ≠ gb400) (.slice (some ad395) (rd_L1 x8_1 x15_4).length c394_0) (rd_L1 x8_1 x15_4)) := ⟨qx16_14⟩
         have n6_ : Aside0 (Kd.V (Kd.int .i64) 3 ((w73.setCell ⟨gb400, 0, none⟩ (.int .i64 t396)).setCell ⟨gb400, 1, none⟩ (.slice Ao75 t397.length co75)) w.heap.size (fun k_ => (w.heap.size ≤ k_) ∧ some k_ ≠ (.slice (some ad394) x8_1.length co70 : Value).ownBlock ∧ some k_ ≠ (.slice (some ad393) x10_3.length co69 : Value).ownBlock ∧ some k_ ≠ (u12 : Value).ownBlock ∧ some k_ ≠ (v379 : Value).ownBlock ∧ k_ ≠ gb400) (.slice Ao75 t397.length co75) t397) := ⟨qx16_15⟩
         have n7_ : Aside0 (((w73.setCell ⟨gb400, 0, none⟩ (.int .i64 t396)).setCell ⟨gb400, 1, none⟩ (.slice Ao75 t397.length co75)).heap[gb400]? = some (.cells #[.int .i64 t396, .slice Ao75 t397.length co75] 74 (0, 0))) := ⟨qx16_16⟩
         have n8_ : Aside0 (Below w.heap.size w ((w73.setCell ⟨gb400, 0, none⟩ (.int .i64 t396)).setCell ⟨gb400, 1, none⟩ (.slice Ao75 t397.length co75))) := ⟨qx16_4⟩
         (try clear HO_8)
         (try clear HO_10)
         (try clear HO_12)
         (try clear HO_14)
         (try clear HL393_1)
         (try clear HL394_0)
         (try clear HO399)
         (try clear BK400)
         (try clear HB)
         generalize ((w73.setCell ⟨gb400, 0, none⟩ (.int .i64 t396)).setCell ⟨gb400, 1, none⟩ (.slice Ao75 t397.length co75)) = w78 at n0_ n1_ n2_ n3_ n4_ n5_ n6_ n7_ n8_ ⊢
         have HO_8 := n0_
         have HO_10 := n1_
         have HO_12 := n2_
         have HO_14 := n3_
         have HL393_1 := n4_
         have HL394_0 := n5_
         have HO399 := n6_
         have BK400 := n7_
         have HB := n8_
         clear n0_ n1_ n2_ n3_ n4_ n5_ n6_ n7_ n8_
         have n0_ := Aside0.mk (Kd.N_drew HO_8.out)
         have n1_ := Aside0.mk (Kd.N_drew HO_10.out)
         have n2_ := Aside0.mk (Kd.N_drew HO_12.out)
         have n3_ := Aside0.mk (Kd.N_drew HO_14.out)
         have n4_ := Aside0.mk (Kd.V_drew HL393_1.out)
         have n5_ := Aside0.mk (Kd.V_drew HL394_0.out)
         have n6_ := Aside0.mk (Kd.V_drew HO399.out)
         have n7_ := Aside0.mk (blk_drew BK400.out)
         have n8_ := Aside0.mk (below_drew1 HB.out)
         clear HO_8
         clear HO_10
         clear HO_12
         clear HO_14
         clear HL393_1
         clear HL394_0
         clear HO399
         clear BK400
         clear HB
         have HO_8 := n0_
         have HO_10 := n1_
         have HO_12 := n2_
         have HO_14 := n3_
         have HL393_1 := n4_
         have HL394_0 := n5_
         have HO399 := n6_
         have BK400 := n7_
         have HB := n8_
         clear n0_ n1_ n2_ n3_ n4_ n5_ n6_ n7_ n8_
         refine start_ (n := 11) (S := fun w' => True) (ds := []) #[F16, F16, F16, F16, F16, F16, F16, F16, F16, F16, F16] (by kernel_rfl) rfl rfl trivial (fun hHeld => ?_); refine with_tabW segmentation_Counts.tab30 segmentation_Counts.bits30 (fun HT_ HW_ => ?_)
         generalize w78.drew = w79 at HO_8 HO_10 HO_12 HO_14 HL393_1 HL394_0 HO399 BK400 HB hHeld ⊢
         refine pure_ (i := 0) (N := some 127) (v := ?_) (a' := ?_) #[T16, F16, F16, F16, F16, F16, F16, F16, F16, F16, F16] rfl rfl (any_of HT_.out (by kernel_rfl)) (fun _ _ _ h => h) (Or.inl ⟨by rfl, ?_⟩) ?_ ?_
         rotate_left
         ·intro w'
          go_simp
          with_reducible rfl
         rotate_left
         ·simp only [Act.put, List.setIfInBounds_toArray, List.set_cons_zero, List.set_cons_succ, i64_w, i32_w]
          rfl
         refine pure_ (i := 1) (N := some 128) (v := ?_) (a' := ?_) #[T16, T16, F16, F16, F16, F16, F16, F16, F16, F16, F16] rfl rfl (any_of HT_.out (by kernel_rfl)) (fun _ _ _ h => h) (Or.inl ⟨by rfl, ?_⟩) ?_ ?_
         rotate_left
         ·intro w'
          go_simp
          with_reducible rfl
         rotate_left
         ·simp only [Act.put, List.setIfInBounds_toArray, List.set_cons_zero, List.set_cons_succ, i64_w, i32_w]
          rfl
         refine pure_ (i := 2) (N := some 129) (v := ?_) (a' := ?_) #[T16, T16, T16, F16, F16, F16, F16, F16, F16, F16, F16] rfl rfl (any_of HT_.out (by kernel_rfl)) (fun _ _ _ h => h) (Or.inl ⟨by rfl, ?_⟩) ?_ ?_
         rotate_left
         ·intro w'
          go_simp
          with_reducible rfl
         rotate_left
         ·simp only [Act.put, List.setIfInBounds_toArray, List.set_cons_zero, List.set_cons_succ, i64_w, i32_w]
          rfl
         refine pure_ (i := 3) (N := some 130) (v := ?_) (a' := ?_) #[T16, T16, T16, T16, F16, F16, F16, F16, F16, F16, F16] rfl rfl (any_of HT_.out (by kernel_rfl)) (fun _ _ _ h => h) (Or.inl ⟨by rfl, ?_⟩) ?_ ?_
         rotate_left
         ·intro w'
          go_simp
          with_reducible rfl
         rotate_left
         ·simp only [Act.put, List.setIfInBounds_toArray, List.set_cons_zero, List.set_cons_succ, i64_w, i32_w]
          rfl
         refine pure_ (i := 4) (N := some 131) (v := undef) (a' := ?_) #[T16, T16, T16, T16, T16, F16, F16, F16, F16, F16, F16] rfl rfl (any_of HT_.out (by kernel_rfl)) (fun _ _ _ h => h) (Or.inr ⟨by rfl, rfl⟩) ?_ ?_
         rotate_left
         ·simp only [Act.put, List.setIfInBounds_toArray, List.set_cons_zero, List.set_cons_succ, i64_w, i32_w]
          rfl
         refine pure_ (i := 5) (N := some 132) (v := undef) (a' := ?_) #[T16, T16, T16, T16, T16, T16, F16, F16, F16, F16, F16] rfl rfl (any_of HT_.out (by kernel_rfl)) (fun _ _ _ h => h) (Or.inr ⟨by rfl, rfl⟩) ?_ ?_
         rotate_left
         ·simp only [Act.put, List.setIfInBounds_toArray, List.set_cons_zero, List.set_cons_succ, i64_w, i32_w]
          rfl
         refine pure_ (i := 6) (N := some 133) (v := undef) (a' := ?_) #[T16, T16, T16, T16, T16, T16, T16, F16, F16, F16, F16] rfl rfl (any_of HT_.out (by kernel_rfl)) (fun _ _ _ h => h) (Or.inr ⟨by rfl, rfl⟩) ?_ ?_
         rotate_left
         ·simp only [Act.put, List.setIfInBounds_toArray, List.set_cons_zero, List.set_cons_succ, i64_w, i32_w]
          rfl
         refine pure_ (i := 7) (N := some 134) (v := undef) (a' := ?_) #[T16, T16, T16, T16, T16, T16, T16, T16, F16, F16, F16] rfl rfl (any_of HT_.out (by kernel_rfl)) (fun _ _ _ h => h) (Or.inr ⟨by rfl, rfl⟩) ?_ ?_
         rotate_left
         ·simp only [Act.put, List.setIfInBounds_toArray, List.set_cons_zero, List.set_cons_succ, i64_w, i32_w]
          rfl
         refine pure_ (i := 8) (N := some 135) (v := undef) (a' := ?_) #[T16, T16, T16, T16, T16, T16, T16, T16, T16, F16, F16] rfl rfl (any_of HT_.out (by kernel_rfl)) (fun _ _ _ h => h) (Or.inr ⟨by rfl, rfl⟩) ?_ ?_
         rotate_left
         ·simp only [Act.put, List.setIfInBounds_toArray, List.set_cons_zero, List.set_cons_succ, i64_w, i32_w]
          rfl
         refine pure_ (i := 9) (N := some 136) (v := undef) (a' := ?_) #[T16, T16, T16, T16, T16, T16, T16, T16, T16, T16, F16] rfl rfl (any_of HT_.out (by kernel_rfl)) (fun _ _ _ h => h) (Or.inr ⟨by rfl, rfl⟩) ?_ ?_
         rotate_left
         ·simp only [Act.put, List.setIfInBounds_toArray, List.set_cons_zero, List.set_cons_succ, i64_w, i32_w]
          rfl
         refine pure_ (i := 10) (N := some 137) (v := ?_) (a' := ?_) #[T16, T16, T16, T16, T16, T16, T16, T16, T16, T16, T16] rfl rfl (any_of HT_.out (by kernel_rfl)) (fun _ _ _ h => h) (Or.inl ⟨by rfl, ?_⟩) ?_ ?_
         rotate_left
         ·intro w'
          go_simp
          with_reducible rfl
         rotate_left
         ·simp only [Act.put, List.setIfInBounds_toArray, List.set_cons_zero, List.set_cons_succ, i64_w, i32_w]
          rfl
         refine done_ (done_of HT_.out (by kernel_rfl)) ?_
         try go_wp2
         go_meet
         case rel => exact ⟨_, (true), qx16_11, H', ⟨qx16_36⟩, ⟨qx16_2⟩, ⟨qx16_3⟩, ⟨qx16_5⟩, ⟨qx16_6⟩, ⟨qx16_24⟩, ⟨qx16_9⟩, ⟨qx16_4⟩⟩
        rw [if_neg c77] at H
        have c77b0 : (x16_5 == x13_3) = false := beq_eq_false_iff_ne.mpr c77
        have c77b1 : (x16_5 != x13_3) = true := bne_iff_ne.mpr c77
        (first | rw [c77b0] | (simp only [i64_w, i32_w]; rw [c77b0]) | skip)
        by_cases c80 : x15_4 < (x14_5.length : Int)
        rotate_left
        ·rw [if_neg c80] at H
         exact absurd H (by simp)
        rw [if_pos c80] at H
        have c80b0 : decide (x15_4 < (x14_5.length : Int)) = true := decide_eq_true c80
        clear c80
        replace H := Option.bind_eq_some_iff.mp H
        obtain ⟨t402, A810, H⟩ := H
        replace H : (segmentation_Counts.j6 kj46 a1 (l0.length : Int) x8_1 x10_3 x12_3 x13_3 x14_5 x15_4 x16_5 t402 t396 t397) = some (r1, r2) := H
        have A81 := Aside0.mk A810
        clear A810
        have H' := Aside0.mk H
        clear H
        try go_wp2
        have n0_ : Aside0 (Kd.N (Kd.slice 3 (Kd.int .i64)) 24 ((w73.setCell ⟨gb400, 0, none⟩ (.int .i64 t396)).setCell ⟨gb400, 1, none⟩ (.slice Ao75 t397.length co75)) w.heap.size (fun k_ => (w.heap.size ≤ k_) ∧ some k_ ≠ (.slice (some ad393) x10_3.length co69 : Value).ownBlock ∧ some k_ ≠ (u12 : Value).ownBlock ∧ some k_ ≠ (v379 : Value).ownBlock ∧ k_ ≠ gb400) (.slice (some ad394) x8_1.length co70) x8_1) := ⟨qx16_20⟩
        have n1_ : Aside0 (Kd.N k74 74 ((w73.setCell ⟨gb400, 0, none⟩ (.int .i64 t396)).setCell ⟨gb400, 1, none⟩ (.slice Ao75 t397.length co75)) w.heap.size (fun k_ => (w.heap.size ≤ k_) ∧ some k_ ≠ (.slice (some ad394) x8_1.length co70 : Value).ownBlock ∧ some k_ ≠ (u12 : Value).ownBlock ∧ some k_ ≠ (v379 : Value).ownBlock ∧ k_ ≠ gb400) (.slice (some ad393) x10_3.length co69) x10_3) := ⟨qx16_17⟩
        have n2_ : Aside0 (Kd.N k27 27 ((w73.setCell ⟨gb400, 0, none⟩ (.int .i64 t396)).setCell ⟨gb400, 1, none⟩ (.slice Ao75 t397.length co75)) w.heap.size (fun k_ => (w.heap.size ≤ k_) ∧ some k_ ≠ (.slice (some ad394) x8_1.length co70 : Value).ownBlock ∧ some k_ ≠ (.slice (some ad393) x10_3.length co69 : Value).ownBlock ∧ some k_ ≠ (v379 : Value).ownBlock ∧ k_ ≠ gb400) u12 x12_3) := ⟨qx16_18⟩
        have n3_ : Aside0 (Kd.N k74 74 ((w73.setCell ⟨gb400, 0, none⟩ (.int .i64 t396)).setCell ⟨gb400, 1, none⟩ (.slice Ao75 t397.length co75)) w.heap.size (fun k_ => (w.heap.size ≤ k_) ∧ some k_ ≠ (.slice (some ad394) x8_1.length co70 : Value).ownBlock ∧ some k_ ≠ (.slice (some ad393) x10_3.length co69 : Value).ownBlock ∧ some k_ ≠ (u12 : Value).ownBlock ∧ k_ ≠ gb400) v379 x14_5) := ⟨qx16_19⟩
        have n4_ : Aside0 (Kd.V (Kd.int .i64) 3 ((w73.setCell ⟨gb400, 0, none⟩ (.int .i64 t396)).setCell ⟨gb400, 1, none⟩ (.slice Ao75 t397.length co75)) w.heap.size (fun k_ => (w.heap.size ≤ k_) ∧ some k_ ≠ (.slice (some ad394) x8_1.length co70 : Value).ownBlock ∧ some k_ ≠ (.slice (some ad393) x10_3.length co69 : Value).ownBlock ∧ some k_ ≠ (u12 : Value).ownBlock ∧ some k_ ≠ (v379 : Value).ownBlock ∧ k_ ≠ gb400) (.slice A393_1 ((rd_T74 x10_3 x16_5).f1).length c393_1) ((rd_T74 x10_3 x16_5).f1)) := ⟨qx16_13⟩
        have n5_ : Aside0 (Kd.V (Kd.int .i64) 3 ((w73.setCell ⟨gb400, 0, none⟩ (.int .i64 t396)).setCell ⟨gb400, 1, none⟩ (.slice Ao75 t397.length co75)) w.heap.size (fun k_ => (w.heap.size ≤ k_) ∧ some k_ ≠ (.slice (some ad394) x8_1.length co70 : Value).ownBlock ∧ some k_ ≠ (.slice (some ad393) x10_3.length co69 : Value).ownBlock ∧ some k_ ≠ (u12 : Value).ownBlock ∧ some k_ ≠ (v379 : Value).ownBlock ∧ k_ ≠ gb400) (.slice (some ad395) (rd_L1 x8_1 x15_4).length c394_0) (rd_L1 x8_1 x15_4)) := ⟨qx16_14⟩
        have n6_ : Aside0 (Kd.V (Kd.int .i64) 3 ((w73.setCell ⟨gb400, 0, none⟩ (.int .i64 t396)).setCell ⟨gb400, 1, none⟩ (.slice Ao75 t397.length co75)) w.heap.size (fun k_ => (w.heap.size ≤ k_) ∧ some k_ ≠ (.slice (some ad394) x8_1.length co70 : Value).ownBlock ∧ some k_ ≠ (.slice (some ad393) x10_3.length co69 : Value).ownBlock ∧ some k_ ≠ (u12 : Value).ownBlock ∧ some k_ ≠ (v379 : Value).ownBlock ∧ k_ ≠ gb400) (.slice Ao75 t397.length co75) t397) := ⟨qx16_15⟩
        have n7_ : Aside0 (((w73.setCell ⟨gb400, 0, none⟩ (.int .i64 t396)).setCell ⟨gb400, 1, none⟩ (.slice Ao75 t397.length co75)).heap[gb400]? = some (.cells #[.int .i64 t396, .slice Ao75 t397.length co75] 74 (0, 0))) := ⟨qx16_16⟩
        have n8_ : Aside0 (Below w.heap.size w ((w73.setCell ⟨gb400, 0, none⟩ (.int .i64 t396)).setCell ⟨gb400, 1, none⟩ (.slice Ao75 t397.length co75))) := ⟨qx16_4⟩
        (try clear HO_8)
        (try clear HO_10)
        (try clear HO_12)
        (try clear HO_14)
        (try clear HL393_1)
        (try clear HL394_0)
        (try clear HO399)
        (try clear BK400)
        (try clear HB)
        generalize ((w73.setCell ⟨gb400, 0, none⟩ (.int .i64 t396)).setCell ⟨gb400, 1, none⟩ (.slice Ao75 t397.length co75)) = w82 at n0_ n1_ n2_ n3_ n4_ n5_ n6_ n7_ n8_ ⊢
        have HO_8 := n0_
        have HO_10 := n1_
        have HO_12 := n2_
        have HO_14 := n3_
        have HL393_1 := n4_
        have HL394_0 := n5_
        have HO399 := n6_
        have BK400 := n7_
        have HB := n8_
        clear n0_ n1_ n2_ n3_ n4_ n5_ n6_ n7_ n8_
        have n0_ := Aside0.mk (Kd.N_drew HO_8.out)
        have n1_ := Aside0.mk (Kd.N_drew HO_10.out)
        have n2_ := Aside0.mk (Kd.N_drew HO_12.out)
        have n3_ := Aside0.mk (Kd.N_drew HO_14.out)
        have n4_ := Aside0.mk (Kd.V_drew HL393_1.out)
        have n5_ := Aside0.mk (Kd.V_drew HL394_0.out)
        have n6_ := Aside0.mk (Kd.V_drew HO399.out)
        have n7_ := Aside0.mk (blk_drew BK400.out)
        have n8_ := Aside0.mk (below_drew1 HB.out)
        clear HO_8
        clear HO_10
        clear HO_12
        clear HO_14
        clear HL393_1
        clear HL394_0
        clear HO399
        clear BK400
        clear HB
        have HO_8 := n0_
        have HO_10 := n1_
        have HO_12 := n2_
        have HO_14 := n3_
        have HL393_1 := n4_
        have HL394_0 := n5_
        have HO399 := n6_
        have BK400 := n7_
        have HB := n8_
        clear n0_ n1_ n2_ n3_ n4_ n5_ n6_ n7_ n8_
        obtain ⟨Ao84, co84, eo84⟩ := Kd.N_slice HO_14.out
        (first | subst eo84 | (injection eo84 with f1_ f2_ f3_; have f4_ := f1_.symm; have f5_ := f3_.symm; clear f1_ f2_ f3_; subst f4_; subst f5_))
        have p401 : 0 ≤ (x15_4 : Int) := of_decide_eq_true qx16_1
        have q401 : x15_4 < (x14_5.length : Int) := of_decide_eq_true qx16_1
        obtain ⟨ad401, A401_1, c401_1, e401, hx401_0, hx401_1, hl401_1, hi401_1⟩ := at_T74 (Kd.N_reads' HO_14.out).2.2 x15_4 p401 q401
        cases e401
        obtain ⟨ce401, hce401, hMe401, hcc401⟩ := Kd.N_get HO_14.out z74 x15_4 p401 (by first | exact q401 | exact of_decide_eq_true qx16_1 | (have e_ := (Kd.N_reads' HO_14.out).1; omega))
        obtain ⟨ua401_1, uc401_1, rfl, ul401_1, ge401_1⟩ := k74_openF hMe401
        have hv401_1 := hcc401 1 _ rfl
        rw [add_field _ _ 1 (by omega)] at hv401_1
        replace hv401_1 := Option.some.inj (hv401_1.symm.trans hx401_1)
        injection hv401_1 with hva_ hvn_ hvc_
        rw [hva_] at ge401_1
        rw [hvc_] at ul401_1
        have HL401_1 := Aside0.mk (show Kd.V (Kd.int .i64) 3 _ w.heap.size _ _ ((rd_T74 x14_5 x15_4).f1) from Kd.V_mk ul401_1 ge401_1)
        clear hva_ hvn_ hvc_ ge401_1 ul401_1
        clear hcc401 hce401
        have HR401_1 := Aside0.mk hi401_1
        have HC401_1 := Aside0.mk hl401_1
        clear hi401_1 hl401_1
        replace p401 := eq_true p401
        replace q401 := eq_true q401
        refine start_ (n := 11) (S := fun w' => w'.cell? ⟨gb400, 0, none⟩ = some (.int .i64 t396) ∧ w'.cell? ⟨gb400, 1, none⟩ = some (.slice Ao75 t397.length co75) ∧ w'.cell? (ad401.add ((x15_4).toNat * 2)) = some (.int .i64 ((rd_T74 x14_5 x15_4).f0)) ∧ w'.cell? ⟨(ad401.add ((x15_4).toNat * 2)).block, (ad401.add ((x15_4).toNat * 2)).off + 1, none⟩ = some (.slice A401_1 ((rd_T74 x14_5 x15_4).f1).length c401_1)) (ds := []) #[F16, F16, F16, F16, F16, F16, F16, F16, F16, F16, F16] (by kernel_rfl) rfl rfl ⟨(blk_cell BK400.out 0).trans rfl, (blk_cell BK400.out 1).trans rfl, hx401_0, hx401_1⟩ (fun hHeld => ?_); refine with_tabW segmentation_Counts.tab30 segmentation_Counts.bits30 (fun HT_ HW_ => ?_)
        generalize w82.drew = w83 at HO_8 HO_10 HO_12 HO_14 HL393_1 HL394_0 HO399 BK400 HB HL401_1 HR401_1 hx401_0 hx401_1 hHeld ⊢
        refine pure_ (i := 0) (N := some 127) (v := ?_) (a' := ?_) #[T16, F16, F16, F16, F16, F16, F16, F16, F16, F16, F16] rfl rfl (any_of HT_.out (by kernel_rfl)) (fun _ _ _ h => h) (Or.inl ⟨by rfl, ?_⟩) ?_ ?_
        rotate_left
        ·intro w'
         go_simp
         with_reducible rfl
        rotate_left
        ·simp only [Act.put, List.setIfInBounds_toArray, List.set_cons_zero, List.set_cons_succ, i64_w, i32_w]
         rfl
        refine pure_ (i := 1) (N := some 128) (v := ?_) (a' := ?_) #[T16, T16, F16, F16, F16, F16, F16, F16, F16, F16, F16] rfl rfl (any_of HT_.out (by kernel_rfl)) (fun _ _ _ h => h) (Or.inl ⟨by rfl, ?_⟩) ?_ ?_
        rotate_left
        ·intro w'
         go_simp
         with_reducible rfl
        rotate_left
        ·simp only [Act.put, List.setIfInBounds_toArray, List.set_cons_zero, List.set_cons_succ, i64_w, i32_w]
         rfl
        refine pure_ (i := 2) (N := some 129) (v := ?_) (a' := ?_) #[T16, T16, T16, F16, F16, F16, F16, F16, F16, F16, F16] rfl rfl (any_of HT_.out (by kernel_rfl)) (fun _ _ _ h => h) (Or.inl ⟨by rfl, ?_⟩) ?_ ?_
        rotate_left
        ·intro w'
         go_simp
         with_reducible rfl
        rotate_left
        ·simp only [Act.put, List.setIfInBounds_toArray, List.set_cons_zero, List.set_cons_succ, i64_w, i32_w]
         rfl
        refine pure_ (i := 3) (N := some 130) (v := ?_) (a' := ?_) #[T16, T16, T16, T16, F16, F16, F16, F16, F16, F16, F16] rfl rfl (any_of HT_.out (by kernel_rfl)) (fun _ _ _ h => h) (Or.inl ⟨by rfl, ?_⟩) ?_ ?_
        rotate_left
        ·intro w'
         go_simp
         with_reducible rfl
        rotate_left
        ·simp only [Act.put, List.setIfInBounds_toArray, List.set_cons_zero, List.set_cons_succ, i64_w, i32_w]
         rfl
        refine pure_ (i := 5) (N := some 132) (v := ?_) (a' := ?_) #[T16, T16, T16, T16, F16, T16, F16, F16, F16, F16, F16] rfl rfl (any_of HT_.out (by kernel_rfl)) (fun _ _ _ h => h) (Or.inl ⟨by rfl, ?_⟩) ?_ ?_
        rotate_left
        ·intro w'
         go_simp
         with_reducible rfl
        rotate_left
        ·simp only [Act.put, List.setIfInBounds_toArray, List.set_cons_zero, List.set_cons_succ, i64_w, i32_w]
         rfl
        refine pure_ (i := 6) (N := some 133) (v := ?_) (a' := ?_) #[T16, T16, T16, T16, F16, T16, T16, F16, F16, F16, F16] rfl rfl (any_of HT_.out (by kernel_rfl)) (fun _ _ _ h => h) (Or.inl ⟨by rfl, ?_⟩) ?_ ?_
        rotate_left
        ·intro w'
         go_simp
         with_reducible rfl
        rotate_left
        ·simp only [Act.put, List.setIfInBounds_toArray, List.set_cons_zero, List.set_cons_succ, i64_w, i32_w]
         rfl
        refine pure_ (i := 7) (N := some 134) (v := ?_) (a' := ?_) #[T16, T16, T16, T16, F16, T16, T16, T16, F16, F16, F16] rfl rfl (any_of HT_.out (by kernel_rfl)) (fun _ _ _ h => h) (Or.inl ⟨by rfl, ?_⟩) ?_ ?_
        rotate_left
        ·intro w'
         go_simp
         with_reducible rfl
        rotate_left
        ·simp only [Act.put, List.setIfInBounds_toArray, List.set_cons_zero, List.set_cons_succ, i64_w, i32_w]
         rfl
        refine take_ (i := 4) (N := some 131) (v := ?_) (a' := ?_) #[T16, T16, T16, T16, T16, T16, T16, T16, F16, F16, F16] rfl rfl (take_ofW HT_.out HW_.out (by kernel_rfl)) (fun _ _ _ h => h) (Or.inl ⟨by rfl, ?_⟩) hHeld ?_ ?_
        rotate_left
        ·rintro w' ⟨s0, s1, s2, s3⟩
         go_simp
         with_reducible rfl
        rotate_left
        ·simp only [Act.put, List.setIfInBounds_toArray, List.set_cons_zero, List.set_cons_succ, i64_w, i32_w]
         rfl
        refine take_ (i := 8) (N := some 135) (v := ?_) (a' := ?_) #[T16, T16, T16, T16, T16, T16, T16, T16, T16, F16, F16] rfl rfl (take_ofW HT_.out HW_.out (by kernel_rfl)) (fun _ _ _ h => h) (Or.inl ⟨by rfl, ?_⟩) hHeld ?_ ?_
        rotate_left
        ·rintro w' ⟨s0, s1, s2, s3⟩
         go_simp
         with_reducible rfl
        rotate_left
        ·simp only [Act.put, List.setIfInBounds_toArray, List.set_cons_zero, List.set_cons_succ, i64_w, i32_w]
         rfl
        refine one_ (i := 9) (N := some 136) #[T16, T16, T16, T16, T16, T16, T16, T16, T16, T16, F16] rfl rfl (one_of HT_.out (by kernel_rfl)) (by decide) (fun K hK => ?_)
        refine goes_ Try.func47 (by kernel_rfl) rfl #[.agg #[.int .i64 t396, .slice Ao75 t397.length co75], .agg #[.int .i64 ((rd_T74 x14_5 x15_4).f0), .slice A401_1 ((rd_T74 x14_5 x15_4).f1).length c401_1]] (by rfl) rfl rfl qx16_8 ?_
        with_reducible refine (segmentation_best_better.calls kj46 t396 _ _ t397 ((rd_T74 x14_5 x15_4).f0) _ _ ((rd_T74 x14_5 x15_4).f1) t402 _ ?side1 ?side2 ?side3 ?side4 A81.out).mono ?_
        (case side1 => repeat (first | exact (Kd.V_reads' HO399.out).2.2 | (with_reducible refine Kd.C_alloc ?_ _) | (with_reducible refine Kd.C_drewN ?_ _) | (with_reducible refine Kd.C_drew ?_)))
        (case side2 => exact (Kd.V_reads' HO399.out).2.1)
        (case side3 => repeat (first | exact qx16_33 | (with_reducible refine Kd.C_alloc ?_ _) | (with_reducible refine Kd.C_drewN ?_ _) | (with_reducible refine Kd.C_drew ?_)))
        (case side4 => exact HC401_1.out)
        rintro e w85 ⟨rfl, hb⟩
        have HS2_ := (hb.cell (World.block_lt_of_cell? _ _ (hHeld.2.2.1))).trans (hHeld.2.2.1)
        have HS3_ := (hb.cell (World.block_lt_of_cell? _ _ (hHeld.2.2.2))).trans (hHeld.2.2.2)
        refine ⟨_, rfl, ?_⟩
        have n0_ := Aside0.mk (Kd.N_below qx16_2 hb)
        have n1_ := Aside0.mk (Kd.N_below qx16_3 hb)
        have n2_ := Aside0.mk (Kd.N_below qx16_5 hb)
        have n3_ := Aside0.mk (Kd.N_below qx16_6 hb)
        have n4_ := Aside0.mk (Kd.V_below qx16_21 hb)
        have n5_ := Aside0.mk (Kd.V_below qx16_22 hb)
        have n6_ := Aside0.mk (Kd.V_below qx16_24 hb)
        have n7_ := Aside0.mk (Kd.V_below (by (with_reducible repeat (first | apply Kd.V_alloc | apply Kd.V_drewN | apply Kd.V_drew)); exact HL401_1.out) hb)
        have n8_ := Aside0.mk (blk_below (g := gb400) (o := .cells #[.int .i64 t396, .slice Ao75 t397.length co75] 74 (0, 0)) qx16_9 hb)
        have n9_ := Aside0.mk (Kd.C_below qx16_33 hb)
        have n10_ := Aside0.mk (below_step qx16_4 hb)
        clear HO_8
        clear HO_10
        clear HO_12
        clear HO_14
        clear HL393_1
        clear HL394_0
        clear HO399
        clear HL401_1
        clear BK400
        clear HR401_1
        clear HB
        have HO_8 := n0_
        have HO_10 := n1_
        have HO_12 := n2_
        have HO_14 := n3_
        have HL393_1 := n4_
        have HL394_0 := n5_
        have HO399 := n6_
        have HL401_1 := n7_
        have BK400 := n8_
        have HR401_1 := n9_
        have HB := n10_
        clear n0_ n1_ n2_ n3_ n4_ n5_ n6_ n7_ n8_ n9_ n10_
        (try clear hb)
        (try clear hb2)
        (try clear hk)
        (try clear hi)
        refine hK.out _ _ ⟨(blk_cell BK400.out 0).trans rfl, (blk_cell BK400.out 1).trans rfl, HS2_, HS3_⟩ (fun hHeld => ?_)
        clear hK K
        refine norm_ (a' := ?_) ?_ ?_
        rotate_left
        ·show Act.put _ (some 136) _ = _
         simp only [Act.put, List.setIfInBounds_toArray, List.set_cons_zero, List.set_cons_succ, i64_w, i32_w]
         rfl
        refine pure_ (i := 10) (N := some 137) (v := ?_) (a' := ?_) #[T16, T16, T16, T16, T16, T16, T16, T16, T16, T16, T16] rfl rfl (any_of HT_.out (by kernel_rfl)) (fun _ _ _ h => h) (Or.inl ⟨by rfl, ?_⟩) ?_ ?_
        rotate_left
        ·intro w'
         go_simp
         with_reducible rfl
        rotate_left
        ·simp only [Act.put, List.setIfInBounds_toArray, List.set_cons_zero, List.set_cons_succ, i64_w, i32_w]
         rfl
        refine done_ (done_of HT_.out (by kernel_rfl)) ?_
        try go_wp2
        go_meet
        case rel => exact ⟨_, (t402), qx16_11, H', ⟨qx16_36⟩, ⟨qx16_2⟩, ⟨qx16_3⟩, ⟨qx16_5⟩, ⟨qx16_6⟩, ⟨qx16_24⟩, ⟨qx16_9⟩, ⟨qx16_4⟩⟩
       clear HC67
       try clear p2
       try clear c3
       try clear c4
       try clear p4
       try clear q4
       try clear hx4
       try clear c7
       try clear c8
       try clear c39
       try clear c40
       try clear p40
       try clear q40
       try clear hx40
       try clear c46
       try clear c47
       try clear c77
       try clear c77b0
       try clear c77b1
       try clear c80
       try clear c80b0
       try clear hx401_0
       try clear hx401_1
       try clear p401
       try clear q401
       obtain ⟨kq, x137_66, rfl, HA, HJ66, HO_8, HO_10, HO_12, HO_14, HO_401001, BK400, HB⟩ := hcut
       cases kq with
       | zero => exact absurd HA.out (by simp [segmentation_Counts.j6])
       | succ kj66 =>
        have H := HA.out
        clear HA
        simp only [segmentation_Counts.j6] at H
        by_cases c86 : x137_66 = true
        rotate_left
        ·replace c86 := Bool.eq_false_iff.mpr c86
         subst c86
         have H1 : (segmentation_Counts.l4 kj66 a1 (l0.length : Int) x8_1 x10_3 x12_3 x13_3 x14_5 x15_4 (wrap64 (x16_5 + 1))) = some (r1, r2) := by rw [if_neg (show ¬ (false = true) by decide)] at H; exact H
         clear H
         have H := H1
         clear H1
         have H' := Aside0.mk H
         clear H
         go_wp2
         go_roundg kj66
         case measure => have := HK1.out; have := HK2.out; have := HK3.out; have := HK4.out; have := HK5.out; have := HJ46.out; have := HJ66.out; omega
         case rel => exact ⟨(x14_5), (wrap64 (x16_5 + 1)), qx16_11, H', ⟨by have := HK1.out; have := HK2.out; have := HK3.out; have := HK4.out; have := HK5.out; have := HJ46.out; have := HJ66.out; omega⟩, ⟨by (with_reducible repeat (first | apply Kd.N_alloc | apply Kd.N_drewN | apply Kd.N_drew)); exact Kd.N_mono HO_8.out (fun _ hk => ⟨hk.1, ⟨hk.2.1, ⟨hk.2.2.1, hk.2.2.2.1⟩⟩⟩)⟩, ⟨by (with_reducible repeat (first | apply Kd.N_alloc | apply Kd.N_drewN | apply Kd.N_drew)); exact Kd.N_mono HO_10.out (fun _ hk => ⟨hk.1, ⟨hk.2.1, ⟨hk.2.2.1, hk.2.2.2.1⟩⟩⟩)⟩, ⟨by (with_reducible repeat (first | apply Kd.N_alloc | apply Kd.N_drewN | apply Kd.N_drew)); exact Kd.N_mono HO_12.out (fun _ hk => ⟨hk.1, ⟨hk.2.1, ⟨hk.2.2.1, hk.2.2.2.1⟩⟩⟩)⟩, ⟨qx16_34⟩, ⟨qx16_4⟩⟩
        subst c86
        have H1 : (if 0 ≤ x15_4 then (if x15_4 < (x14_5.length : Int) then (segmentation_Counts.l4 kj66 a1 (l0.length : Int) x8_1 x10_3 x12_3 x13_3 (x14_5.set (x15_4 : Int).toNat (⟨t396, t397⟩ : S74)) x15_4 (wrap64 (x16_5 + 1))) else (none)) else (none)) = some (r1, r2) := by rw [if_pos rfl] at H; exact H
        clear H
        have H := H1
        clear H1
        by_cases c87 : 0 ≤ x15_4
        rotate_left
        ·rw [if_neg c87] at H
         exact absurd H (by simp)
        rw [if_pos c87] at H
        have c87b0 : decide (0 ≤ x15_4) = true := decide_eq_true c87
        clear c87
        by_cases c88 : x15_4 < (x14_5.length : Int)
        rotate_left
        ·rw [if_neg c88] at H
         exact absurd H (by simp)
        rw [if_pos c88] at H
        have c88b0 : decide (x15_4 < (x14_5.length : Int)) = true := decide_eq_true c88
        clear c88
        obtain ⟨y403, hy403⟩ : ∃ y_ : List (S74), y_ = (x14_5.set (x15_4 : Int).toNat (⟨t396, t397⟩ : S74)) := ⟨_, rfl⟩
        replace H : (segmentation_Counts.l4 kj66 a1 (l0.length : Int) x8_1 x10_3 x12_3 x13_3 y403 x15_4 (wrap64 (x16_5 + 1))) = some (r1, r2) := by first | (rw [hy403]; with_reducible exact H) | (have H2_ := (Option.bind_some _ _).symm.trans H; rw [hy403]; with_reducible exact H2_) | (have H2_ := (Option.bind_some _ _).symm.trans H; with_reducible exact H2_) | with_reducible exact H | (rw [hy403]; exact H) | exact H
        have Ny403 := Aside0.mk hy403
        clear hy403
        have H' := Aside0.mk H
        clear H
        have hcz90_0 : wc.cell? ⟨gb400, 0, none⟩ = some (.int .i64 t396) := (blk_cell BK400.out 0).trans rfl
        have hcz90_1 : wc.cell? ⟨gb400, 1, none⟩ = some (.slice Ao75 t397.length co75) := (blk_cell BK400.out 1).trans rfl
        have hfz90_0 := blk_frozen BK400.out 0
        have hfz90_1 := blk_frozen BK400.out 1
        have p89 : 0 ≤ (x15_4 : Int) := of_decide_eq_true qx16_1
        have q89 : (x15_4 : Int) < ((x14_5.length : Int) : Int) := of_decide_eq_true qx16_1
        obtain ⟨go89, co89, eo89, gb89, gl89, cl89, HG89⟩ := Kd.N_form HO_14.out (by omega)
        (first | cases eo89 | (injection eo89 with ea_ en_ ec_; (first | subst ea_ | (injection ea_ with ea_; subst ea_)); subst ec_; clear en_))
        have GB89 := Aside0.mk gb89
        have GG89 := Aside0.mk HG89
        clear gb89 gl89 HG89
        obtain ⟨ce89, hcl89, hM89, hcc89, hfr89⟩ := Kd.N_elem HO_14.out z74 (x15_4 : Int) p89 q89
        obtain ⟨ua89_1, uc89_1, rfl, ul89_1, ge89_1⟩ := k74_openF hM89
        have hx89_0 : wc.cell? ⟨go89, (x15_4 : Int).toNat * 2, none⟩ = some (.int .i64 ((rd_T74 x14_5 x15_4).f0)) := hcc89 0 _ rfl
        have hx89_1 : wc.cell? ⟨go89, (x15_4 : Int).toNat * 2 + 1, none⟩ = some (.slice ua89_1 ((rd_T74 x14_5 x15_4).f1).length uc89_1) := hcc89 1 _ rfl
        have hf89_0 : wc.frozen? ⟨go89, (x15_4 : Int).toNat * 2, none⟩ = false := hfr89 0
        have hf89_1 : wc.frozen? ⟨go89, (x15_4 : Int).toNat * 2 + 1, none⟩ = false := hfr89 1
        clear hcl89 hcc89 hfr89 hM89
        replace p89 := eq_true p89
        replace q89 := eq_true q89
        have HX91 := Aside0.mk (show Kd.N k74 74 wc w.heap.size (fun k_ => (w.heap.size ≤ k_) ∧ some k_ ≠ (.slice (some ad394) x8_1.length co70 : Value).ownBlock ∧ some k_ ≠ (.slice (some ad393) x10_3.length co69 : Value).ownBlock ∧ some k_ ≠ (u12 : Value).ownBlock ∧ k_ ≠ gb400) (.slice (some ⟨go89, 0, none⟩) x14_5.length co89) x14_5 from qx16_6)
        obtain ⟨ce91, hcl91, hM91, hcc91, hfr91⟩ := Kd.N_elem HX91.out z74 (x15_4 : Int) (of_decide_eq_true qx16_1) (by have h_ : (x15_4 : Int) < ((x14_5.length : Int) : Int) := of_decide_eq_true qx16_1; first | exact h_ | (have e_ := (Kd.N_reads' HO_14.out).1; omega) | simpa using h_)
        obtain ⟨ua91_1, uc91_1, rfl, ul91_1, ge91_1⟩ := k74_openF hM91
        have HP91 := Kd.N_seg HX91.out (x15_4 : Int) (of_decide_eq_true qx16_1) (by have h_ : (x15_4 : Int) < ((x14_5.length : Int) : Int) := of_decide_eq_true qx16_1; first | exact h_ | (have e_ := (Kd.N_reads' HO_14.out).1; omega) | simpa using h_) (seg := [.int .i64 t396, .slice Ao75 t397.length co75]) (j := 0) hcl91 hcc91 (show 2 ≤ 2 from by decide) (x' := (⟨t396, t397⟩ : S74)) (k74_mkF _ _ (⟨t396, t397⟩ : S74) (Kd.V_reads' (Kd.V_mono (ok' := (fun k_ => ((fun k_ => (w.heap.size ≤ k_) ∧ some k_ ≠ (.slice (some ad394) x8_1.length co70 : Value).ownBlock ∧ some k_ ≠ (.slice (some ad393) x10_3.length co69 : Value).ownBlock ∧ some k_ ≠ (u12 : Value).ownBlock ∧ k_ ≠ gb400)) k_ ∧ k_ ≠ go89)) (HO_401001.out) (fun k_ hk => ⟨⟨hk.1, ⟨hk.2.1, ⟨hk.2.2.1, ⟨hk.2.2.2.1, hk.2.2.2.2.2⟩⟩⟩⟩, fun e_ => (hk.2.2.2.2.1) (by rw [e_]; rfl)⟩))).2.1 (Kd.V_F (Kd.V_mono (ok' := (fun k_ => ((fun k_ => (w.heap.size ≤ k_) ∧ some k_ ≠ (.slice (some ad394) x8_1.length co70 : Value).ownBlock ∧ some k_ ≠ (.slice (some ad393) x10_3.length co69 : Value).ownBlock ∧ some k_ ≠ (u12 : Value).ownBlock ∧ k_ ≠ gb400)) k_ ∧ k_ ≠ go89)) (HO_401001.out) (fun k_ hk => ⟨⟨hk.1, ⟨hk.2.1, ⟨hk.2.2.1, ⟨hk.2.2.2.1, hk.2.2.2.2.2⟩⟩⟩⟩, fun e_ => (hk.2.2.2.2.1) (by rw [e_]; rfl)⟩)))) (fun _ hk => hk)
        have hx91_0 := hcc91 0 _ rfl
        (try simp only [show (k74).sz = 2 from rfl, Nat.mul_one, Nat.add_zero] at hx91_0)
        have hf91_0 := hfr91 0
        (try simp only [show (k74).sz = 2 from rfl, Nat.mul_one, Nat.add_zero] at hf91_0)
        have hx91_1 := hcc91 1 _ rfl
        (try simp only [show (k74).sz = 2 from rfl, Nat.mul_one, Nat.add_zero] at hx91_1)
        have hf91_1 := hfr91 1
        (try simp only [show (k74).sz = 2 from rfl, Nat.mul_one, Nat.add_zero] at hf91_1)
        clear hcl91 hcc91 hfr91 hM91
        go_wp2_with (first | ((with_reducible refine gate_store (t := 74) (p := 141) rfl ?_); refine store_event (t := 74) (p := 141) (v := ?vo_w92) (w1 := ((wc.setCell ⟨go89, (x15_4 : Int).toNat * 2, none⟩ (.int .i64 t396)).setCell ⟨go89, (x15_4 : Int).toNat * 2 + 1, none⟩ (.slice Ao75 t397.length co75))) ?hg ?ho ?hn ?hr ?_; (case ho => rfl); (case hg => rfl); (case hn => rfl); (case hr => first | (go_simp; done) | (go_simp; rfl)); intro w92 hw; have hg : wc.grownBy w92 (some go89) := (by rw [hw]; exact HP91.2); have hp_ : Kd.N k74 74 w92 w.heap.size (fun k_ => (w.heap.size ≤ k_) ∧ some k_ ≠ (.slice (some ad394) x8_1.length co70 : Value).ownBlock ∧ some k_ ≠ (.slice (some ad393) x10_3.length co69 : Value).ownBlock ∧ some k_ ≠ (u12 : Value).ownBlock ∧ k_ ≠ gb400) (.slice (some ⟨go89, 0, none⟩) x14_5.length co89) y403 := (by rw [hw, Ny403.out]; exact HP91.1); clear HP91; have n0_ := Aside0.mk (Kd.N_afterv (v := (.slice (some ⟨go89, 0, none⟩) x14_5.length co89)) (v1 := (.slice (some ⟨go89, 0, none⟩) x14_5.length co89)) (ok := (fun k_ => (w.heap.size ≤ k_) ∧ some k_ ≠ (.slice (some ad393) x10_3.length co69 : Value).ownBlock ∧ some k_ ≠ (u12 : Value).ownBlock ∧ k_ ≠ gb400)) (by (with_reducible repeat (first | apply Kd.N_alloc | apply Kd.N_drewN | apply Kd.N_drew)); exact Kd.N_mono HO_8.out (fun _ hk => ⟨⟨hk.1, ⟨hk.2.1, ⟨hk.2.2.1, hk.2.2.2.2⟩⟩⟩, hk.2.2.2.1⟩)) hg (.inl rfl)); have n1_ := Aside0.mk (Kd.N_afterv (v := (.slice (some ⟨go89, 0, none⟩) x14_5.length co89)) (v1 := (.slice (some ⟨go89, 0, none⟩) x14_5.length co89)) (ok := (fun k_ => (w.heap.size ≤ k_) ∧ some k_ ≠ (.slice (some ad394) x8_1.length co70 : Value).ownBlock ∧ some k_ ≠ (u12 : Value).ownBlock ∧ k_ ≠ gb400)) (by (with_reducible repeat (first | apply Kd.N_alloc | apply Kd.N_drewN | apply Kd.N_drew)); exact Kd.N_mono HO_10.out (fun _ hk => ⟨⟨hk.1, ⟨hk.2.1, ⟨hk.2.2.1, hk.2.2.2.2⟩⟩⟩, hk.2.2.2.1⟩)) hg (.inl rfl)); have n2_ := Aside0.mk (Kd.N_afterv (v := (.slice (some ⟨go89, 0, none⟩) x14_5.length co89)) (v1 := (.slice (some ⟨go89, 0, none⟩) x14_5.length co89)) (ok := (fun k_ => (w.heap.size ≤ k_) ∧ some k_ ≠ (.slice (some ad394) x8_1.length co70 : Value).ownBlock ∧ some k_ ≠ (.slice (some ad393) x10_3.length co69 : Value).ownBlock ∧ k_ ≠ gb400)) (by (with_reducible repeat (first | apply Kd.N_alloc | apply Kd.N_drewN | apply Kd.N_drew)); exact Kd.N_mono HO_12.out (fun _ hk => ⟨⟨hk.1, ⟨hk.2.1, ⟨hk.2.2.1, hk.2.2.2.2⟩⟩⟩, hk.2.2.2.1⟩)) hg (.inl rfl)); have n3_ := Aside0.mk (hp_); have n4_ := Aside0.mk (Kd.V_afterv (v := (.slice (some ⟨go89, 0, none⟩) x14_5.length co89)) (v1 := (.slice (some ⟨go89, 0, none⟩) x14_5.length co89)) (ok := (fun k_ => (w.heap.size ≤ k_) ∧ some k_ ≠ (.slice (some ad394) x8_1.length co70 : Value).ownBlock ∧ some k_ ≠ (.slice (some ad393) x10_3.length co69 : Value).ownBlock ∧ some k_ ≠ (u12 : Value).ownBlock ∧ k_ ≠ gb400)) (by (with_reducible repeat (first | apply Kd.V_alloc | apply Kd.V_drewN | apply Kd.V_drew)); exact Kd.V_mono HO_401001.out (fun _ hk => ⟨⟨hk.1, ⟨hk.2.1, ⟨hk.2.2.1, ⟨hk.2.2.2.1, hk.2.2.2.2.2⟩⟩⟩⟩, hk.2.2.2.2.1⟩)) hg (.inl rfl)); have n5_ := Aside0.mk (blk_grown (g := gb400) (o := .cells #[.int .i64 t396, .slice Ao75 t397.length co75] 74 (0, 0)) qx16_9 hg (Kd.N_away HO_14.out (fun _ hk => hk.2.2.2.2))); have n6_ := Aside0.mk ((by rw [hw]; exact below_set (below_set (HB.out) GB89.out) GB89.out : Below w.heap.size w w92)); clear HO_8; clear HO_10; clear HO_12; clear HO_14; clear HO_401001; clear BK400; clear HB; have HO_8 := n0_; have HO_10 := n1_; have HO_12 := n2_; have HO_14 := n3_; have HO_401001 := n4_; have BK400 := n5_; have HB := n6_; clear n0_ n1_ n2_ n3_ n4_ n5_ n6_; clear hg hw hp_))
        go_roundg kj66
        case measure => have := HK1.out; have := HK2.out; have := HK3.out; have := HK4.out; have := HK5.out; have := HJ46.out; have := HJ66.out; omega
        case rel => exact ⟨(y403), (wrap64 (x16_5 + 1)), qx16_11, H', ⟨by have := HK1.out; have := HK2.out; have := HK3.out; have := HK4.out; have := HK5.out; have := HJ46.out; have := HJ66.out; omega⟩, ⟨by (with_reducible repeat (first | apply Kd.N_alloc | apply Kd.N_drewN | apply Kd.N_drew)); exact Kd.N_mono HO_8.out (fun _ hk => ⟨hk.1.1, ⟨hk.1.2.1, ⟨hk.1.2.2.1, hk.2⟩⟩⟩)⟩, ⟨by (with_reducible repeat (first | apply Kd.N_alloc | apply Kd.N_drewN | apply Kd.N_drew)); exact Kd.N_mono HO_10.out (fun _ hk => ⟨hk.1.1, ⟨hk.1.2.1, ⟨hk.1.2.2.1, hk.2⟩⟩⟩)⟩, ⟨by (with_reducible repeat (first | apply Kd.N_alloc | apply Kd.N_drewN | apply Kd.N_drew)); exact Kd.N_mono HO_12.out (fun _ hk => ⟨hk.1.1, ⟨hk.1.2.1, ⟨hk.1.2.2.1, hk.2⟩⟩⟩)⟩, ⟨qx16_34⟩, ⟨qx16_4⟩⟩

end Go.Proofs.Ytiimanpmidnffaa.Q
