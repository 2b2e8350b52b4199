-- The walk of the definition's pruned. Laid by myprint.py and turned by prune_ref.py (programs of this session's, over the kit's printer)
import Derived.Test.YtiimanpmidnffaaQx0
import Derived.Test.YtiimanpmidnffaaQx9
import Derived.Test.YtiimanpmidnffaaQy4
namespace Go.Proofs.Ytiimanpmidnffaa.Q
open Go.RowKit Go.Proofs.YtiimanpmidnffaaW.PrintWords Go.Proofs.YtiimanpmidnffaaW.PrintLast Go.Proofs.YtiimanpmidnffaaW.PrintMore
attribute [local go_sem] max2_int min2_int max_two min_two max_three min_three max_four min_four   -- for this text's walks alone
set_option linter.unusedVariables false
set_option linter.unusedSimpArgs false

/-- The cells of a row of Booleans. -/
def bcells (l : List Bool) : Array Value := (l.map Value.bool).toArray
def rdb (l : List Bool) (i : Int) : Bool := l.getD i.toNat false
theorem bget {l : List Bool} (hl : l.length = 10) {i : Int} (h0 : 0 ≤ i) (h1 : i < 10) {b : Bool} (hb : rdb l i = b) : (bcells l)[i.toNat]? = some (.bool b) := by
  subst hb
  have : i.toNat < l.length := by omega
  unfold bcells rdb
  rw [List.getElem?_toArray, List.getElem?_map, List.getD_eq_getElem?_getD, List.getElem?_eq_getElem this]
  rfl
theorem bset (l : List Bool) (i : Nat) (b : Bool) : (bcells l).setIfInBounds i (.bool b) = bcells (l.set i b) := by
  unfold bcells
  rw [List.setIfInBounds_toArray, List.map_set]
/-! ### sleuthlaw44_pruned: function 26 -/
mutual
def sleuthlaw44_pruned.l0 : Nat → List Int → List Int → Int → Int → List Bool → Option (Int)
 | 0, _, _, _, _, _ => none
 | k + 1, x0, x5, x7, x8, x385000 => if x8 ≤ (x0.length : Int) then (sleuthlaw44_pruned.l1 k x0 x5 x7 x8 0 x385000) else (some x7)
def sleuthlaw44_pruned.l1 : Nat → List Int → List Int → Int → Int → Int → List Bool → Option (Int)
 | 0, _, _, _, _, _, _ => none
 | k + 1, x0, x5, x7, x8, x9, x385000 => if x9 < x8 then (if 0 ≤ x9 then (if x9 < 10 then (if rdb x385000 x9 = true then (sleuthlaw44_pruned.l1 k x0 x5 x7 x8 (wrap64 (x9 + 1)) x385000) else (if 0 ≤ x9 then (if x9 < (x5.length : Int) then (if x9 ≤ x8 then (if x8 ≤ (x0.length : Int) then ((sleuthlaw44_cost.f k ((x0.take (x8 : Int).toNat).drop (x9 : Int).toNat)).bind fun t387 => (if 0 ≤ x8 then (if x8 < (x5.length : Int) then (sleuthlaw44_pruned.l1 k x0 x5 (wrap64 (x7 + 1)) x8 (wrap64 (x9 + 1)) (x385000.set (x9 : Int).toNat (decide ((wrap64 ((rd x5 x9) + t387)) > (rd x5 x8))))) else (none)) else (none))) else (none)) else (none)) else (none)) else (none))) else (none)) else (none)) else (sleuthlaw44_pruned.l0 k x0 x5 x7 (wrap64 (x8 + 1)) x385000)
end
def sleuthlaw44_pruned.f (k : Nat) (l0 : List Int) (a1 : Int) : Option (Int) := (sleuthlaw44_potentials.f k l0 a1).bind fun t381 => (sleuthlaw44_pruned.l0 k l0 t381 0 1 (List.replicate 10 false))
theorem sleuthlaw44_pruned.mono_l : ∀ k, (∀ y0 y1 y2 y3 y4, LeO (sleuthlaw44_pruned.l0 k y0 y1 y2 y3 y4) (sleuthlaw44_pruned.l0 (k + 1) y0 y1 y2 y3 y4)) ∧ (∀ y0 y1 y2 y3 y4 y5, LeO (sleuthlaw44_pruned.l1 k y0 y1 y2 y3 y4 y5) (sleuthlaw44_pruned.l1 (k + 1) y0 y1 y2 y3 y4 y5))
 | 0 => ⟨fun _ _ _ _ _ r h => by simp [sleuthlaw44_pruned.l0] at h, fun _ _ _ _ _ _ r h => by simp [sleuthlaw44_pruned.l1] at h⟩
 | k + 1 => by
  obtain ⟨ih0, ih1⟩ := sleuthlaw44_pruned.mono_l k
  refine ⟨?_, ?_⟩
  ·intro y0 y1 y2 y3 y4
   unfold sleuthlaw44_pruned.l0
   repeat' first
   | (with_reducible exact ih0 _ _ _ _ _)
   | (with_reducible exact ih1 _ _ _ _ _ _)
   | (with_reducible exact sleuthlaw44_cost.mono _ _)
   | (with_reducible exact sleuthlaw44_potentials.mono _ _ _)
   | (with_reducible exact LeO.refl _)
   | (with_reducible exact LeO.none _)
   | (with_reducible refine LeO.ite ?_ ?_)
   | (with_reducible refine LeO.bind ?_ (fun _ => ?_))
   | exact ih0 _ _ _ _ _
   | exact ih1 _ _ _ _ _ _
   | exact sleuthlaw44_cost.mono _ _
   | exact sleuthlaw44_potentials.mono _ _ _
   | exact LeO.none _
   | refine LeO.ite ?_ ?_
   | refine LeO.bind ?_ (fun _ => ?_)
  ·intro y0 y1 y2 y3 y4 y5
   unfold sleuthlaw44_pruned.l1
   repeat' first
   | (with_reducible exact ih0 _ _ _ _ _)
   | (with_reducible exact ih1 _ _ _ _ _ _)
   | (with_reducible exact sleuthlaw44_cost.mono _ _)
   | (with_reducible exact sleuthlaw44_potentials.mono _ _ _)
   | (with_reducible exact LeO.refl _)
   | (with_reducible exact LeO.none _)
   | (with_reducible refine LeO.ite ?_ ?_)
   | (with_reducible refine LeO.bind ?_ (fun _ => ?_))
   | exact ih0 _ _ _ _ _
   | exact ih1 _ _ _ _ _ _
   | exact sleuthlaw44_cost.mono _ _
   | exact sleuthlaw44_potentials.mono _ _ _
   | exact LeO.none _
   | refine LeO.ite ?_ ?_
   | refine LeO.bind ?_ (fun _ => ?_)
theorem sleuthlaw44_pruned.mono : ∀ a0 a1 k, LeO (sleuthlaw44_pruned.f k a0 a1) (sleuthlaw44_pruned.f (k + 1) a0 a1) := by
 intro a0 a1 k
 obtain ⟨ih0, ih1⟩ := sleuthlaw44_pruned.mono_l k
 unfold sleuthlaw44_pruned.f
 repeat' first
   | (with_reducible exact ih0 _ _ _ _ _)
   | (with_reducible exact ih1 _ _ _ _ _ _)
   | (with_reducible exact sleuthlaw44_cost.mono _ _)
   | (with_reducible exact sleuthlaw44_potentials.mono _ _ _)
   | (with_reducible exact LeO.refl _)
   | (with_reducible exact LeO.none _)
   | (with_reducible refine LeO.ite ?_ ?_)
   | (with_reducible refine LeO.bind ?_ (fun _ => ?_))
   | exact ih0 _ _ _ _ _
   | exact ih1 _ _ _ _ _ _
   | exact sleuthlaw44_cost.mono _ _
   | exact sleuthlaw44_potentials.mono _ _ _
   | exact LeO.none _
   | refine LeO.ite ?_ ?_
   | refine LeO.bind ?_ (fun _ => ?_)
def sleuthlaw44_pruned.T12 : Bool × List (List Nat × List Nat) := (true, [([], []), ([], []), ([], []), ([1, 2], [1, 2]), ([3], [3]), ([], []), ([], []), ([], []), ([5, 6, 7], [5, 6, 7]), ([8], [8]), ([4, 9], [4, 9]), ([], []), ([], []), ([11, 12], [11, 12]), ([13], [13]), ([10, 14], [10, 14]), ([0, 0, 1, 2, 3, 4, 5, 6, 7, 8, 9, 10, 11, 12, 13, 14, 15], [0]), ([16, 15, 9, 0, 1, 2, 3, 4, 5, 6, 7, 8, 9, 10, 11, 12, 13, 14, 15], [15, 16])])
def sleuthlaw44_pruned.B12 : List Nat := [0, 0, 0, 6, 14, 0, 0, 0, 224, 480, 1022, 0, 0, 6144, 14336, 32766, 65535, 131071]
theorem sleuthlaw44_pruned.tab12 : rtab .any (opsOf Try.f26 12) = sleuthlaw44_pruned.T12 := by kernel_rfl
theorem sleuthlaw44_pruned.bits12 : waitsOk sleuthlaw44_pruned.T12.2 sleuthlaw44_pruned.B12 = true := by kernel_rfl
set_option maxHeartbeats 8000000 in
set_option maxRecDepth 100000 in
theorem sleuthlaw44_pruned.calls (k : Nat) (A0 : Option Addr) (c0 : Nat) (l0 : List Int) (a1 : Int) (r : Int) (w : World) (hr0 : Kd.C (Kd.int .i64) w A0 l0.length l0) (hc0 : l0.length ≤ c0) (h : sleuthlaw44_pruned.f k l0 a1 = some r) :
  Calls Try.prog 26 #[.slice A0 l0.length c0, .int .i64 a1] w fun e w' => e = .returned (.int .i64 r) ∧ Below w.heap.size w w' := by
 have hu75 := Try.underlying75
 have HR0 := Aside0.mk hr0
 have HC0 := Aside0.mk hc0
 clear hr0 hc0
 have HB := Aside0.mk (Below.refl w.heap.size w)
 have H : ((sleuthlaw44_potentials.f k l0 a1).bind fun t381 => (sleuthlaw44_pruned.l0 k l0 t381 0 1 (List.replicate 10 false))) = some r := h
 clear h
 replace H := Option.bind_eq_some_iff.mp H
 obtain ⟨t381, A30, H⟩ := H
 replace H : (sleuthlaw44_pruned.l0 k l0 t381 0 1 (List.replicate 10 false)) = some r := H
 have A3 := Aside0.mk A30
 clear A30
 have H' := Aside0.mk H
 clear H
 go_enter Try.func26, Try.ntmps26
 go_wp2_with (first | ((with_reducible refine gate_callee (f := 19) rfl ?_); refine goesL_ (some 12) rfl rfl Try.func19 (by kernel_rfl) rfl #[.slice A0 l0.length c0, .int .i64 a1] rfl (by (try simp only [List.map_toArray, List.map_cons, List.map_nil]); first | done | rfl | (simp only [List.length_drop, List.length_take]; rfl)) ?_; (with_reducible refine (sleuthlaw44_potentials.calls k _ _ l0 a1 t381 _ ?side1 ?side2 A3.out).mono ?_); (case side1 => repeat (first | exact HR0.out | (with_reducible refine Kd.C_alloc ?_ _) | (with_reducible refine Kd.C_drewN ?_ _) | (with_reducible refine Kd.C_drew ?_))); (case side2 => exact HC0.out); rintro e w4 ⟨v382, rfl, ho0, hb⟩; refine ⟨_, rfl, ?_⟩; have n0_ := Aside0.mk (Kd.R_lower ho0 (below_size (by repeat (first | (with_reducible first | exact HB.out | apply below_alloc | apply pw_below_drewN | apply below_drew1) | exact HB.out)))); have n1_ := Aside0.mk (below_step (by repeat (first | (with_reducible first | exact HB.out | apply below_alloc | apply pw_below_drewN | apply below_drew1) | exact HB.out)) hb); clear HB; have HO383 := n0_; have HB := n1_; clear n0_ n1_; (try clear hb); (try clear hb2); (try clear hk); (try clear hi); (try clear ho0)) | ((with_reducible refine gate_dst (N := 6) rfl ?_); refine box_event ?hg (N := 6) ?hd (cs := #[.bool false, .bool false, .bool false, .bool false, .bool false, .bool false, .bool false, .bool false, .bool false, .bool false]) (t := 75) ?hr ?_; (case hd => rfl); (case hg => rfl); (case hr => first | (go_simp; done) | (go_simp; rfl)); intro gb384 hg w5 hbox hb; have n0_ := Aside0.mk (Kd.R_below (by (with_reducible repeat (first | apply Kd.R_alloc | apply Kd.R_drewN | apply Kd.R_drew)); exact HO383.out) hb); have n1_ := Aside0.mk (below_step (by repeat (first | (with_reducible first | exact HB.out | apply below_alloc | apply pw_below_drewN | apply below_drew1) | exact HB.out)) hb); have n2_ := Aside0.mk (hbox); have n3_ := Aside0.mk ((by rw [hg]; exact (below_size (by repeat (first | (with_reducible first | exact HB.out | apply below_alloc | apply pw_below_drewN | apply below_drew1) | exact HB.out))) : w.heap.size ≤ gb384)); have n4_ := Aside0.mk ((by rw [hg]; exact (below_size (by repeat (first | (with_reducible first | exact HB.out | apply below_alloc | apply pw_below_drewN | apply below_drew1) | exact HB.out))) : w.heap.size ≤ gb384)); clear HO383; clear HB; have HO383 := n0_; have HB := n1_; have BK384 := n2_; have GW384 := n3_; have GE384 := n4_; clear n0_ n1_ n2_ n3_ n4_; clear hb hbox hg))
 go_loopg [7, 8] k (fun kq v7 v8 w' => ∃ (x7_1 : Int) (x8_1 : Int) (x385000_1 : List Bool), v7 = .int .i64 x7_1 ∧ v8 = .int .i64 x8_1 ∧ Aside0 (sleuthlaw44_pruned.l0 kq l0 t381 x7_1 x8_1 x385000_1 = some r) ∧ Aside0 (kq ≤ k) ∧ Aside0 (Kd.R (Kd.int .i64) 3 w' w.heap.size (fun _ => True) v382 t381) ∧ Aside0 (w'.heap[gb384]? = some (.cells (bcells x385000_1) 75 (0, 0))) ∧ Aside0 (Below w.heap.size w w') ∧ Aside0 (x385000_1.length = 10))
 case atStart => exact ⟨(0), (1), (List.replicate 10 false), (by first | rfl | (simp; done) | (simp [*]; done) | (simp [*]; unfold wrap64; omega)), (by first | rfl | (simp; done) | (simp [*]; done) | (simp [*]; unfold wrap64; omega)), H', ⟨Nat.le_refl _⟩, ⟨by (with_reducible repeat (first | apply Kd.R_alloc | apply Kd.R_drewN | apply Kd.R_drew)); exact HO383.out⟩, ⟨by (with_reducible repeat (first | refine blk_drewN ?_ _ | refine blk_drew ?_ | refine blk_alloc ?_ _)); exact BK384.out⟩, ⟨by repeat (first | (with_reducible first | exact HB.out | apply below_alloc | apply pw_below_drewN | apply below_drew1 | refine below_set ?_ GE384.out) | exact HB.out)⟩, ⟨rfl⟩⟩
 case round =>
  clear H'
  try clear c1
  try clear c2
  try clear p2
  obtain ⟨x7_1, x8_1, x385000_1, rfl, rfl, HA, HK1, HO_5, BK384, HB, HLN⟩ := hrel
  cases gk with
  | zero => exact absurd HA.out (by simp [sleuthlaw44_pruned.l0])
  | succ k1 =>
   have H := HA.out
   clear HA
   simp only [sleuthlaw44_pruned.l0] at H
   by_cases c6 : x8_1 ≤ (l0.length : Int)
   ·rw [if_pos c6] at H
    have c6b0 : decide (x8_1 ≤ (l0.length : Int)) = true := decide_eq_true c6
    clear c6
    have H' := Aside0.mk H
    clear H
    go_wp2
    go_loopg [7, 9] k1 (fun kq v7 v9 w' => ∃ (x7_2 : Int) (x9_2 : Int) (x385000_2 : List Bool), v7 = .int .i64 x7_2 ∧ v9 = .int .i64 x9_2 ∧ Aside0 (sleuthlaw44_pruned.l1 kq l0 t381 x7_2 x8_1 x9_2 x385000_2 = some r) ∧ Aside0 (kq ≤ k1) ∧ Aside0 (Kd.R (Kd.int .i64) 3 w' w.heap.size (fun _ => True) v382 t381) ∧ Aside0 (w'.heap[gb384]? = some (.cells (bcells x385000_2) 75 (0, 0))) ∧ Aside0 (Below w.heap.size w w') ∧ Aside0 (x385000_2.length = 10))
    case atStart => exact ⟨(x7_1), (0), (x385000_1), (by first | rfl | (simp; done) | (simp [*]; done) | (simp [*]; unfold wrap64; omega)), (by first | rfl | (simp; done) | (simp [*]; done) | (simp [*]; unfold wrap64; omega)), H', ⟨Nat.le_refl _⟩, ⟨by (with_reducible repeat (first | apply Kd.R_alloc | apply Kd.R_drewN | apply Kd.R_drew)); exact HO_5.out⟩, ⟨by (with_reducible repeat (first | refine blk_drewN ?_ _ | refine blk_drew ?_ | refine blk_alloc ?_ _)); exact BK384.out⟩, ⟨by repeat (first | (with_reducible first | exact HB.out | apply below_alloc | apply pw_below_drewN | apply below_drew1 | refine below_set ?_ GE384.out) | exact HB.out)⟩, ⟨HLN.out⟩⟩
    case round =>
     clear H'
     try clear c1
     try clear c2
     try clear p2
     try clear c6
     try clear c6b0
     try clear p2
     obtain ⟨x7_2, x9_2, x385000_2, rfl, rfl, HA, HK2, HO_5, BK384, HB, HLN⟩ := hrel
     cases gk with
     | zero => exact absurd HA.out (by simp [sleuthlaw44_pruned.l1])
     | succ k2 =>
      have H := HA.out
      clear HA
      simp only [sleuthlaw44_pruned.l1] at H
      by_cases c7 : x9_2 < x8_1
      ·rw [if_pos c7] at H
       have c7b0 : decide (x9_2 < x8_1) = true := decide_eq_true c7
       clear c7
       by_cases u1_ : 0 ≤ x9_2
       rotate_left
       ·rw [if_neg u1_] at H
        exact absurd H (by simp)
       rw [if_pos u1_] at H
       by_cases u2_ : x9_2 < 10
       rotate_left
       ·rw [if_neg u2_] at H
        exact absurd H (by simp)
       rw [if_pos u2_] at H
       have u1b := eq_true u1_
       have u2b := eq_true u2_
       by_cases c8 : rdb x385000_2 x9_2 = true
       ·have c8x := c8
        have H1 : (sleuthlaw44_pruned.l1 k2 l0 t381 x7_2 x8_1 (wrap64 (x9_2 + 1)) x385000_2) = some r := by rw [if_pos c8] at H; exact H
        clear H
        have H := H1
        clear H1
        have H' := Aside0.mk H
        clear H
        have hcz9_0 : wr.cell? ⟨gb384, (x9_2 : Int).toNat, none⟩ = some (.bool true) := (blk_cell BK384.out _).trans (bget HLN.out u1_ u2_ c8)
        have hfz9_0 := blk_frozen BK384.out (x9_2 : Int).toNat
        go_wp2
        go_roundg k2
        case measure => have := HK1.out; have := HK2.out; omega
        case rel => exact ⟨(x7_2), (wrap64 (x9_2 + 1)), (x385000_2), (by first | rfl | (simp; done) | (simp [*]; done) | (simp [*]; unfold wrap64; omega)), (by first | rfl | (simp; done) | (simp [*]; done) | (simp [*]; unfold wrap64; omega)), H', ⟨by have := HK1.out; have := HK2.out; omega⟩, ⟨by (with_reducible repeat (first | apply Kd.R_alloc | apply Kd.R_drewN | apply Kd.R_drew)); exact HO_5.out⟩, ⟨by (with_reducible repeat (first | refine blk_drewN ?_ _ | refine blk_drew ?_ | refine blk_alloc ?_ _)); exact BK384.out⟩, ⟨by repeat (first | (with_reducible first | exact HB.out | apply below_alloc | apply pw_below_drewN | apply below_drew1 | refine below_set ?_ GE384.out) | exact HB.out)⟩, ⟨HLN.out⟩⟩
       ·replace c8 := Bool.eq_false_iff.mpr c8
        have H1 : (if 0 ≤ x9_2 then (if x9_2 < (t381.length : Int) then (if x9_2 ≤ x8_1 then (if x8_1 ≤ (l0.length : Int) then ((sleuthlaw44_cost.f k2 ((l0.take (x8_1 : Int).toNat).drop (x9_2 : Int).toNat)).bind fun t387 => (if 0 ≤ x8_1 then (if x8_1 < (t381.length : Int) then (sleuthlaw44_pruned.l1 k2 l0 t381 (wrap64 (x7_2 + 1)) x8_1 (wrap64 (x9_2 + 1)) (x385000_2.set (x9_2 : Int).toNat (decide ((wrap64 ((rd t381 x9_2) + t387)) > (rd t381 x8_1))))) else (none)) else (none))) else (none)) else (none)) else (none)) else (none)) = some r := by rw [if_neg (show ¬ (rdb x385000_2 x9_2 = true) by rw [c8]; decide)] at H; exact H
        clear H
        have H := H1
        clear H1
        by_cases c10 : 0 ≤ x9_2
        ·rw [if_pos c10] at H
         have c10b0 : decide (0 ≤ x9_2) = true := decide_eq_true c10
         clear c10
         by_cases c11 : x9_2 < (t381.length : Int)
         ·rw [if_pos c11] at H
          have c11b0 : decide (x9_2 < (t381.length : Int)) = true := decide_eq_true c11
          clear c11
          have c12b0 := eq_true (of_decide_eq_true (by first | (with_reducible assumption) | assumption) : 0 ≤ x9_2)
          by_cases c13 : x9_2 ≤ x8_1
          ·rw [if_pos c13] at H
           have c13b0 := eq_true c13
           have c13b1 : decide (x9_2 ≤ x8_1) = true := decide_eq_true c13
           clear c13
           by_cases c14 : x8_1 ≤ (l0.length : Int)
           ·rw [if_pos c14] at H
            have c14b0 := eq_true c14
            have c14b1 : decide (x8_1 ≤ (l0.length : Int)) = true := decide_eq_true c14
            clear c14
            replace H := Option.bind_eq_some_iff.mp H
            obtain ⟨t387, A150, H⟩ := H
            replace H : (if 0 ≤ x8_1 then (if x8_1 < (t381.length : Int) then (sleuthlaw44_pruned.l1 k2 l0 t381 (wrap64 (x7_2 + 1)) x8_1 (wrap64 (x9_2 + 1)) (x385000_2.set (x9_2 : Int).toNat (decide ((wrap64 ((rd t381 x9_2) + t387)) > (rd t381 x8_1))))) else (none)) else (none)) = some r := H
            have A15 := Aside0.mk A150
            clear A150
            by_cases c16 : 0 ≤ x8_1
            ·rw [if_pos c16] at H
             have c16b0 : decide (0 ≤ x8_1) = true := decide_eq_true c16
             clear c16
             by_cases c17 : x8_1 < (t381.length : Int)
             ·rw [if_pos c17] at H
              have c17b0 : decide (x8_1 < (t381.length : Int)) = true := decide_eq_true c17
              clear c17
              have H' := Aside0.mk H
              clear H
              have hcz18_0 : wr.cell? ⟨gb384, (x9_2 : Int).toNat, none⟩ = some (.bool false) := (blk_cell BK384.out _).trans (bget HLN.out u1_ u2_ c8)
              have hfz18_0 := blk_frozen BK384.out (x9_2 : Int).toNat
              try go_wp2
              have n0_ := Aside0.mk (Kd.R_drew HO_5.out)
              have n1_ := Aside0.mk (blk_drew BK384.out)
              have n2_ := Aside0.mk (below_drew1 HB.out)
              clear HO_5
              clear BK384
              clear HB
              have HO_5 := n0_
              have BK384 := n1_
              have HB := n2_
              clear n0_ n1_ n2_
              obtain ⟨Ao20, co20, eo20⟩ := Kd.R_slice HO_5.out
              (first | subst eo20 | (injection eo20 with f1_ f2_ f3_; have f4_ := f1_.symm; have f5_ := f3_.symm; clear f1_ f2_ f3_; subst f4_; subst f5_))
              have p385 : 0 ≤ (x9_2 : Int) := of_decide_eq_true (by first | (with_reducible assumption) | assumption)
              have q385 : x9_2 < (t381.length : Int) := of_decide_eq_true (by first | (with_reducible assumption) | assumption)
              obtain ⟨ad385, e385, hx385_0⟩ := Kd.at_int (Kd.R_reads' HO_5.out).2.2 x9_2 p385 q385
              cases e385
              replace p385 := eq_true p385
              replace q385 := eq_true q385
              obtain ⟨i021, hi021, _, hsz21, _⟩ := info_parts info3
              obtain ⟨A21, hcut21, hA21, hC21⟩ := print_mid_of (P := Try.prog) (Value.int .i64) 0 24 3 .i64 .i64 Try.underlying24 hi021 hsz21 A0 c0 l0 x9_2 x8_1 (of_decide_eq_true (by first | (with_reducible assumption) | assumption)) (by first | omega | exact of_decide_eq_true (by first | (with_reducible assumption) | assumption)) (of_decide_eq_true (by first | (with_reducible assumption) | assumption)) HC0.out
              have HR386 := Aside0.mk (Kd.C_of_reads (h1 := fun _ => rfl) (hA21 _ (Kd.reads_of_C HR0.out)))
              have HC386 := Aside0.mk hC21
              clear hA21 hC21 hi021 hsz21
              have p388 : 0 ≤ (x8_1 : Int) := of_decide_eq_true (by first | (with_reducible assumption) | assumption)
              have q388 : x8_1 < (t381.length : Int) := of_decide_eq_true (by first | (with_reducible assumption) | assumption)
              obtain ⟨ad388, e388, hx388_0⟩ := Kd.at_int (Kd.R_reads' HO_5.out).2.2 x8_1 p388 q388
              obtain rfl : ad385 = ad388 := (by injection e388)
              replace p388 := eq_true p388
              replace q388 := eq_true q388
              refine start_ (n := 18) (S := fun w' => w'.cell? (ad385.add (x9_2).toNat) = some (.int .i64 (rd t381 x9_2)) ∧ w'.cell? (ad385.add (x8_1).toNat) = some (.int .i64 (rd t381 x8_1))) (ds := []) #[false, false, false, false, false, false, false, false, false, false, false, false, false, false, false, false, false, false] (by kernel_rfl) rfl rfl ⟨hx385_0, hx388_0⟩ (fun hHeld => ?_); refine with_tabW sleuthlaw44_pruned.tab12 sleuthlaw44_pruned.bits12 (fun HT_ HW_ => ?_)
              generalize wr.drew = w19 at HO_5 BK384 HB HR386 hx385_0 hx388_0 hHeld ⊢
              refine pure_ (i := 0) (N := some 29) (v := ?_) (a' := ?_) #[true, false, false, false, false, false, false, false, false, false, false, false, false, false, false, false, false, false] rfl rfl (any_of HT_.out (by kernel_rfl)) (fun _ _ _ h => h) (Or.inl ⟨by rfl, ?_⟩) ?_ ?_
              rotate_left
              ·intro w'
               go_simp
               with_reducible rfl
              rotate_left
              ·simp only [Act.put, List.setIfInBounds_toArray, List.set_cons_zero, List.set_cons_succ, i64_w, i32_w]
               rfl
              refine pure_ (i := 1) (N := some 30) (v := ?_) (a' := ?_) #[true, true, false, false, false, false, false, false, false, false, false, false, false, false, false, false, false, false] rfl rfl (any_of HT_.out (by kernel_rfl)) (fun _ _ _ h => h) (Or.inl ⟨by rfl, ?_⟩) ?_ ?_
              rotate_left
              ·intro w'
               go_simp
               with_reducible rfl
              rotate_left
              ·simp only [Act.put, List.setIfInBounds_toArray, List.set_cons_zero, List.set_cons_succ, i64_w, i32_w]
               rfl
              refine pure_ (i := 2) (N := some 31) (v := ?_) (a' := ?_) #[true, true, true, false, false, false, false, false, false, false, false, false, false, false, false, false, false, false] rfl rfl (any_of HT_.out (by kernel_rfl)) (fun _ _ _ h => h) (Or.inl ⟨by rfl, ?_⟩) ?_ ?_
              rotate_left
              ·intro w'
               go_simp
               with_reducible rfl
              rotate_left
              ·simp only [Act.put, List.setIfInBounds_toArray, List.set_cons_zero, List.set_cons_succ, i64_w, i32_w]
               rfl
              refine pure_ (i := 3) (N := some 32) (v := ?_) (a' := ?_) #[true, true, true, true, false, false, false, false, false, false, false, false, false, false, false, false, false, false] rfl rfl (any_of HT_.out (by kernel_rfl)) (fun _ _ _ h => h) (Or.inl ⟨by rfl, ?_⟩) ?_ ?_
              rotate_left
              ·intro w'
               go_simp
               with_reducible rfl
              rotate_left
              ·simp only [Act.put, List.setIfInBounds_toArray, List.set_cons_zero, List.set_cons_succ, i64_w, i32_w]
               rfl
              refine pure_ (i := 5) (N := some 34) (v := ?_) (a' := ?_) #[true, true, true, true, false, true, false, false, false, false, false, false, false, false, false, false, false, false] rfl rfl (any_of HT_.out (by kernel_rfl)) (fun _ _ _ h => h) (Or.inl ⟨by rfl, ?_⟩) ?_ ?_
              rotate_left
              ·intro w'
               go_simp
               with_reducible rfl
              rotate_left
              ·simp only [Act.put, List.setIfInBounds_toArray, List.set_cons_zero, List.set_cons_succ, i64_w, i32_w]
               rfl
              refine pure_ (i := 6) (N := some 35) (v := ?_) (a' := ?_) #[true, true, true, true, false, true, true, false, false, false, false, false, false, false, false, false, false, false] rfl rfl (any_of HT_.out (by kernel_rfl)) (fun _ _ _ h => h) (Or.inl ⟨by rfl, ?_⟩) ?_ ?_
              rotate_left
              ·intro w'
               go_simp
               with_reducible rfl
              rotate_left
              ·simp only [Act.put, List.setIfInBounds_toArray, List.set_cons_zero, List.set_cons_succ, i64_w, i32_w]
               rfl
              refine pure_ (i := 7) (N := some 36) (v := ?_) (a' := ?_) #[true, true, true, true, false, true, true, true, false, false, false, false, false, false, false, false, false, false] rfl rfl (any_of HT_.out (by kernel_rfl)) (fun _ _ _ h => h) (Or.inl ⟨by rfl, ?_⟩) ?_ ?_
              rotate_left
              ·intro w'
               go_simp
               with_reducible rfl
              rotate_left
              ·simp only [Act.put, List.setIfInBounds_toArray, List.set_cons_zero, List.set_cons_succ, i64_w, i32_w]
               rfl
              refine pure_ (i := 8) (N := some 37) (v := ?_) (a' := ?_) #[true, true, true, true, false, true, true, true, true, false, false, false, false, false, false, false, false, false] rfl rfl (any_of HT_.out (by kernel_rfl)) (fun _ _ _ h => h) (Or.inl ⟨by rfl, ?_⟩) ?_ ?_
              rotate_left
              ·intro w'
               go_simp
               with_reducible rfl
              rotate_left
              ·simp only [Act.put, List.setIfInBounds_toArray, List.set_cons_zero, List.set_cons_succ, i64_w, i32_w]
               rfl
              refine pure_ (i := 11) (N := some 40) (v := ?_) (a' := ?_) #[true, true, true, true, false, true, true, true, true, false, false, true, false, false, false, false, false, false] rfl rfl (any_of HT_.out (by kernel_rfl)) (fun _ _ _ h => h) (Or.inl ⟨by rfl, ?_⟩) ?_ ?_
              rotate_left
              ·intro w'
               go_simp
               with_reducible rfl
              rotate_left
              ·simp only [Act.put, List.setIfInBounds_toArray, List.set_cons_zero, List.set_cons_succ, i64_w, i32_w]
               rfl
              refine pure_ (i := 12) (N := some 41) (v := ?_) (a' := ?_) #[true, true, true, true, false, true, true, true, true, false, false, true, true, false, false, false, false, false] rfl rfl (any_of HT_.out (by kernel_rfl)) (fun _ _ _ h => h) (Or.inl ⟨by rfl, ?_⟩) ?_ ?_
              rotate_left
              ·intro w'
               go_simp
               with_reducible rfl
              rotate_left
              ·simp only [Act.put, List.setIfInBounds_toArray, List.set_cons_zero, List.set_cons_succ, i64_w, i32_w]
               rfl
              refine pure_ (i := 13) (N := some 42) (v := ?_) (a' := ?_) #[true, true, true, true, false, true, true, true, true, false, false, true, true, true, false, false, false, false] rfl rfl (any_of HT_.out (by kernel_rfl)) (fun _ _ _ h => h) (Or.inl ⟨by rfl, ?_⟩) ?_ ?_
              rotate_left
              ·intro w'
               go_simp
               with_reducible rfl
              rotate_left
              ·simp only [Act.put, List.setIfInBounds_toArray, List.set_cons_zero, List.set_cons_succ, i64_w, i32_w]
               rfl
              refine take_ (i := 4) (N := some 33) (v := ?_) (a' := ?_) #[true, true, true, true, true, true, true, true, true, false, false, true, true, true, false, false, false, false] rfl rfl (take_ofW HT_.out HW_.out (by kernel_rfl)) (fun _ _ _ h => h) (Or.inl ⟨by rfl, ?_⟩) hHeld ?_ ?_
              rotate_left
              ·rintro w' ⟨s0, s1⟩
               go_simp
               with_reducible rfl
              rotate_left
              ·simp only [Act.put, List.setIfInBounds_toArray, List.set_cons_zero, List.set_cons_succ, i64_w, i32_w]
               rfl
              refine take_ (i := 14) (N := some 43) (v := ?_) (a' := ?_) #[true, true, true, true, true, true, true, true, true, false, false, true, true, true, true, false, false, false] rfl rfl (take_ofW HT_.out HW_.out (by kernel_rfl)) (fun _ _ _ h => h) (Or.inl ⟨by rfl, ?_⟩) hHeld ?_ ?_
              rotate_left
              ·rintro w' ⟨s0, s1⟩
               go_simp
               with_reducible rfl
              rotate_left
              ·simp only [Act.put, List.setIfInBounds_toArray, List.set_cons_zero, List.set_cons_succ, i64_w, i32_w]
               rfl
              refine one_ (i := 9) (N := some 38) #[true, true, true, true, true, true, true, true, true, true, false, true, true, true, true, false, false, false] rfl rfl (one_of HT_.out (by kernel_rfl)) (by decide) (fun K hK => ?_)
              refine goes_ Try.func34 (by kernel_rfl) rfl #[.slice A21 ((l0.take (x8_1 : Int).toNat).drop (x9_2 : Int).toNat).length (c0 - x9_2.toNat)] (by rfl) rfl rfl (by (try simp only [List.map_toArray, List.map_cons, List.map_nil]); first | done | (rw [show ((l0.take (x8_1 : Int).toNat).drop (x9_2 : Int).toNat).length = (x8_1.toNat - x9_2.toNat) from (by rw [List.length_drop, List.length_take]; have h_ : (x8_1 : Int) ≤ (l0.length : Int) := of_decide_eq_true (by first | (with_reducible assumption) | assumption); omega)] <;> rfl) | rfl | (simp only [List.length_drop, List.length_take]; rfl)) ?_
              with_reducible refine (sleuthlaw44_cost.calls k2 _ _ ((l0.take (x8_1 : Int).toNat).drop (x9_2 : Int).toNat) t387 _ ?side1 ?side2 A15.out).mono ?_
              (case side1 => repeat (first | exact (Kd.C_below HR386.out HB.out) | (with_reducible refine Kd.C_alloc ?_ _) | (with_reducible refine Kd.C_drewN ?_ _) | (with_reducible refine Kd.C_drew ?_)))
              (case side2 => exact HC386.out)
              rintro e w22 ⟨rfl, hb⟩
              have HS0_ := (hb.cell (World.block_lt_of_cell? _ _ (hHeld.1))).trans (hHeld.1)
              have HS1_ := (hb.cell (World.block_lt_of_cell? _ _ (hHeld.2))).trans (hHeld.2)
              refine ⟨_, rfl, ?_⟩
              have n0_ := Aside0.mk (Kd.R_below (by (with_reducible repeat (first | apply Kd.R_alloc | apply Kd.R_drewN | apply Kd.R_drew)); exact HO_5.out) hb)
              have n1_ := Aside0.mk (blk_below (g := gb384) (o := .cells (bcells x385000_2) 75 (0, 0)) (by (with_reducible repeat (first | refine blk_drewN ?_ _ | refine blk_drew ?_ | refine blk_alloc ?_ _)); exact BK384.out) hb)
              have n2_ := Aside0.mk (below_step (by repeat (first | (with_reducible first | exact HB.out | apply below_alloc | apply pw_below_drewN | apply below_drew1 | refine below_set ?_ GE384.out) | exact HB.out)) hb)
              clear HO_5
              clear BK384
              clear HB
              have HO_5 := n0_
              have BK384 := n1_
              have HB := n2_
              clear n0_ n1_ n2_
              (try clear hb)
              (try clear hb2)
              (try clear hk)
              (try clear hi)
              refine hK.out _ _ ⟨HS0_, HS1_⟩ (fun hHeld => ?_)
              clear hK K
              refine norm_ (a' := ?_) ?_ ?_
              rotate_left
              ·show Act.put _ (some 38) _ = _
               simp only [Act.put, List.setIfInBounds_toArray, List.set_cons_zero, List.set_cons_succ, i64_w, i32_w]
               rfl
              refine pure_ (i := 10) (N := some 39) (v := ?_) (a' := ?_) #[true, true, true, true, true, true, true, true, true, true, true, true, true, true, true, false, false, false] rfl rfl (any_of HT_.out (by kernel_rfl)) (fun _ _ _ h => h) (Or.inl ⟨by rfl, ?_⟩) ?_ ?_
              rotate_left
              ·intro w'
               go_simp
               with_reducible rfl
              rotate_left
              ·simp only [Act.put, List.setIfInBounds_toArray, List.set_cons_zero, List.set_cons_succ, i64_w, i32_w]
               rfl
              refine pure_ (i := 15) (N := some 44) (v := ?_) (a' := ?_) #[true, true, true, true, true, true, true, true, true, true, true, true, true, true, true, true, false, false] rfl rfl (any_of HT_.out (by kernel_rfl)) (fun _ _ _ h => h) (Or.inl ⟨by rfl, ?_⟩) ?_ ?_
              rotate_left
              ·intro w'
               go_simp
               with_reducible rfl
              rotate_left
              ·simp only [Act.put, List.setIfInBounds_toArray, List.set_cons_zero, List.set_cons_succ, i64_w, i32_w]
               rfl
              refine pure_ (i := 16) (N := some 45) (v := ?_) (a' := ?_) #[true, true, true, true, true, true, true, true, true, true, true, true, true, true, true, true, true, false] rfl rfl (any_of HT_.out (by kernel_rfl)) (fun _ _ _ h => h) (Or.inl ⟨by rfl, ?_⟩) ?_ ?_
              rotate_left
              ·intro w'
               go_simp
               with_reducible rfl
              rotate_left
              ·simp only [Act.put, List.setIfInBounds_toArray, List.set_cons_zero, List.set_cons_succ, i64_w, i32_w]
               rfl
              refine one_ (i := 17) (N := none) #[true, true, true, true, true, true, true, true, true, true, true, true, true, true, true, true, true, true] rfl rfl (one_of HT_.out (by kernel_rfl)) (by decide) (fun K hK => ?_)
              have hs23 : w22.cell? ⟨gb384, (x9_2 : Int).toNat, none⟩ = some (.bool false) := (blk_cell BK384.out _).trans (bget HLN.out u1_ u2_ c8)
              have hfs23 := blk_frozen BK384.out (x9_2 : Int).toNat
              refine skip_ (w1 := ?_) (by rfl) rfl ?_ ?_
              rotate_left
              ·go_simp
               rfl
              refine hK.out _ _ ⟨((cell_far (p := ⟨gb384, _, none⟩) (by first | exact Kd.own_blk (Kd.R_ne HO_5.out BK384.out (by decide)) | (rw [add_block]; exact Kd.own_blk (Kd.R_ne HO_5.out BK384.out (by decide))) | (show (Addr.add _ _).block ≠ _; rw [add_block]; exact Kd.own_blk (Kd.R_ne HO_5.out BK384.out (by decide))) | (dsimp only; exact Kd.own_blk (Kd.R_ne HO_5.out BK384.out (by decide)))) _).trans (hHeld.1)), ((cell_far (p := ⟨gb384, _, none⟩) (by first | exact Kd.own_blk (Kd.R_ne HO_5.out BK384.out (by decide)) | (rw [add_block]; exact Kd.own_blk (Kd.R_ne HO_5.out BK384.out (by decide))) | (show (Addr.add _ _).block ≠ _; rw [add_block]; exact Kd.own_blk (Kd.R_ne HO_5.out BK384.out (by decide))) | (dsimp only; exact Kd.own_blk (Kd.R_ne HO_5.out BK384.out (by decide)))) _).trans (hHeld.2))⟩ (fun hHeld => ?_)
              clear hK K
              refine done_ (done_of HT_.out (by kernel_rfl)) ?_
              try go_wp2
              go_roundg k2
              case measure => have := HK1.out; have := HK2.out; omega
              case rel => exact ⟨(wrap64 (x7_2 + 1)), (wrap64 (x9_2 + 1)), (x385000_2.set (x9_2 : Int).toNat (decide ((wrap64 ((rd t381 x9_2) + t387)) > (rd t381 x8_1)))), (by first | rfl | (simp; done) | (simp [*]; done) | (simp [*]; unfold wrap64; omega)), (by first | rfl | (simp; done) | (simp [*]; done) | (simp [*]; unfold wrap64; omega)), H', ⟨by have := HK1.out; have := HK2.out; omega⟩, ⟨by (with_reducible repeat (first | apply Kd.R_alloc | apply Kd.R_drewN | apply Kd.R_drew)); exact Kd.R_mono (Kd.R_far (p := ⟨gb384, (x9_2 : Int).toNat, none⟩) (Kd.R_types HO_5.out BK384.out (by decide)) (fun _ hk => hk.2) (.bool (decide ((wrap64 ((rd t381 x9_2) + t387)) > (rd t381 x8_1))))) (fun _ hk => trivial)⟩, ⟨by (with_reducible repeat (first | refine blk_drewN ?_ _ | refine blk_drew ?_ | refine blk_alloc ?_ _)); refine blk_put (cs := bcells x385000_2) ?_ (x9_2 : Int).toNat _ (bset _ _ _); (with_reducible repeat (first | refine blk_drewN ?_ _ | refine blk_drew ?_ | refine blk_alloc ?_ _)); exact BK384.out⟩, ⟨by repeat (first | (with_reducible first | exact HB.out | apply below_alloc | apply pw_below_drewN | apply below_drew1 | refine below_set ?_ GE384.out) | exact HB.out)⟩, ⟨by rw [List.length_set]; exact HLN.out⟩⟩
             ·rw [if_neg c17] at H
              exact absurd H (by simp)
            ·rw [if_neg c16] at H
             exact absurd H (by simp)
           ·rw [if_neg c14] at H
            exact absurd H (by simp)
          ·rw [if_neg c13] at H
           exact absurd H (by simp)
         ·rw [if_neg c11] at H
          exact absurd H (by simp)
        ·rw [if_neg c10] at H
         exact absurd H (by simp)
      ·rw [if_neg c7] at H
       have c7b0 : decide (x9_2 < x8_1) = false := decide_eq_false c7
       clear c7
       have H' := Aside0.mk H
       clear H
       go_wp2
       go_roundg k2
       case measure => have := HK1.out; have := HK2.out; omega
       case rel => exact ⟨(x7_2), (wrap64 (x8_1 + 1)), (x385000_2), (by first | rfl | (simp; done) | (simp [*]; done) | (simp [*]; unfold wrap64; omega)), (by first | rfl | (simp; done) | (simp [*]; done) | (simp [*]; unfold wrap64; omega)), H', ⟨by have := HK1.out; have := HK2.out; omega⟩, ⟨by (with_reducible repeat (first | apply Kd.R_alloc | apply Kd.R_drewN | apply Kd.R_drew)); exact HO_5.out⟩, ⟨by (with_reducible repeat (first | refine blk_drewN ?_ _ | refine blk_drew ?_ | refine blk_alloc ?_ _)); exact BK384.out⟩, ⟨by repeat (first | (with_reducible first | exact HB.out | apply below_alloc | apply pw_below_drewN | apply below_drew1 | refine below_set ?_ GE384.out) | exact HB.out)⟩, ⟨HLN.out⟩⟩
   ·rw [if_neg c6] at H
    have c6b0 : decide (x8_1 ≤ (l0.length : Int)) = false := decide_eq_false c6
    clear c6
    obtain rfl := Option.some.inj H
    go_wp2
    go_ret
    exact ⟨by first | rfl | (simp [errW_none, errW_some] <;> rfl) | (simp [*, errW_none, errW_some] <;> rfl), by repeat (first | (with_reducible first | exact HB.out | apply below_alloc | apply pw_below_drewN | apply below_drew1 | refine below_set ?_ GE384.out) | exact HB.out)⟩


end Go.Proofs.Ytiimanpmidnffaa.Q
