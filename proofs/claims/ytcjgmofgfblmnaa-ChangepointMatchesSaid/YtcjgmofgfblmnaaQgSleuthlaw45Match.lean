-- Laid by myprint.py (a program of this session's, over the kit's printer and with functions proved by hand)
import Derived.Test.YtcjgmofgfblmnaaTy
import Derived.Test.YtcjgmofgfblmnaaQgHlp
namespace Go.Proofs.Ytcjgmofgfblmnaa.Q
open Go.RowKit Go.Proofs.YtcjgmofgfblmnaaW.PrintWords Go.Proofs.YtcjgmofgfblmnaaW.PrintLast Go.Proofs.YtcjgmofgfblmnaaW.PrintMore
attribute [local go_sem] max2_int min2_int max_two min_two max_three min_three max_four min_four   -- for this text's walks alone
set_option linter.unusedVariables false
set_option linter.unusedSimpArgs false

abbrev T12163 : Bool := true
abbrev F12163 : Bool := false
theorem qgsleuthlaw45match_0 {p : Prop} (h : p := by repeat (first | (with_reducible first | exact HB.out | apply below_alloc | apply pw_below_drewN | apply below_drew1) | exact HB.out)) : p := h
theorem qgsleuthlaw45match_1 {p : Prop} (h : p := by (with_reducible repeat (first | apply Kd.V_alloc | apply Kd.V_drewN | apply Kd.V_drew)); exact HO_13.out) : p := h
theorem qgsleuthlaw45match_2 {p : Prop} (h : p := by (with_reducible repeat (first | apply Kd.V_alloc | apply Kd.V_drewN | apply Kd.V_drew)); exact HO_5.out) : p := h
theorem qgsleuthlaw45match_3 {p : Prop} (h : p := by (try simp only [List.map_toArray, List.map_cons, List.map_nil]); first | done | rfl | (simp only [List.length_drop, List.length_take]; rfl)) : p := h
theorem qgsleuthlaw45match_4 {p : Prop} (h : p := by repeat (first | exact (Kd.C_below HR0.out HB.out) | (with_reducible refine Kd.C_alloc ?_ _) | (with_reducible refine Kd.C_drewN ?_ _) | (with_reducible refine Kd.C_drew ?_))) : p := h
theorem qgsleuthlaw45match_5 {p : Prop} (h : p := by repeat (first | exact (Kd.C_below HR1.out HB.out) | (with_reducible refine Kd.C_alloc ?_ _) | (with_reducible refine Kd.C_drewN ?_ _) | (with_reducible refine Kd.C_drew ?_))) : p := h
theorem qgsleuthlaw45match_6 {p : Prop} (h : p := by (with_reducible repeat (first | apply Kd.R_alloc | apply Kd.R_drewN | apply Kd.R_drew)); exact HO546.out) : p := h
theorem qgsleuthlaw45match_7 {p : Prop} (h : p := by first | (with_reducible assumption) | assumption) : p := h
theorem qgsleuthlaw45match_8 {p : Prop} (h : p := by first | rfl | (simp; done) | (simp [*]; done)) : p := h
theorem qgsleuthlaw45match_9 {p : Prop} (h : p := by (with_reducible repeat (first | apply Kd.V_alloc | apply Kd.V_drewN | apply Kd.V_drew)); exact HO549.out) : p := h
theorem qgsleuthlaw45match_10 {p : Prop} (h : p := by have := HK1.out; have := HK2.out; have := HJ11.out; omega) : p := h
/-! ### sleuthlaw45_match: function 24 -/
mutual
def sleuthlaw45_match.l0 : Nat → List (S41) → List (S41) → Int → Int → List (S58) → List (S58) → Int → Option ((List (S58)))
 | 0, _, _, _, _, _, _, _ => none
 | k + 1, x0, x1, x2, x4, x5, x13, x14 => if x14 < (x0.length : Int) then (sleuthlaw45_match.l1 k x0 x1 x2 x4 x5 x13 x14 x4) else (some x13)
def sleuthlaw45_match.l1 : Nat → List (S41) → List (S41) → Int → Int → List (S58) → List (S58) → Int → Int → Option ((List (S58)))
 | 0, _, _, _, _, _, _, _, _ => none
 | k + 1, x0, x1, x2, x4, x5, x13, x14, x15 => if x15 < (x1.length : Int) then (if 0 ≤ x14 then (if x14 < (x0.length : Int) then (if 0 ≤ x15 then (if (mx (wrap64 (((rd_T41 x0 x14).f0) - ((rd_T41 x1 x15).f0))) (wrap64 (-(wrap64 (((rd_T41 x0 x14).f0) - ((rd_T41 x1 x15).f0)))))) > x2 then (sleuthlaw45_match.j2 k x0 x1 x2 x4 x5 x13 x14 x15 true) else ((sleuthlaw45_direction.f ((rd_T41 x0 x14).f0) ((rd_T41 x0 x14).f1) ((rd_T41 x0 x14).f2)).bind fun t535 => ((sleuthlaw45_direction.f ((rd_T41 x1 x15).f0) ((rd_T41 x1 x15).f1) ((rd_T41 x1 x15).f2)).bind fun t537 => (sleuthlaw45_match.j2 k x0 x1 x2 x4 x5 x13 x14 x15 (t535 != t537))))) else (none)) else (none)) else (none)) else (sleuthlaw45_match.l0 k x0 x1 x2 x4 x5 x13 (wrap64 (x14 + 1)))
def sleuthlaw45_match.j2 : Nat → List (S41) → List (S41) → Int → Int → List (S58) → List (S58) → Int → Int → Bool → Option ((List (S58)))
 | 0, _, _, _, _, _, _, _, _, _ => none
 | k + 1, x0, x1, x2, x4, x5, x13, x14, x15, x62 => if x62 = true then (sleuthlaw45_match.l1 k x0 x1 x2 x4 x5 x13 x14 (wrap64 (x15 + 1))) else ((some (([] : List (S58)) : List (S58))).bind fun y538 => (if y538.length + x5.length < 8796093022208 then ((some (y538 ++ x5 : List (S58))).bind fun y541 => (if y541.length < 8796093022208 then ((sleuthlaw45_match.f k x0 x1 x2 (wrap64 (x14 + 1)) (wrap64 (x15 + 1)) (y541 ++ [(⟨x14, x15⟩ : S58)])).bind fun t547 => ((sleuthlaw45_better.f k x0 x1 t547 x13).bind fun t550 => (if t550 = true then (sleuthlaw45_match.l1 k x0 x1 x2 x4 x5 t547 x14 (wrap64 (x15 + 1))) else (sleuthlaw45_match.l1 k x0 x1 x2 x4 x5 x13 x14 (wrap64 (x15 + 1)))))) else (none))) else (none)))
def sleuthlaw45_match.f : Nat → List (S41) → List (S41) → Int → Int → Int → List (S58) → Option ((List (S58)))
 | 0, _, _, _, _, _, _ => none
 | k + 1, l0, l1, a2, a3, a4, l5 => sleuthlaw45_match.l0 k l0 l1 a2 a4 l5 l5 a3
end
theorem sleuthlaw45_match.mono_l : ∀ k, (∀ y0 y1 y2 y3 y4 y5, LeO (sleuthlaw45_match.f k y0 y1 y2 y3 y4 y5) (sleuthlaw45_match.f (k + 1) y0 y1 y2 y3 y4 y5)) ∧ (∀ y0 y1 y2 y3 y4 y5 y6, LeO (sleuthlaw45_match.l0 k y0 y1 y2 y3 y4 y5 y6) (sleuthlaw45_match.l0 (k + 1) y0 y1 y2 y3 y4 y5 y6)) ∧ (∀ y0 y1 y2 y3 y4 y5 y6 y7, LeO (sleuthlaw45_match.l1 k y0 y1 y2 y3 y4 y5 y6 y7) (sleuthlaw45_match.l1 (k + 1) y0 y1 y2 y3 y4 y5 y6 y7)) ∧ (∀ y0 y1 y2 y3 y4 y5 y6 y7 y8, LeO (sleuthlaw45_match.j2 k y0 y1 y2 y3 y4 y5 y6 y7 y8) (sleuthlaw45_match.j2 (k + 1) y0 y1 y2 y3 y4 y5 y6 y7 y8))
 | 0 => ⟨fun _ _ _ _ _ _ r h => by simp [sleuthlaw45_match.f] at h, fun _ _ _ _ _ _ _ r h => by simp [sleuthlaw45_match.l0] at h, fun _ _ _ _ _ _ _ _ r h => by simp [sleuthlaw45_match.l1] at h, fun _ _ _ _ _ _ _ _ _ r h => by simp [sleuthlaw45_match.j2] at h⟩
 | k + 1 => by
  obtain ⟨ih0, ih1, ih2, ih3⟩ := sleuthlaw45_match.mono_l k
  refine ⟨?_, ?_, ?_, ?_⟩
  ·intro y0 y1 y2 y3 y4 y5
   unfold sleuthlaw45_match.f
   repeat' first
   | (with_reducible exact ih0 _ _ _ _ _ _)
   | (with_reducible exact ih1 _ _ _ _ _ _ _)
   | (with_reducible exact ih2 _ _ _ _ _ _ _ _)
   | (with_reducible exact ih3 _ _ _ _ _ _ _ _ _)
   | (with_reducible exact sleuthlaw45_better.mono _ _ _ _ _)
   | (with_reducible exact LeO.refl _)
   | (with_reducible exact LeO.none _)
   | (with_reducible refine LeO.ite ?_ ?_)
   | (with_reducible refine LeO.bind ?_ (fun _ => ?_))
   | exact ih0 _ _ _ _ _ _
   | exact ih1 _ _ _ _ _ _ _
   | exact ih2 _ _ _ _ _ _ _ _
   | exact ih3 _ _ _ _ _ _ _ _ _
   | exact sleuthlaw45_better.mono _ _ _ _ _
   | exact LeO.none _
   | refine LeO.ite ?_ ?_
   | refine LeO.bind ?_ (fun _ => ?_)
  ·intro y0 y1 y2 y3 y4 y5 y6
   unfold sleuthlaw45_match.l0
   repeat' first
   | (with_reducible exact ih0 _ _ _ _ _ _)
   | (with_reducible exact ih1 _ _ _ _ _ _ _)
   | (with_reducible exact ih2 _ _ _ _ _ _ _ _)
   | (with_reducible exact ih3 _ _ _ _ _ _ _ _ _)
   | (with_reducible exact sleuthlaw45_better.mono _ _ _ _ _)
   | (with_reducible exact LeO.refl _)
   | (with_reducible exact LeO.none _)
   | (with_reducible refine LeO.ite ?_ ?_)
   | (with_reducible refine LeO.bind ?_ (fun _ => ?_))
   | exact ih0 _ _ _ _ _ _
   | exact ih1 _ _ _ _ _ _ _
   | exact ih2 _ _ _ _ _ _ _ _
   | exact ih3 _ _ _ _ _ _ _ _ _
   | exact sleuthlaw45_better.mono _ _ _ _ _
   | exact LeO.none _
   | refine LeO.ite ?_ ?_
   | refine LeO.bind ?_ (fun _ => ?_)
  ·intro y0 y1 y2 y3 y4 y5 y6 y7
   unfold sleuthlaw45_match.l1
   repeat' first
   | (with_reducible exact ih0 _ _ _ _ _ _)
   | (with_reducible exact ih1 _ _ _ _ _ _ _)
   | (with_reducible exact ih2 _ _ _ _ _ _ _ _)
   | (with_reducible exact ih3 _ _ _ _ _ _ _ _ _)
   | (with_reducible exact sleuthlaw45_better.mono _ _ _ _ _)
   | (with_reducible exact LeO.refl _)
   | (with_reducible exact LeO.none _)
   | (with_reducible refine LeO.ite ?_ ?_)
   | (with_reducible refine LeO.bind ?_ (fun _ => ?_))
   | exact ih0 _ _ _ _ _ _
   | exact ih1 _ _ _ _ _ _ _
   | exact ih2 _ _ _ _ _ _ _ _
   | exact ih3 _ _ _ _ _ _ _ _ _
   | exact sleuthlaw45_better.mono _ _ _ _ _
   | exact LeO.none _
   | refine LeO.ite ?_ ?_
   | refine LeO.bind ?_ (fun _ => ?_)
  ·intro y0 y1 y2 y3 y4 y5 y6 y7 y8
   unfold sleuthlaw45_match.j2
   repeat' first
   | (with_reducible exact ih0 _ _ _ _ _ _)
   | (with_reducible exact ih1 _ _ _ _ _ _ _)
   | (with_reducible exact ih2 _ _ _ _ _ _ _ _)
   | (with_reducible exact ih3 _ _ _ _ _ _ _ _ _)
   | (with_reducible exact sleuthlaw45_better.mono _ _ _ _ _)
   | (with_reducible exact LeO.refl _)
   | (with_reducible exact LeO.none _)
   | (with_reducible refine LeO.ite ?_ ?_)
   | (with_reducible refine LeO.bind ?_ (fun _ => ?_))
   | exact ih0 _ _ _ _ _ _
   | exact ih1 _ _ _ _ _ _ _
   | exact ih2 _ _ _ _ _ _ _ _
   | exact ih3 _ _ _ _ _ _ _ _ _
   | exact sleuthlaw45_better.mono _ _ _ _ _
   | exact LeO.none _
   | refine LeO.ite ?_ ?_
   | refine LeO.bind ?_ (fun _ => ?_)
theorem sleuthlaw45_match.mono : ∀ a0 a1 a2 a3 a4 a5 k, LeO (sleuthlaw45_match.f k a0 a1 a2 a3 a4 a5) (sleuthlaw45_match.f (k + 1) a0 a1 a2 a3 a4 a5) := by
 intro a0 a1 a2 a3 a4 a5 k
 obtain ⟨ih0, ih1, ih2, ih3⟩ := sleuthlaw45_match.mono_l k
 exact ih0 a0 a1 a2 a3 a4 a5
def sleuthlaw45_match.T8 : Bool × List (List Nat × List Nat) := (true, [([], []), ([], []), ([0, 1], [0, 1]), ([2], [2]), ([3], [3]), ([], []), ([], []), ([5, 6], [5, 6]), ([7], [7]), ([8], [8]), ([4, 9], [4, 9]), ([10, 0, 1, 2, 3, 4, 5, 6, 7, 8, 9, 10], [10])])
def sleuthlaw45_match.B8 : List Nat := [0, 0, 3, 7, 15, 0, 0, 96, 224, 480, 1023, 2047]
theorem sleuthlaw45_match.tab8 : rtab .any (opsOf Try.f24 8) = sleuthlaw45_match.T8 := by kernel_rfl
theorem sleuthlaw45_match.bits8 : waitsOk sleuthlaw45_match.T8.2 sleuthlaw45_match.B8 = true := by kernel_rfl
def sleuthlaw45_match.T9 : Bool × List (List Nat × List Nat) := (true, [([], []), ([], []), ([1], [1]), ([0, 2], [0, 2]), ([], []), ([3, 4], [3, 4]), ([5], [5]), ([6], [6]), ([6], [6]), ([7, 8, 6], [6, 7, 8]), ([9, 6], [6, 9]), ([10, 6, 6], [6, 10]), ([6], [6]), ([6], [6]), ([12, 13, 6], [6, 12, 13]), ([14, 6], [6, 14]), ([15, 11, 6], [6, 15]), ([11, 16, 6], [6, 11, 16]), ([6, 17], [6, 17])])
def sleuthlaw45_match.B9 : List Nat := [0, 0, 2, 7, 0, 31, 63, 127, 127, 511, 1023, 2047, 127, 127, 12415, 28799, 65535, 131071, 262143]
theorem sleuthlaw45_match.tab9 : rtab .any (opsOf Try.f24 9) = sleuthlaw45_match.T9 := by kernel_rfl
theorem sleuthlaw45_match.bits9 : waitsOk sleuthlaw45_match.T9.2 sleuthlaw45_match.B9 = true := by kernel_rfl
set_option maxHeartbeats 8000000 in
set_option maxRecDepth 100000 in
theorem sleuthlaw45_match.calls (k : Nat) : ∀ (A0 : Option Addr) (c0 : Nat) (l0 : List (S41)) (A1 : Option Addr) (c1 : Nat) (l1 : List (S41)) (a2 : Int) (a3 : Int) (a4 : Int) (P5_ : Nat → Prop) (A5 : Option Addr) (c5 : Nat) (l5 : List (S58)) (r : List (S58)) (w : World) (hr0 : Kd.C k41 w A0 l0.length l0) (hc0 : l0.length ≤ c0) (hr1 : Kd.C k41 w A1 l1.length l1) (hc1 : l1.length ≤ c1) (hs5 : Kd.V k58 58 w w.heap.size (fun k_ => P5_ k_) (.slice A5 l5.length c5) l5) (h : sleuthlaw45_match.f k l0 l1 a2 a3 a4 l5 = some r),
  Calls Try.prog 24 #[.slice A0 l0.length c0, .slice A1 l1.length c1, .int .i64 a2, .int .i64 a3, .int .i64 a4, .slice A5 l5.length c5] w fun e w' => ∃ v0_ : Value, e = .returned (v0_) ∧ Kd.V k58 58 w' w.heap.size (fun k_ => (P5_ k_ ∨ w.heap.size ≤ k_)) v0_ r ∧ Below w.heap.size w w' := by
 induction k using Nat.strongRecOn with
 | _ k ih =>
 intro A0 c0 l0 A1 c1 l1 a2 a3 a4 P5_ A5 c5 l5 r w hr0 hc0 hr1 hc1 hs5 h
 cases k with
 | zero => exact absurd h (by simp [sleuthlaw45_match.f])
 | succ k =>
 simp only [sleuthlaw45_match.f] at h
 have hu41 := Try.underlying41
 have hu58 := Try.underlying58
 have HR0 := Aside0.mk hr0
 have HC0 := Aside0.mk hc0
 clear hr0 hc0
 have HR1 := Aside0.mk hr1
 have HC1 := Aside0.mk hc1
 clear hr1 hc1
 have HO5 := Aside0.mk (show Kd.V k58 58 w w.heap.size (fun k_ => (P5_ k_ ∨ w.heap.size ≤ k_)) (.slice A5 l5.length c5) l5 from Kd.V_mono hs5 (fun k_ hk => .inl hk))
 have HB := Aside0.mk (Below.refl w.heap.size w)
 have H : (sleuthlaw45_match.l0 k l0 l1 a2 a4 l5 l5 a3) = some r := h
 clear h
 have H' := Aside0.mk H
 clear H
 go_enter Try.func24, Try.ntmps24
 go_wp2
 go_loopg [13, 14] k (fun kq v13 v14 w' => ∃ (x13_1 : List (S58)) (x14_1 : Int), v14 = .int .i64 x14_1 ∧ Aside0 (sleuthlaw45_match.l0 kq l0 l1 a2 a4 l5 x13_1 x14_1 = some r) ∧ Aside0 (kq ≤ k) ∧ Aside0 (Kd.V k58 58 w' w.heap.size (fun k_ => (P5_ k_ ∨ w.heap.size ≤ k_)) (.slice A5 l5.length c5) l5) ∧ Aside0 (Kd.V k58 58 w' w.heap.size (fun k_ => (P5_ k_ ∨ w.heap.size ≤ k_)) v13 x13_1) ∧ Aside0 (Below w.heap.size w w'))
 case atStart => exact ⟨(l5), (a3), qgsleuthlaw45match_8, H', ⟨Nat.le_refl _⟩, ⟨by (with_reducible repeat (first | apply Kd.V_alloc | apply Kd.V_drewN | apply Kd.V_drew)); exact HO5.out⟩, ⟨by (with_reducible repeat (first | apply Kd.V_alloc | apply Kd.V_drewN | apply Kd.V_drew)); exact HO5.out⟩, ⟨qgsleuthlaw45match_0⟩⟩
 case round =>
  clear H'
  try clear c1
  try clear c2
  try clear p2
  try clear c5
  obtain ⟨x13_1, x14_1, rfl, HA, HK1, HO_5, HO_13, HB⟩ := hrel
  cases gk with
  | zero => exact absurd HA.out (by simp [sleuthlaw45_match.l0])
  | succ k1 =>
   have H := HA.out
   clear HA
   simp only [sleuthlaw45_match.l0] at H
   by_cases c7 : x14_1 < (l0.length : Int)
   ·rw [if_pos c7] at H
    have c7b0 : decide (x14_1 < (l0.length : Int)) = true := decide_eq_true c7
    clear c7
    have H' := Aside0.mk H
    clear H
    go_wp2
    go_loopg [13, 15] k1 (fun kq v13 v15 w' => ∃ (x13_2 : List (S58)) (x15_2 : Int), v15 = .int .i64 x15_2 ∧ Aside0 (sleuthlaw45_match.l1 kq l0 l1 a2 a4 l5 x13_2 x14_1 x15_2 = some r) ∧ Aside0 (kq ≤ k1) ∧ Aside0 (Kd.V k58 58 w' w.heap.size (fun k_ => (P5_ k_ ∨ w.heap.size ≤ k_)) (.slice A5 l5.length c5) l5) ∧ Aside0 (Kd.V k58 58 w' w.heap.size (fun k_ => (P5_ k_ ∨ w.heap.size ≤ k_)) v13 x13_2) ∧ Aside0 (Below w.heap.size w w'))
    case atStart => exact ⟨(x13_1), (a4), qgsleuthlaw45match_8, H', ⟨Nat.le_refl _⟩, ⟨qgsleuthlaw45match_2⟩, ⟨qgsleuthlaw45match_1⟩, ⟨qgsleuthlaw45match_0⟩⟩
    case round =>
     clear H'
     try clear c1
     try clear c2
     try clear p2
     try clear c5
     try clear c7
     try clear c7b0
     try clear p2
     obtain ⟨x13_2, x15_2, rfl, HA, HK2, HO_5, HO_13, HB⟩ := hrel
     cases gk with
     | zero => exact absurd HA.out (by simp [sleuthlaw45_match.l1])
     | succ k2 =>
      have H := HA.out
      clear HA
      simp only [sleuthlaw45_match.l1] at H
      by_cases c8 : x15_2 < (l1.length : Int)
      ·rw [if_pos c8] at H
       have c8b0 : decide (x15_2 < (l1.length : Int)) = true := decide_eq_true c8
       clear c8
       by_cases c9 : 0 ≤ x14_1
       ·rw [if_pos c9] at H
        have c9b0 : decide (0 ≤ x14_1) = true := decide_eq_true c9
        clear c9
        by_cases c10 : x14_1 < (l0.length : Int)
        ·rw [if_pos c10] at H
         have c10b0 : decide (x14_1 < (l0.length : Int)) = true := decide_eq_true c10
         clear c10
         by_cases c11 : 0 ≤ x15_2
         ·rw [if_pos c11] at H
          have c11b0 : decide (0 ≤ x15_2) = true := decide_eq_true c11
          clear c11
          have HC12 := Aside0.mk H
          clear H
          try go_wp2
          have n0_ := Aside0.mk (Kd.V_drew HO_5.out)
          have n1_ := Aside0.mk (Kd.V_drew HO_13.out)
          have n2_ := Aside0.mk (below_drew1 HB.out)
          clear HO_5
          clear HO_13
          clear HB
          have HO_5 := n0_
          have HO_13 := n1_
          have HB := n2_
          clear n0_ n1_ n2_
          have p532 : 0 ≤ (x14_1 : Int) := of_decide_eq_true qgsleuthlaw45match_7
          have q532 : x14_1 < (l0.length : Int) := of_decide_eq_true qgsleuthlaw45match_7
          obtain ⟨ad532, e532, hx532_0, hx532_1, hx532_2⟩ := at_T41 HR0.out x14_1 p532 q532
          have hw532_2 := hx532_2
          have hw532_1 := hx532_1
          have hw532_0 := hx532_0
          cases e532
          replace hx532_0 := (HB.out.cell (World.block_lt_of_cell? w _ hx532_0)).trans hx532_0
          replace hx532_1 := (HB.out.cell (World.block_lt_of_cell? w _ hx532_1)).trans hx532_1
          replace hx532_2 := (HB.out.cell (World.block_lt_of_cell? w _ hx532_2)).trans hx532_2
          replace p532 := eq_true p532
          replace q532 := eq_true q532
          have p533 : 0 ≤ (x15_2 : Int) := of_decide_eq_true qgsleuthlaw45match_7
          have q533 : x15_2 < (l1.length : Int) := of_decide_eq_true qgsleuthlaw45match_7
          obtain ⟨ad533, e533, hx533_0, hx533_1, hx533_2⟩ := at_T41 HR1.out x15_2 p533 q533
          have hw533_2 := hx533_2
          have hw533_1 := hx533_1
          have hw533_0 := hx533_0
          cases e533
          replace hx533_0 := (HB.out.cell (World.block_lt_of_cell? w _ hx533_0)).trans hx533_0
          replace hx533_1 := (HB.out.cell (World.block_lt_of_cell? w _ hx533_1)).trans hx533_1
          replace hx533_2 := (HB.out.cell (World.block_lt_of_cell? w _ hx533_2)).trans hx533_2
          replace p533 := eq_true p533
          replace q533 := eq_true q533
          refine start_ (n := 12) (S := fun w' => w'.cell? (ad532.add ((x14_1).toNat * 3)) = some (.int .i64 ((rd_T41 l0 x14_1).f0)) ∧ w'.cell? ⟨(ad532.add ((x14_1).toNat * 3)).block, (ad532.add ((x14_1).toNat * 3)).off + 1, none⟩ = some (.int .i64 ((rd_T41 l0 x14_1).f1)) ∧ w'.cell? ⟨(ad532.add ((x14_1).toNat * 3)).block, (ad532.add ((x14_1).toNat * 3)).off + 2, none⟩ = some (.int .i64 ((rd_T41 l0 x14_1).f2)) ∧ w'.cell? (ad533.add ((x15_2).toNat * 3)) = some (.int .i64 ((rd_T41 l1 x15_2).f0)) ∧ w'.cell? ⟨(ad533.add ((x15_2).toNat * 3)).block, (ad533.add ((x15_2).toNat * 3)).off + 1, none⟩ = some (.int .i64 ((rd_T41 l1 x15_2).f1)) ∧ w'.cell? ⟨(ad533.add ((x15_2).toNat * 3)).block, (ad533.add ((x15_2).toNat * 3)).off + 2, none⟩ = some (.int .i64 ((rd_T41 l1 x15_2).f2))) (ds := []) #[F12163, F12163, F12163, F12163, F12163, F12163, F12163, F12163, F12163, F12163, F12163, F12163] (by kernel_rfl) rfl rfl ⟨((HB.out.cell (World.block_lt_of_cell? w _ hw532_0)).trans hw532_0), ((HB.out.cell (World.block_lt_of_cell? w _ hw532_1)).trans hw532_1), ((HB.out.cell (World.block_lt_of_cell? w _ hw532_2)).trans hw532_2), ((HB.out.cell (World.block_lt_of_cell? w _ hw533_0)).trans hw533_0), ((HB.out.cell (World.block_lt_of_cell? w _ hw533_1)).trans hw533_1), ((HB.out.cell (World.block_lt_of_cell? w _ hw533_2)).trans hw533_2)⟩ (fun hHeld => ?_); refine with_tabW sleuthlaw45_match.tab8 sleuthlaw45_match.bits8 (fun HT_ HW_ => ?_)
          generalize wr.drew = w13 at HO_5 HO_13 HB hx532_0 hx532_1 hx532_2 hx533_0 hx533_1 hx533_2 hHeld ⊢
          refine pure_ (i := 0) (N := some 33) (v := ?_) (a' := ?_) #[T12163, F12163, F12163, F12163, F12163, F12163, F12163, F12163, F12163, F12163, F12163, F12163] rfl rfl (any_of HT_.out (by kernel_rfl)) (fun _ _ _ h => h) (Or.inl ⟨by rfl, ?_⟩) ?_ ?_
          rotate_left
          ·intro w'
           go_simp
           with_reducible rfl
          rotate_left
          ·simp only [Act.put, List.setIfInBounds_toArray, List.set_cons_zero, List.set_cons_succ, i64_w, i32_w]
           rfl
          refine pure_ (i := 1) (N := some 34) (v := ?_) (a' := ?_) #[T12163, T12163, F12163, F12163, F12163, F12163, F12163, F12163, F12163, F12163, F12163, F12163] rfl rfl (any_of HT_.out (by kernel_rfl)) (fun _ _ _ h => h) (Or.inl ⟨by rfl, ?_⟩) ?_ ?_
          rotate_left
          ·intro w'
           go_simp
           with_reducible rfl
          rotate_left
          ·simp only [Act.put, List.setIfInBounds_toArray, List.set_cons_zero, List.set_cons_succ, i64_w, i32_w]
           rfl
          refine pure_ (i := 2) (N := some 35) (v := ?_) (a' := ?_) #[T12163, T12163, T12163, F12163, F12163, F12163, F12163, F12163, F12163, F12163, F12163, F12163] rfl rfl (any_of HT_.out (by kernel_rfl)) (fun _ _ _ h => h) (Or.inl ⟨by rfl, ?_⟩) ?_ ?_
          rotate_left
          ·intro w'
           go_simp
           with_reducible rfl
          rotate_left
          ·simp only [Act.put, List.setIfInBounds_toArray, List.set_cons_zero, List.set_cons_succ, i64_w, i32_w]
           rfl
          refine pure_ (i := 3) (N := some 36) (v := ?_) (a' := ?_) #[T12163, T12163, T12163, T12163, F12163, F12163, F12163, F12163, F12163, F12163, F12163, F12163] rfl rfl (any_of HT_.out (by kernel_rfl)) (fun _ _ _ h => h) (Or.inl ⟨by rfl, ?_⟩) ?_ ?_
          rotate_left
          ·intro w'
           go_simp
           with_reducible rfl
          rotate_left
          ·simp only [Act.put, List.setIfInBounds_toArray, List.set_cons_zero, List.set_cons_succ, i64_w, i32_w]
           rfl
          refine pure_ (i := 5) (N := some 38) (v := ?_) (a' := ?_) #[T12163, T12163, T12163, T12163, F12163, T12163, F12163, F12163, F12163, F12163, F12163, F12163] rfl rfl (any_of HT_.out (by kernel_rfl)) (fun _ _ _ h => h) (Or.inl ⟨by rfl, ?_⟩) ?_ ?_
          rotate_left
          ·intro w'
           go_simp
           with_reducible rfl
          rotate_left
          ·simp only [Act.put, List.setIfInBounds_toArray, List.set_cons_zero, List.set_cons_succ, i64_w, i32_w]
           rfl
          refine pure_ (i := 6) (N := some 39) (v := ?_) (a' := ?_) #[T12163, T12163, T12163, T12163, F12163, T12163, T12163, F12163, F12163, F12163, F12163, F12163] rfl rfl (any_of HT_.out (by kernel_rfl)) (fun _ _ _ h => h) (Or.inl ⟨by rfl, ?_⟩) ?_ ?_
          rotate_left
          ·intro w'
           go_simp
           with_reducible rfl
          rotate_left
          ·simp only [Act.put, List.setIfInBounds_toArray, List.set_cons_zero, List.set_cons_succ, i64_w, i32_w]
           rfl
          refine pure_ (i := 7) (N := some 40) (v := ?_) (a' := ?_) #[T12163, T12163, T12163, T12163, F12163, T12163, T12163, T12163, F12163, F12163, F12163, F12163] rfl rfl (any_of HT_.out (by kernel_rfl)) (fun _ _ _ h => h) (Or.inl ⟨by rfl, ?_⟩) ?_ ?_
          rotate_left
          ·intro w'
           go_simp
           with_reducible rfl
          rotate_left
          ·simp only [Act.put, List.setIfInBounds_toArray, List.set_cons_zero, List.set_cons_succ, i64_w, i32_w]
           rfl
          refine pure_ (i := 8) (N := some 41) (v := ?_) (a' := ?_) #[T12163, T12163, T12163, T12163, F12163, T12163, T12163, T12163, T12163, F12163, F12163, F12163] rfl rfl (any_of HT_.out (by kernel_rfl)) (fun _ _ _ h => h) (Or.inl ⟨by rfl, ?_⟩) ?_ ?_
          rotate_left
          ·intro w'
           go_simp
           with_reducible rfl
          rotate_left
          ·simp only [Act.put, List.setIfInBounds_toArray, List.set_cons_zero, List.set_cons_succ, i64_w, i32_w]
           rfl
          refine take_ (i := 4) (N := some 37) (v := ?_) (a' := ?_) #[T12163, T12163, T12163, T12163, T12163, T12163, T12163, T12163, T12163, F12163, F12163, F12163] rfl rfl (take_ofW HT_.out HW_.out (by kernel_rfl)) (fun _ _ _ h => h) (Or.inl ⟨by rfl, ?_⟩) hHeld ?_ ?_
          rotate_left
          ·rintro w' ⟨s0, s1, s2, s3, s4, s5⟩
           go_simp
           with_reducible rfl
          rotate_left
          ·simp only [Act.put, List.setIfInBounds_toArray, List.set_cons_zero, List.set_cons_succ, i64_w, i32_w]
           rfl
          refine take_ (i := 9) (N := some 42) (v := ?_) (a' := ?_) #[T12163, T12163, T12163, T12163, T12163, T12163, T12163, T12163, T12163, T12163, F12163, F12163] rfl rfl (take_ofW HT_.out HW_.out (by kernel_rfl)) (fun _ _ _ h => h) (Or.inl ⟨by rfl, ?_⟩) hHeld ?_ ?_
          rotate_left
          ·rintro w' ⟨s0, s1, s2, s3, s4, s5⟩
           go_simp
           with_reducible rfl
          rotate_left
          ·simp only [Act.put, List.setIfInBounds_toArray, List.set_cons_zero, List.set_cons_succ, i64_w, i32_w]
           rfl
          refine pure_ (i := 10) (N := some 43) (v := ?_) (a' := ?_) #[T12163, T12163, T12163, T12163, T12163, T12163, T12163, T12163, T12163, T12163, T12163, F12163] rfl rfl (any_of HT_.out (by kernel_rfl)) (fun _ _ _ h => h) (Or.inl ⟨by rfl, ?_⟩) ?_ ?_
          rotate_left
          ·intro w'
           go_simp
           with_reducible rfl
          rotate_left
          ·simp only [Act.put, List.setIfInBounds_toArray, List.set_cons_zero, List.set_cons_succ, i64_w, i32_w]
           rfl
          refine pure_ (i := 11) (N := some 16) (v := ?_) (a' := ?_) #[T12163, T12163, T12163, T12163, T12163, T12163, T12163, T12163, T12163, T12163, T12163, T12163] rfl rfl (any_of HT_.out (by kernel_rfl)) (fun _ _ _ h => h) (Or.inl ⟨by rfl, ?_⟩) ?_ ?_
          rotate_left
          ·intro w'
           go_simp
           with_reducible rfl
          rotate_left
          ·simp only [Act.put, List.setIfInBounds_toArray, List.set_cons_zero, List.set_cons_succ, i64_w, i32_w]
           rfl
          refine done_ (done_of HT_.out (by kernel_rfl)) ?_
          go_upto_region 9 with (fail)
          go_cut [62] (fun v62 wc => ∃ (kq : Nat) (x62_11 : Bool), v62 = .bool x62_11 ∧ Aside0 (sleuthlaw45_match.j2 kq l0 l1 a2 a4 l5 x13_2 x14_1 x15_2 x62_11 = some r) ∧ Aside0 (kq ≤ k2) ∧ Aside0 (Kd.V k58 58 wc w.heap.size (fun k_ => (P5_ k_ ∨ w.heap.size ≤ k_)) (.slice A5 l5.length c5) l5) ∧ Aside0 (Kd.V k58 58 wc w.heap.size (fun k_ => (P5_ k_ ∨ w.heap.size ≤ k_)) u13 x13_2) ∧ Aside0 (Below w.heap.size w wc))
          case first =>
           have H := HC12.out
           clear HC12
           obtain ⟨ji14, hji14⟩ : ∃ j_ : Int, (mx (wrap64 (((rd_T41 l0 x14_1).f0) - ((rd_T41 l1 x15_2).f0))) (wrap64 (-(wrap64 (((rd_T41 l0 x14_1).f0) - ((rd_T41 l1 x15_2).f0)))))) = j_ := ⟨_, rfl⟩
           replace H : (if (ji14) > a2 then (sleuthlaw45_match.j2 k2 l0 l1 a2 a4 l5 x13_2 x14_1 x15_2 true) else ((sleuthlaw45_direction.f ((rd_T41 l0 x14_1).f0) ((rd_T41 l0 x14_1).f1) ((rd_T41 l0 x14_1).f2)).bind fun t535 => ((sleuthlaw45_direction.f ((rd_T41 l1 x15_2).f0) ((rd_T41 l1 x15_2).f1) ((rd_T41 l1 x15_2).f2)).bind fun t537 => (sleuthlaw45_match.j2 k2 l0 l1 a2 a4 l5 x13_2 x14_1 x15_2 (t535 != t537))))) = some r := by first | (rw [hji14] at H; exact H) | (simp only [hji14] at H ⊢; exact H)
           have hji14_ : (if (wrap64 (((rd_T41 l0 x14_1).f0) - ((rd_T41 l1 x15_2).f0))) < (wrap64 (-(wrap64 (((rd_T41 l0 x14_1).f0) - ((rd_T41 l1 x15_2).f0))))) then (wrap64 (-(wrap64 (((rd_T41 l0 x14_1).f0) - ((rd_T41 l1 x15_2).f0))))) else (wrap64 (((rd_T41 l0 x14_1).f0) - ((rd_T41 l1 x15_2).f0)))) = ji14 := hji14
           by_cases c15 : (ji14) > a2
           ·rw [if_pos c15] at H
            have c15b0 : decide (a2 < (ji14)) = true := decide_eq_true c15
            clear c15
            (first | rw [c15b0] | (simp only [i64_w, i32_w]; rw [c15b0]) | skip)
            have H' := Aside0.mk H
            clear H
            try go_wp2
            have n0_ := Aside0.mk (Kd.V_drew HO_5.out)
            have n1_ := Aside0.mk (Kd.V_drew HO_13.out)
            have n2_ := Aside0.mk (below_drew1 HB.out)
            clear HO_5
            clear HO_13
            clear HB
            have HO_5 := n0_
            have HO_13 := n1_
            have HB := n2_
            clear n0_ n1_ n2_
            refine start_ (n := 19) (S := fun w' => True) (ds := []) #[F12163, F12163, F12163, F12163, F12163, F12163, F12163, F12163, F12163, F12163, F12163, F12163, F12163, F12163, F12163, F12163, F12163, F12163, F12163] (by kernel_rfl) rfl rfl trivial (fun hHeld => ?_); refine with_tabW sleuthlaw45_match.tab9 sleuthlaw45_match.bits9 (fun HT_ HW_ => ?_)
            generalize w13.drew = w16 at HO_5 HO_13 HB hHeld ⊢
            refine pure_ (i := 0) (N := some 44) (v := ?_) (a' := ?_) #[T12163, F12163, F12163, F12163, F12163, F12163, F12163, F12163, F12163, F12163, F12163, F12163, F12163, F12163, F12163, F12163, F12163, F12163, F12163] rfl rfl (any_of HT_.out (by kernel_rfl)) (fun _ _ _ h => h) (Or.inl ⟨by rfl, ?_⟩) ?_ ?_
            rotate_left
            ·intro w'
             go_simp
             with_reducible rfl
            rotate_left
            ·simp only [Act.put, List.setIfInBounds_toArray, List.set_cons_zero, List.set_cons_succ, i64_w, i32_w]
             rfl
            refine pure_ (i := 1) (N := some 45) (v := ?_) (a' := ?_) #[T12163, T12163, F12163, F12163, F12163, F12163, F12163, F12163, F12163, F12163, F12163, F12163, F12163, F12163, F12163, F12163, F12163, F12163, F12163] rfl rfl (any_of HT_.out (by kernel_rfl)) (fun _ _ _ h => h) (Or.inl ⟨by rfl, ?_⟩) ?_ ?_
            rotate_left
            ·intro w'
             go_simp
             with_reducible rfl
            rotate_left
            ·simp only [Act.put, List.setIfInBounds_toArray, List.set_cons_zero, List.set_cons_succ, i64_w, i32_w]
             rfl
            refine pure_ (i := 2) (N := some 46) (v := ?_) (a' := ?_) #[T12163, T12163, T12163, F12163, F12163, F12163, F12163, F12163, F12163, F12163, F12163, F12163, F12163, F12163, F12163, F12163, F12163, F12163, F12163] rfl rfl (any_of HT_.out (by kernel_rfl)) (fun _ _ _ h => h) (Or.inl ⟨by rfl, ?_⟩) ?_ ?_
            rotate_left
            ·intro w'
             go_simp
             with_reducible rfl
            rotate_left
            ·simp only [Act.put, List.setIfInBounds_toArray, List.set_cons_zero, List.set_cons_succ, i64_w, i32_w]
             rfl
            refine pure_ (i := 3) (N := some 47) (v := ?_) (a' := ?_) #[T12163, T12163, T12163, T12163, F12163, F12163, F12163, F12163, F12163, F12163, F12163, F12163, F12163, F12163, F12163, F12163, F12163, F12163, F12163] rfl rfl (any_of HT_.out (by kernel_rfl)) (fun _ _ _ h => h) (Or.inl ⟨by rfl, ?_⟩) ?_ ?_
            rotate_left
            ·intro w'
             go_simp
             with_reducible rfl
            rotate_left
            ·simp only [Act.put, List.setIfInBounds_toArray, List.set_cons_zero, List.set_cons_succ, i64_w, i32_w]
             rfl
            refine pure_ (i := 4) (N := some 48) (v := ?_) (a' := ?_) #[T12163, T12163, T12163, T12163, T12163, F12163, F12163, F12163, F12163, F12163, F12163, F12163, F12163, F12163, F12163, F12163, F12163, F12163, F12163] rfl rfl (any_of HT_.out (by kernel_rfl)) (fun _ _ _ h => h) (Or.inl ⟨by rfl, ?_⟩) ?_ ?_
            rotate_left
            ·intro w'
             go_simp
             with_reducible rfl
            rotate_left
            ·simp only [Act.put, List.setIfInBounds_toArray, List.set_cons_zero, List.set_cons_succ, i64_w, i32_w]
             rfl
            refine pure_ (i := 5) (N := some 49) (v := ?_) (a' := ?_) #[T12163, T12163, T12163, T12163, T12163, T12163, F12163, F12163, F12163, F12163, F12163, F12163, F12163, F12163, F12163, F12163, F12163, F12163, F12163] rfl rfl (any_of HT_.out (by kernel_rfl)) (fun _ _ _ h => h) (Or.inl ⟨by rfl, ?_⟩) ?_ ?_
            rotate_left
            ·intro w'
             go_simp
             with_reducible rfl
            rotate_left
            ·simp only [Act.put, List.setIfInBounds_toArray, List.set_cons_zero, List.set_cons_succ, i64_w, i32_w]
             rfl
            refine pure_ (i := 6) (N := some 50) (v := ?_) (a' := ?_) #[T12163, T12163, T12163, T12163, T12163, T12163, T12163, F12163, F12163, F12163, F12163, F12163, F12163, F12163, F12163, F12163, F12163, F12163, F12163] rfl rfl (any_of HT_.out (by kernel_rfl)) (fun _ _ _ h => h) (Or.inl ⟨by rfl, ?_⟩) ?_ ?_
            rotate_left
            ·intro w'
             go_simp
             with_reducible rfl
            rotate_left
            ·simp only [Act.put, List.setIfInBounds_toArray, List.set_cons_zero, List.set_cons_succ, i64_w, i32_w]
             rfl
            refine pure_ (i := 7) (N := some 51) (v := undef) (a' := ?_) #[T12163, T12163, T12163, T12163, T12163, T12163, T12163, T12163, F12163, F12163, F12163, F12163, F12163, F12163, F12163, F12163, F12163, F12163, F12163] rfl rfl (any_of HT_.out (by kernel_rfl)) (fun _ _ _ h => h) (Or.inr ⟨by rfl, rfl⟩) ?_ ?_
            rotate_left
            ·simp only [Act.put, List.setIfInBounds_toArray, List.set_cons_zero, List.set_cons_succ, i64_w, i32_w]
             rfl
            refine pure_ (i := 8) (N := some 52) (v := undef) (a' := ?_) #[T12163, T12163, T12163, T12163, T12163, T12163, T12163, T12163, T12163, F12163, F12163, F12163, F12163, F12163, F12163, F12163, F12163, F12163, F12163] rfl rfl (any_of HT_.out (by kernel_rfl)) (fun _ _ _ h => h) (Or.inr ⟨by rfl, rfl⟩) ?_ ?_
            rotate_left
            ·simp only [Act.put, List.setIfInBounds_toArray, List.set_cons_zero, List.set_cons_succ, i64_w, i32_w]
             rfl
            refine pure_ (i := 9) (N := some 53) (v := undef) (a' := ?_) #[T12163, T12163, T12163, T12163, T12163, T12163, T12163, T12163, T12163, T12163, F12163, F12163, F12163, F12163, F12163, F12163, F12163, F12163, F12163] rfl rfl (any_of HT_.out (by kernel_rfl)) (fun _ _ _ h => h) (Or.inr ⟨by rfl, rfl⟩) ?_ ?_
            rotate_left
            ·simp only [Act.put, List.setIfInBounds_toArray, List.set_cons_zero, List.set_cons_succ, i64_w, i32_w]
             rfl
            refine pure_ (i := 10) (N := some 54) (v := undef) (a' := ?_) #[T12163, T12163, T12163, T12163, T12163, T12163, T12163, T12163, T12163, T12163, T12163, F12163, F12163, F12163, F12163, F12163, F12163, F12163, F12163] rfl rfl (any_of HT_.out (by kernel_rfl)) (fun _ _ _ h => h) (Or.inr ⟨by rfl, rfl⟩) ?_ ?_
            rotate_left
            ·simp only [Act.put, List.setIfInBounds_toArray, List.set_cons_zero, List.set_cons_succ, i64_w, i32_w]
             rfl
            refine pure_ (i := 11) (N := some 55) (v := undef) (a' := ?_) #[T12163, T12163, T12163, T12163, T12163, T12163, T12163, T12163, T12163, T12163, T12163, T12163, F12163, F12163, F12163, F12163, F12163, F12163, F12163] rfl rfl (any_of HT_.out (by kernel_rfl)) (fun _ _ _ h => h) (Or.inr ⟨by rfl, rfl⟩) ?_ ?_
            rotate_left
            ·simp only [Act.put, List.setIfInBounds_toArray, List.set_cons_zero, List.set_cons_succ, i64_w, i32_w]
             rfl
            refine pure_ (i := 12) (N := some 56) (v := undef) (a' := ?_) #[T12163, T12163, T12163, T12163, T12163, T12163, T12163, T12163, T12163, T12163, T12163, T12163, T12163, F12163, F12163, F12163, F12163, F12163, F12163] rfl rfl (any_of HT_.out (by kernel_rfl)) (fun _ _ _ h => h) (Or.inr ⟨by rfl, rfl⟩) ?_ ?_
            rotate_left
            ·simp only [Act.put, List.setIfInBounds_toArray, List.set_cons_zero, List.set_cons_succ, i64_w, i32_w]
             rfl
            refine pure_ (i := 13) (N := some 57) (v := undef) (a' := ?_) #[T12163, T12163, T12163, T12163, T12163, T12163, T12163, T12163, T12163, T12163, T12163, T12163, T12163, T12163, F12163, F12163, F12163, F12163, F12163] rfl rfl (any_of HT_.out (by kernel_rfl)) (fun _ _ _ h => h) (Or.inr ⟨by rfl, rfl⟩) ?_ ?_
            rotate_left
            ·simp only [Act.put, List.setIfInBounds_toArray, List.set_cons_zero, List.set_cons_succ, i64_w, i32_w]
             rfl
            refine pure_ (i := 14) (N := some 58) (v := undef) (a' := ?_) #[T12163, T12163, T12163, T12163, T12163, T12163, T12163, T12163, T12163, T12163, T12163, T12163, T12163, T12163, T12163, F12163, F12163, F12163, F12163] rfl rfl (any_of HT_.out (by kernel_rfl)) (fun _ _ _ h => h) (Or.inr ⟨by rfl, rfl⟩) ?_ ?_
            rotate_left
            ·simp only [Act.put, List.setIfInBounds_toArray, List.set_cons_zero, List.set_cons_succ, i64_w, i32_w]
             rfl
            refine pure_ (i := 15) (N := some 59) (v := undef) (a' := ?_) #[T12163, T12163, T12163, T12163, T12163, T12163, T12163, T12163, T12163, T12163, T12163, T12163, T12163, T12163, T12163, T12163, F12163, F12163, F12163] rfl rfl (any_of HT_.out (by kernel_rfl)) (fun _ _ _ h => h) (Or.inr ⟨by rfl, rfl⟩) ?_ ?_
            rotate_left
            ·simp only [Act.put, List.setIfInBounds_toArray, List.set_cons_zero, List.set_cons_succ, i64_w, i32_w]
             rfl
            refine pure_ (i := 16) (N := some 60) (v := undef) (a' := ?_) #[T12163, T12163, T12163, T12163, T12163, T12163, T12163, T12163, T12163, T12163, T12163, T12163, T12163, T12163, T12163, T12163, T12163, F12163, F12163] rfl rfl (any_of HT_.out (by kernel_rfl)) (fun _ _ _ h => h) (Or.inr ⟨by rfl, rfl⟩) ?_ ?_
            rotate_left
            ·simp only [Act.put, List.setIfInBounds_toArray, List.set_cons_zero, List.set_cons_succ, i64_w, i32_w]
             rfl
            refine pure_ (i := 17) (N := some 61) (v := undef) (a' := ?_) #[T12163, T12163, T12163, T12163, T12163, T12163, T12163, T12163, T12163, T12163, T12163, T12163, T12163, T12163, T12163, T12163, T12163, T12163, F12163] rfl rfl (any_of HT_.out (by kernel_rfl)) (fun _ _ _ h => h) (Or.inr ⟨by rfl, rfl⟩) ?_ ?_
            rotate_left
            ·simp only [Act.put, List.setIfInBounds_toArray, List.set_cons_zero, List.set_cons_succ, i64_w, i32_w]
             rfl
            refine pure_ (i := 18) (N := some 62) (v := ?_) (a' := ?_) #[T12163, T12163, T12163, T12163, T12163, T12163, T12163, T12163, T12163, T12163, T12163, T12163, T12163, T12163, T12163, T12163, T12163, T12163, T12163] rfl rfl (any_of HT_.out (by kernel_rfl)) (fun _ _ _ h => h) (Or.inl ⟨by rfl, ?_⟩) ?_ ?_
            rotate_left
            ·intro w'
             go_simp
             with_reducible rfl
            rotate_left
            ·simp only [Act.put, List.setIfInBounds_toArray, List.set_cons_zero, List.set_cons_succ, i64_w, i32_w]
             rfl
            refine done_ (done_of HT_.out (by kernel_rfl)) ?_
            try go_wp2
            go_meet
            case rel => exact ⟨_, (true), qgsleuthlaw45match_8, H', ⟨by have := HK1.out; have := HK2.out; first | omega | exact Nat.le_refl _⟩, ⟨qgsleuthlaw45match_2⟩, ⟨qgsleuthlaw45match_1⟩, ⟨qgsleuthlaw45match_0⟩⟩
           ·rw [if_neg c15] at H
            have c15b0 : decide (a2 < (ji14)) = false := decide_eq_false c15
            clear c15
            (first | rw [c15b0] | (simp only [i64_w, i32_w]; rw [c15b0]) | skip)
            replace H := Option.bind_eq_some_iff.mp H
            obtain ⟨t535, A170, H⟩ := H
            replace H : ((sleuthlaw45_direction.f ((rd_T41 l1 x15_2).f0) ((rd_T41 l1 x15_2).f1) ((rd_T41 l1 x15_2).f2)).bind fun t537 => (sleuthlaw45_match.j2 k2 l0 l1 a2 a4 l5 x13_2 x14_1 x15_2 (t535 != t537))) = some r := H
            have A17 := Aside0.mk A170
            clear A170
            replace H := Option.bind_eq_some_iff.mp H
            obtain ⟨t537, A180, H⟩ := H
            replace H : (sleuthlaw45_match.j2 k2 l0 l1 a2 a4 l5 x13_2 x14_1 x15_2 (t535 != t537)) = some r := H
            have A18 := Aside0.mk A180
            clear A180
            have H' := Aside0.mk H
            clear H
            try go_wp2
            have n0_ := Aside0.mk (Kd.V_drew HO_5.out)
            have n1_ := Aside0.mk (Kd.V_drew HO_13.out)
            have n2_ := Aside0.mk (below_drew1 HB.out)
            clear HO_5
            clear HO_13
            clear HB
            have HO_5 := n0_
            have HO_13 := n1_
            have HB := n2_
            clear n0_ n1_ n2_
            have p534 : 0 ≤ (x14_1 : Int) := of_decide_eq_true qgsleuthlaw45match_7
            have q534 : x14_1 < (l0.length : Int) := of_decide_eq_true qgsleuthlaw45match_7
            obtain ⟨ad534, e534, hx534_0, hx534_1, hx534_2⟩ := at_T41 HR0.out x14_1 p534 q534
            have hw534_2 := hx534_2
            have hw534_1 := hx534_1
            have hw534_0 := hx534_0
            obtain rfl : ad532 = ad534 := (by injection e534)
            replace hx534_0 := (HB.out.cell (World.block_lt_of_cell? w _ hx534_0)).trans hx534_0
            replace hx534_1 := (HB.out.cell (World.block_lt_of_cell? w _ hx534_1)).trans hx534_1
            replace hx534_2 := (HB.out.cell (World.block_lt_of_cell? w _ hx534_2)).trans hx534_2
            replace p534 := eq_true p534
            replace q534 := eq_true q534
            have p536 : 0 ≤ (x15_2 : Int) := of_decide_eq_true qgsleuthlaw45match_7
            have q536 : x15_2 < (l1.length : Int) := of_decide_eq_true qgsleuthlaw45match_7
            obtain ⟨ad536, e536, hx536_0, hx536_1, hx536_2⟩ := at_T41 HR1.out x15_2 p536 q536
            have hw536_2 := hx536_2
            have hw536_1 := hx536_1
            have hw536_0 := hx536_0
            obtain rfl : ad533 = ad536 := (by injection e536)
            replace hx536_0 := (HB.out.cell (World.block_lt_of_cell? w _ hx536_0)).trans hx536_0
            replace hx536_1 := (HB.out.cell (World.block_lt_of_cell? w _ hx536_1)).trans hx536_1
            replace hx536_2 := (HB.out.cell (World.block_lt_of_cell? w _ hx536_2)).trans hx536_2
            replace p536 := eq_true p536
            replace q536 := eq_true q536
            refine start_ (n := 19) (S := fun w' => w'.cell? (ad532.add ((x14_1).toNat * 3)) = some (.int .i64 ((rd_T41 l0 x14_1).f0)) ∧ w'.cell? ⟨(ad532.add ((x14_1).toNat * 3)).block, (ad532.add ((x14_1).toNat * 3)).off + 1, none⟩ = some (.int .i64 ((rd_T41 l0 x14_1).f1)) ∧ w'.cell? ⟨(ad532.add ((x14_1).toNat * 3)).block, (ad532.add ((x14_1).toNat * 3)).off + 2, none⟩ = some (.int .i64 ((rd_T41 l0 x14_1).f2)) ∧ w'.cell? (ad533.add ((x15_2).toNat * 3)) = some (.int .i64 ((rd_T41 l1 x15_2).f0)) ∧ w'.cell? ⟨(ad533.add ((x15_2).toNat * 3)).block, (ad533.add ((x15_2).toNat * 3)).off + 1, none⟩ = some (.int .i64 ((rd_T41 l1 x15_2).f1)) ∧ w'.cell? ⟨(ad533.add ((x15_2).toNat * 3)).block, (ad533.add ((x15_2).toNat * 3)).off + 2, none⟩ = some (.int .i64 ((rd_T41 l1 x15_2).f2))) (ds := []) #[F12163, F12163, F12163, F12163, F12163, F12163, F12163, F12163, F12163, F12163, F12163, F12163, F12163, F12163, F12163, F12163, F12163, F12163, F12163] (by kernel_rfl) rfl rfl ⟨((HB.out.cell (World.block_lt_of_cell? w _ hw534_0)).trans hw534_0), ((HB.out.cell (World.block_lt_of_cell? w _ hw534_1)).trans hw534_1), ((HB.out.cell (World.block_lt_of_cell? w _ hw534_2)).trans hw534_2), ((HB.out.cell (World.block_lt_of_cell? w _ hw536_0)).trans hw536_0), ((HB.out.cell (World.block_lt_of_cell? w _ hw536_1)).trans hw536_1), ((HB.out.cell (World.block_lt_of_cell? w _ hw536_2)).trans hw536_2)⟩ (fun hHeld => ?_); refine with_tabW sleuthlaw45_match.tab9 sleuthlaw45_match.bits9 (fun HT_ HW_ => ?_)
            generalize w13.drew = w19 at HO_5 HO_13 HB hx534_0 hx534_1 hx534_2 hx536_0 hx536_1 hx536_2 hHeld ⊢
            refine pure_ (i := 0) (N := some 44) (v := ?_) (a' := ?_) #[T12163, F12163, F12163, F12163, F12163, F12163, F12163, F12163, F12163, F12163, F12163, F12163, F12163, F12163, F12163, F12163, F12163, F12163, F12163] rfl rfl (any_of HT_.out (by kernel_rfl)) (fun _ _ _ h => h) (Or.inl ⟨by rfl, ?_⟩) ?_ ?_
            rotate_left
            ·intro w'
             go_simp
             with_reducible rfl
            rotate_left
            ·simp only [Act.put, List.setIfInBounds_toArray, List.set_cons_zero, List.set_cons_succ, i64_w, i32_w]
             rfl
            refine pure_ (i := 1) (N := some 45) (v := ?_) (a' := ?_) #[T12163, T12163, F12163, F12163, F12163, F12163, F12163, F12163, F12163, F12163, F12163, F12163, F12163, F12163, F12163, F12163, F12163, F12163, F12163] rfl rfl (any_of HT_.out (by kernel_rfl)) (fun _ _ _ h => h) (Or.inl ⟨by rfl, ?_⟩) ?_ ?_
            rotate_left
            ·intro w'
             go_simp
             with_reducible rfl
            rotate_left
            ·simp only [Act.put, List.setIfInBounds_toArray, List.set_cons_zero, List.set_cons_succ, i64_w, i32_w]
             rfl
            refine pure_ (i := 2) (N := some 46) (v := ?_) (a' := ?_) #[T12163, T12163, T12163, F12163, F12163, F12163, F12163, F12163, F12163, F12163, F12163, F12163, F12163, F12163, F12163, F12163, F12163, F12163, F12163] rfl rfl (any_of HT_.out (by kernel_rfl)) (fun _ _ _ h => h) (Or.inl ⟨by rfl, ?_⟩) ?_ ?_
            rotate_left
            ·intro w'
             go_simp
             with_reducible rfl
            rotate_left
            ·simp only [Act.put, List.setIfInBounds_toArray, List.set_cons_zero, List.set_cons_succ, i64_w, i32_w]
             rfl
            refine pure_ (i := 3) (N := some 47) (v := ?_) (a' := ?_) #[T12163, T12163, T12163, T12163, F12163, F12163, F12163, F12163, F12163, F12163, F12163, F12163, F12163, F12163, F12163, F12163, F12163, F12163, F12163] rfl rfl (any_of HT_.out (by kernel_rfl)) (fun _ _ _ h => h) (Or.inl ⟨by rfl, ?_⟩) ?_ ?_
            rotate_left
            ·intro w'
             go_simp
             with_reducible rfl
            rotate_left
            ·simp only [Act.put, List.setIfInBounds_toArray, List.set_cons_zero, List.set_cons_succ, i64_w, i32_w]
             rfl
            refine pure_ (i := 4) (N := some 48) (v := ?_) (a' := ?_) #[T12163, T12163, T12163, T12163, T12163, F12163, F12163, F12163, F12163, F12163, F12163, F12163, F12163, F12163, F12163, F12163, F12163, F12163, F12163] rfl rfl (any_of HT_.out (by kernel_rfl)) (fun _ _ _ h => h) (Or.inl ⟨by rfl, ?_⟩) ?_ ?_
            rotate_left
            ·intro w'
             go_simp
             with_reducible rfl
            rotate_left
            ·simp only [Act.put, List.setIfInBounds_toArray, List.set_cons_zero, List.set_cons_succ, i64_w, i32_w]
             rfl
            refine pure_ (i := 5) (N := some 49) (v := ?_) (a' := ?_) #[T12163, T12163, T12163, T12163, T12163, T12163, F12163, F12163, F12163, F12163, F12163, F12163, F12163, F12163, F12163, F12163, F12163, F12163, F12163] rfl rfl (any_of HT_.out (by kernel_rfl)) (fun _ _ _ h => h) (Or.inl ⟨by rfl, ?_⟩) ?_ ?_
            rotate_left
            ·intro w'
             go_simp
             with_reducible rfl
            rotate_left
            ·simp only [Act.put, List.setIfInBounds_toArray, List.set_cons_zero, List.set_cons_succ, i64_w, i32_w]
             rfl
            refine pure_ (i := 6) (N := some 50) (v := ?_) (a' := ?_) #[T12163, T12163, T12163, T12163, T12163, T12163, T12163, F12163, F12163, F12163, F12163, F12163, F12163, F12163, F12163, F12163, F12163, F12163, F12163] rfl rfl (any_of HT_.out (by kernel_rfl)) (fun _ _ _ h => h) (Or.inl ⟨by rfl, ?_⟩) ?_ ?_
            rotate_left
            ·intro w'
             go_simp
             with_reducible rfl
            rotate_left
            ·simp only [Act.put, List.setIfInBounds_toArray, List.set_cons_zero, List.set_cons_succ, i64_w, i32_w]
             rfl
            refine pure_ (i := 7) (N := some 51) (v := ?_) (a' := ?_) #[T12163, T12163, T12163, T12163, T12163, T12163, T12163, T12163, F12163, F12163, F12163, F12163, F12163, F12163, F12163, F12163, F12163, F12163, F12163] rfl rfl (any_of HT_.out (by kernel_rfl)) (fun _ _ _ h => h) (Or.inl ⟨by rfl, ?_⟩) ?_ ?_
            rotate_left
            ·intro w'
             go_simp
             with_reducible rfl
            rotate_left
            ·simp only [Act.put, List.setIfInBounds_toArray, List.set_cons_zero, List.set_cons_succ, i64_w, i32_w]
             rfl
            refine pure_ (i := 8) (N := some 52) (v := ?_) (a' := ?_) #[T12163, T12163, T12163, T12163, T12163, T12163, T12163, T12163, T12163, F12163, F12163, F12163, F12163, F12163, F12163, F12163, F12163, F12163, F12163] rfl rfl (any_of HT_.out (by kernel_rfl)) (fun _ _ _ h => h) (Or.inl ⟨by rfl, ?_⟩) ?_ ?_
            rotate_left
            ·intro w'
             go_simp
             with_reducible rfl
            rotate_left
            ·simp only [Act.put, List.setIfInBounds_toArray, List.set_cons_zero, List.set_cons_succ, i64_w, i32_w]
             rfl
            refine pure_ (i := 9) (N := some 53) (v := ?_) (a' := ?_) #[T12163, T12163, T12163, T12163, T12163, T12163, T12163, T12163, T12163, T12163, F12163, F12163, F12163, F12163, F12163, F12163, F12163, F12163, F12163] rfl rfl (any_of HT_.out (by kernel_rfl)) (fun _ _ _ h => h) (Or.inl ⟨by rfl, ?_⟩) ?_ ?_
            rotate_left
            ·intro w'
             go_simp
             with_reducible rfl
            rotate_left
            ·simp only [Act.put, List.setIfInBounds_toArray, List.set_cons_zero, List.set_cons_succ, i64_w, i32_w]
             rfl
            refine pure_ (i := 12) (N := some 56) (v := ?_) (a' := ?_) #[T12163, T12163, T12163, T12163, T12163, T12163, T12163, T12163, T12163, T12163, F12163, F12163, T12163, F12163, F12163, F12163, F12163, F12163, F12163] rfl rfl (any_of HT_.out (by kernel_rfl)) (fun _ _ _ h => h) (Or.inl ⟨by rfl, ?_⟩) ?_ ?_
            rotate_left
            ·intro w'
             go_simp
             with_reducible rfl
            rotate_left
            ·simp only [Act.put, List.setIfInBounds_toArray, List.set_cons_zero, List.set_cons_succ, i64_w, i32_w]
             rfl
            refine pure_ (i := 13) (N := some 57) (v := ?_) (a' := ?_) #[T12163, T12163, T12163, T12163, T12163, T12163, T12163, T12163, T12163, T12163, F12163, F12163, T12163, T12163, F12163, F12163, F12163, F12163, F12163] rfl rfl (any_of HT_.out (by kernel_rfl)) (fun _ _ _ h => h) (Or.inl ⟨by rfl, ?_⟩) ?_ ?_
            rotate_left
            ·intro w'
             go_simp
             with_reducible rfl
            rotate_left
            ·simp only [Act.put, List.setIfInBounds_toArray, List.set_cons_zero, List.set_cons_succ, i64_w, i32_w]
             rfl
            refine pure_ (i := 14) (N := some 58) (v := ?_) (a' := ?_) #[T12163, T12163, T12163, T12163, T12163, T12163, T12163, T12163, T12163, T12163, F12163, F12163, T12163, T12163, T12163, F12163, F12163, F12163, F12163] rfl rfl (any_of HT_.out (by kernel_rfl)) (fun _ _ _ h => h) (Or.inl ⟨by rfl, ?_⟩) ?_ ?_
            rotate_left
            ·intro w'
             go_simp
             with_reducible rfl
            rotate_left
            ·simp only [Act.put, List.setIfInBounds_toArray, List.set_cons_zero, List.set_cons_succ, i64_w, i32_w]
             rfl
            refine take_ (i := 10) (N := some 54) (v := ?_) (a' := ?_) #[T12163, T12163, T12163, T12163, T12163, T12163, T12163, T12163, T12163, T12163, T12163, F12163, T12163, T12163, T12163, F12163, F12163, F12163, F12163] rfl rfl (take_ofW HT_.out HW_.out (by kernel_rfl)) (fun _ _ _ h => h) (Or.inl ⟨by rfl, ?_⟩) hHeld ?_ ?_
            rotate_left
            ·rintro w' ⟨s0, s1, s2, s3, s4, s5⟩
             go_simp
             with_reducible rfl
            rotate_left
            ·simp only [Act.put, List.setIfInBounds_toArray, List.set_cons_zero, List.set_cons_succ, i64_w, i32_w]
             rfl
            refine take_ (i := 15) (N := some 59) (v := ?_) (a' := ?_) #[T12163, T12163, T12163, T12163, T12163, T12163, T12163, T12163, T12163, T12163, T12163, F12163, T12163, T12163, T12163, T12163, F12163, F12163, F12163] rfl rfl (take_ofW HT_.out HW_.out (by kernel_rfl)) (fun _ _ _ h => h) (Or.inl ⟨by rfl, ?_⟩) hHeld ?_ ?_
            rotate_left
            ·rintro w' ⟨s0, s1, s2, s3, s4, s5⟩
             go_simp
             with_reducible rfl
            rotate_left
            ·simp only [Act.put, List.setIfInBounds_toArray, List.set_cons_zero, List.set_cons_succ, i64_w, i32_w]
             rfl
            refine one_ (i := 11) (N := some 55) #[T12163, T12163, T12163, T12163, T12163, T12163, T12163, T12163, T12163, T12163, T12163, T12163, T12163, T12163, T12163, T12163, F12163, F12163, F12163] rfl rfl (one_of HT_.out (by kernel_rfl)) (by decide) (fun K hK => ?_)
            refine goes_ Try.func25 (by kernel_rfl) rfl #[.agg #[.int .i64 ((rd_T41 l0 x14_1).f0), .int .i64 ((rd_T41 l0 x14_1).f1), .int .i64 ((rd_T41 l0 x14_1).f2)]] (by rfl) rfl rfl qgsleuthlaw45match_3 ?_
            with_reducible refine (sleuthlaw45_direction.calls ((rd_T41 l0 x14_1).f0) ((rd_T41 l0 x14_1).f1) ((rd_T41 l0 x14_1).f2) t535 _ A17.out).mono ?_
            rintro e w20 ⟨rfl, hb⟩
            refine ⟨_, rfl, ?_⟩
            have n0_ := Aside0.mk (Kd.V_below qgsleuthlaw45match_2 hb)
            have n1_ := Aside0.mk (Kd.V_below qgsleuthlaw45match_1 hb)
            have n2_ := Aside0.mk (below_step qgsleuthlaw45match_0 hb)
            clear HO_5
            clear HO_13
            clear HB
            have HO_5 := n0_
            have HO_13 := n1_
            have HB := n2_
            clear n0_ n1_ n2_
            (try clear hb)
            (try clear hb2)
            (try clear hk)
            (try clear hi)
            refine hK.out _ _ ⟨((HB.out.cell (World.block_lt_of_cell? w _ hw534_0)).trans hw534_0), ((HB.out.cell (World.block_lt_of_cell? w _ hw534_1)).trans hw534_1), ((HB.out.cell (World.block_lt_of_cell? w _ hw534_2)).trans hw534_2), ((HB.out.cell (World.block_lt_of_cell? w _ hw536_0)).trans hw536_0), ((HB.out.cell (World.block_lt_of_cell? w _ hw536_1)).trans hw536_1), ((HB.out.cell (World.block_lt_of_cell? w _ hw536_2)).trans hw536_2)⟩ (fun hHeld => ?_)
            clear hK K
            refine norm_ (a' := ?_) ?_ ?_
            rotate_left
            ·show Act.put _ (some 55) _ = _
             simp only [Act.put, List.setIfInBounds_toArray, List.set_cons_zero, List.set_cons_succ, i64_w, i32_w]
             rfl
            refine one_ (i := 16) (N := some 60) #[T12163, T12163, T12163, T12163, T12163, T12163, T12163, T12163, T12163, T12163, T12163, T12163, T12163, T12163, T12163, T12163, T12163, F12163, F12163] rfl rfl (one_of HT_.out (by kernel_rfl)) (by decide) (fun K hK => ?_)
            refine goes_ Try.func25 (by kernel_rfl) rfl #[.agg #[.int .i64 ((rd_T41 l1 x15_2).f0), .int .i64 ((rd_T41 l1 x15_2).f1), .int .i64 ((rd_T41 l1 x15_2).f2)]] (by rfl) rfl rfl qgsleuthlaw45match_3 ?_
            with_reducible refine (sleuthlaw45_direction.calls ((rd_T41 l1 x15_2).f0) ((rd_T41 l1 x15_2).f1) ((rd_T41 l1 x15_2).f2) t537 _ A18.out).mono ?_
            rintro e w21 ⟨rfl, hb⟩
            refine ⟨_, rfl, ?_⟩
            have n0_ := Aside0.mk (Kd.V_below qgsleuthlaw45match_2 hb)
            have n1_ := Aside0.mk (Kd.V_below qgsleuthlaw45match_1 hb)
            have n2_ := Aside0.mk (below_step qgsleuthlaw45match_0 hb)
            clear HO_5
            clear HO_13
            clear HB
            have HO_5 := n0_
            have HO_13 := n1_
            have HB := n2_
            clear n0_ n1_ n2_
            (try clear hb)
            (try clear hb2)
            (try clear hk)
            (try clear hi)
            refine hK.out _ _ ⟨((HB.out.cell (World.block_lt_of_cell? w _ hw534_0)).trans hw534_0), ((HB.out.cell (World.block_lt_of_cell? w _ hw534_1)).trans hw534_1), ((HB.out.cell (World.block_lt_of_cell? w _ hw534_2)).trans hw534_2), ((HB.out.cell (World.block_lt_of_cell? w _ hw536_0)).trans hw536_0), ((HB.out.cell (World.block_lt_of_cell? w _ hw536_1)).trans hw536_1), ((HB.out.cell (World.block_lt_of_cell? w _ hw536_2)).trans hw536_2)⟩ (fun hHeld => ?_)
            clear hK K
            refine norm_ (a' := ?_) ?_ ?_
            rotate_left
            ·show Act.put _ (some 60) _ = _
             simp only [Act.put, List.setIfInBounds_toArray, List.set_cons_zero, List.set_cons_succ, i64_w, i32_w]
             rfl
            refine pure_ (i := 17) (N := some 61) (v := ?_) (a' := ?_) #[T12163, T12163, T12163, T12163, T12163, T12163, T12163, T12163, T12163, T12163, T12163, T12163, T12163, T12163, T12163, T12163, T12163, T12163, F12163] rfl rfl (any_of HT_.out (by kernel_rfl)) (fun _ _ _ h => h) (Or.inl ⟨by rfl, ?_⟩) ?_ ?_
            rotate_left
            ·intro w'
             go_simp
             with_reducible rfl
            rotate_left
            ·simp only [Act.put, List.setIfInBounds_toArray, List.set_cons_zero, List.set_cons_succ, i64_w, i32_w]
             rfl
            refine pure_ (i := 18) (N := some 62) (v := ?_) (a' := ?_) #[T12163, T12163, T12163, T12163, T12163, T12163, T12163, T12163, T12163, T12163, T12163, T12163, T12163, T12163, T12163, T12163, T12163, T12163, T12163] rfl rfl (any_of HT_.out (by kernel_rfl)) (fun _ _ _ h => h) (Or.inl ⟨by rfl, ?_⟩) ?_ ?_
            rotate_left
            ·intro w'
             go_simp
             with_reducible rfl
            rotate_left
            ·simp only [Act.put, List.setIfInBounds_toArray, List.set_cons_zero, List.set_cons_succ, i64_w, i32_w]
             rfl
            refine done_ (done_of HT_.out (by kernel_rfl)) ?_
            try go_wp2
            go_meet
            case rel => exact ⟨_, ((t535 != t537)), qgsleuthlaw45match_8, H', ⟨by have := HK1.out; have := HK2.out; first | omega | exact Nat.le_refl _⟩, ⟨qgsleuthlaw45match_2⟩, ⟨qgsleuthlaw45match_1⟩, ⟨qgsleuthlaw45match_0⟩⟩
          case rest =>
           clear HC12
           try clear c1
           try clear c2
           try clear p2
           try clear c5
           try clear p5
           try clear q5
           try clear hx5
           try clear p6
           try clear c7
           try clear c7b0
           try clear c8
           try clear c8b0
           try clear c9
           try clear c9b0
           try clear c10
           try clear c10b0
           try clear c11
           try clear c11b0
           try clear c15
           try clear c15b0
           try clear hx532_0
           try clear hx532_1
           try clear hx532_2
           try clear hx533_0
           try clear hx533_1
           try clear hx533_2
           try clear hx534_0
           try clear hx534_1
           try clear hx534_2
           try clear hx536_0
           try clear hx536_1
           try clear hx536_2
           try clear p2
           try clear p532
           try clear p533
           try clear p534
           try clear p536
           try clear q532
           try clear q533
           try clear q534
           try clear q536
           obtain ⟨kq, x62_11, rfl, HA, HJ11, HO_5, HO_13, HB⟩ := hcut
           cases kq with
           | zero => exact absurd HA.out (by simp [sleuthlaw45_match.j2])
           | succ kj11 =>
            have H := HA.out
            clear HA
            simp only [sleuthlaw45_match.j2] at H
            by_cases c22 : x62_11 = true
            ·subst c22
             have H1 : (sleuthlaw45_match.l1 kj11 l0 l1 a2 a4 l5 x13_2 x14_1 (wrap64 (x15_2 + 1))) = some r := by rw [if_pos rfl] at H; exact H
             clear H
             have H := H1
             clear H1
             have H' := Aside0.mk H
             clear H
             go_wp2
             go_roundg kj11
             case measure => have := HK1.out; have := HK2.out; have := HJ11.out; omega
             case rel => exact ⟨(x13_2), (wrap64 (x15_2 + 1)), qgsleuthlaw45match_8, H', ⟨qgsleuthlaw45match_10⟩, ⟨qgsleuthlaw45match_2⟩, ⟨qgsleuthlaw45match_1⟩, ⟨qgsleuthlaw45match_0⟩⟩
            ·replace c22 := Bool.eq_false_iff.mpr c22
             subst c22
             have H1 : ((some (([] : List (S58)) : List (S58))).bind fun y538 => (if y538.length + l5.length < 8796093022208 then ((some (y538 ++ l5 : List (S58))).bind fun y541 => (if y541.length < 8796093022208 then ((sleuthlaw45_match.f kj11 l0 l1 a2 (wrap64 (x14_1 + 1)) (wrap64 (x15_2 + 1)) (y541 ++ [(⟨x14_1, x15_2⟩ : S58)])).bind fun t547 => ((sleuthlaw45_better.f kj11 l0 l1 t547 x13_2).bind fun t550 => (if t550 = true then (sleuthlaw45_match.l1 kj11 l0 l1 a2 a4 l5 t547 x14_1 (wrap64 (x15_2 + 1))) else (sleuthlaw45_match.l1 kj11 l0 l1 a2 a4 l5 x13_2 x14_1 (wrap64 (x15_2 + 1)))))) else (none))) else (none))) = some r := by rw [if_neg (show ¬ (false = true) by decide)] at H; exact H
             clear H
             have H := H1
             clear H1
             obtain ⟨y538, hy538⟩ : ∃ y_ : List (S58), y_ = (([] : List (S58))) := ⟨_, rfl⟩
             replace H : (if y538.length + l5.length < 8796093022208 then ((some (y538 ++ l5 : List (S58))).bind fun y541 => (if y541.length < 8796093022208 then ((sleuthlaw45_match.f kj11 l0 l1 a2 (wrap64 (x14_1 + 1)) (wrap64 (x15_2 + 1)) (y541 ++ [(⟨x14_1, x15_2⟩ : S58)])).bind fun t547 => ((sleuthlaw45_better.f kj11 l0 l1 t547 x13_2).bind fun t550 => (if t550 = true then (sleuthlaw45_match.l1 kj11 l0 l1 a2 a4 l5 t547 x14_1 (wrap64 (x15_2 + 1))) else (sleuthlaw45_match.l1 kj11 l0 l1 a2 a4 l5 x13_2 x14_1 (wrap64 (x15_2 + 1)))))) else (none))) else (none)) = some r := by first | (rw [hy538]; with_reducible exact H) | (have H2_ := (Option.bind_some _ _).symm.trans H; rw [hy538]; with_reducible exact H2_) | (have H2_ := (Option.bind_some _ _).symm.trans H; with_reducible exact H2_) | with_reducible exact H | (rw [hy538]; exact H) | exact H
             have Ny538 := Aside0.mk hy538
             clear hy538
             by_cases c23 : y538.length + l5.length < 8796093022208
             ·rw [if_pos c23] at H
              have LMc23 := Aside0.mk c23
              clear c23
              obtain ⟨y541, hy541⟩ : ∃ y_ : List (S58), y_ = (y538 ++ l5) := ⟨_, rfl⟩
              replace H : (if y541.length < 8796093022208 then ((sleuthlaw45_match.f kj11 l0 l1 a2 (wrap64 (x14_1 + 1)) (wrap64 (x15_2 + 1)) (y541 ++ [(⟨x14_1, x15_2⟩ : S58)])).bind fun t547 => ((sleuthlaw45_better.f kj11 l0 l1 t547 x13_2).bind fun t550 => (if t550 = true then (sleuthlaw45_match.l1 kj11 l0 l1 a2 a4 l5 t547 x14_1 (wrap64 (x15_2 + 1))) else (sleuthlaw45_match.l1 kj11 l0 l1 a2 a4 l5 x13_2 x14_1 (wrap64 (x15_2 + 1)))))) else (none)) = some r := by first | (rw [hy541]; with_reducible exact H) | (have H2_ := (Option.bind_some _ _).symm.trans H; rw [hy541]; with_reducible exact H2_) | (have H2_ := (Option.bind_some _ _).symm.trans H; with_reducible exact H2_) | with_reducible exact H | (rw [hy541]; exact H) | exact H
              have Ny541 := Aside0.mk hy541
              clear hy541
              by_cases c24 : y541.length < 8796093022208
              ·rw [if_pos c24] at H
               have LMc24 := Aside0.mk c24
               clear c24
               obtain ⟨y544, hy544⟩ : ∃ y_ : List (S58), y_ = (y541 ++ [(⟨x14_1, x15_2⟩ : S58)]) := ⟨_, rfl⟩
               replace H : ((sleuthlaw45_match.f kj11 l0 l1 a2 (wrap64 (x14_1 + 1)) (wrap64 (x15_2 + 1)) y544).bind fun t547 => ((sleuthlaw45_better.f kj11 l0 l1 t547 x13_2).bind fun t550 => (if t550 = true then (sleuthlaw45_match.l1 kj11 l0 l1 a2 a4 l5 t547 x14_1 (wrap64 (x15_2 + 1))) else (sleuthlaw45_match.l1 kj11 l0 l1 a2 a4 l5 x13_2 x14_1 (wrap64 (x15_2 + 1)))))) = some r := by first | (rw [hy544]; with_reducible exact H) | (have H2_ := (Option.bind_some _ _).symm.trans H; rw [hy544]; with_reducible exact H2_) | (have H2_ := (Option.bind_some _ _).symm.trans H; with_reducible exact H2_) | with_reducible exact H | (rw [hy544]; exact H) | exact H
               have Ny544 := Aside0.mk hy544
               clear hy544
               replace H := Option.bind_eq_some_iff.mp H
               obtain ⟨t547, A250, H⟩ := H
               replace H : ((sleuthlaw45_better.f kj11 l0 l1 t547 x13_2).bind fun t550 => (if t550 = true then (sleuthlaw45_match.l1 kj11 l0 l1 a2 a4 l5 t547 x14_1 (wrap64 (x15_2 + 1))) else (sleuthlaw45_match.l1 kj11 l0 l1 a2 a4 l5 x13_2 x14_1 (wrap64 (x15_2 + 1))))) = some r := H
               have A25 := Aside0.mk A250
               clear A250
               replace H := Option.bind_eq_some_iff.mp H
               obtain ⟨t550, A260, H⟩ := H
               replace H : (if t550 = true then (sleuthlaw45_match.l1 kj11 l0 l1 a2 a4 l5 t547 x14_1 (wrap64 (x15_2 + 1))) else (sleuthlaw45_match.l1 kj11 l0 l1 a2 a4 l5 x13_2 x14_1 (wrap64 (x15_2 + 1)))) = some r := H
               have A26 := Aside0.mk A260
               clear A260
               by_cases c27 : t550 = true
               ·subst c27
                have H1 : (sleuthlaw45_match.l1 kj11 l0 l1 a2 a4 l5 t547 x14_1 (wrap64 (x15_2 + 1))) = some r := by rw [if_pos rfl] at H; exact H
                clear H
                have H := H1
                clear H1
                have H' := Aside0.mk H
                clear H
                go_wp2_with (first | ((with_reducible refine gate_dst (N := 70) rfl ?_); refine Kd.R_lit k58 _ 58 ?hg (N := 70) ?hd (xs := ([] : List (S58))) (inner := []) (ok := fun _ => True) (okp := fun _ => True) ?hr ?hp (fun _ hk => hk) trivial (Below.refl _ _) (Nat.le_refl _) (by simp) ?_; (case hd => rfl); (case hg => rfl); (case hr => first | (go_simp; done) | (go_simp; rfl)); (case hp => exact (Reps.none _ _)); intro v539 w28 ho29 hb hg_ hnew_; clear hg_ hnew_; (first | rw [← Ny538.out] at ho29 | (simp only [Int.reduceToNat] at ho29; rw [← Ny538.out] at ho29)); have n0_ := Aside0.mk (Kd.V_elder' qgsleuthlaw45match_2 (Kd.R_base ho29) hb); have n1_ := Aside0.mk (Kd.V_elder' qgsleuthlaw45match_1 (Kd.R_base ho29) hb); have n2_ := Aside0.mk (Kd.R_lower (Kd.R_newM (M := fun k_ => (w.heap.size ≤ k_)) ho29 (below_size qgsleuthlaw45match_0) (fun k_ h_ => h_)) (below_size qgsleuthlaw45match_0)); have n3_ := Aside0.mk (below_step qgsleuthlaw45match_0 hb); clear HO_5; clear HO_13; clear HB; have HO_5 := n0_; have HO_13 := n1_; have HO540 := n2_; have HB := n3_; clear n0_ n1_ n2_ n3_; clear hb ho29) | ((with_reducible refine gate_builtin (b := .append) (xs := #[.tmp 70, .tmp 71]) rfl ?_); at_builtin; refine Kd.R_append_rows k58 (w0 := w) w.heap.size rfl (.tmp 70) (.tmp 71) 54 58 (.agg #[(.int .i64 0), (.int .i64 0)]) 16 rfl Try.underlying54 info58 rfl (by decide) (by omega) v539 y538 l5 _ _ _ (fun k_ => (w.heap.size ≤ k_)) (fun _ => False) rfl rfl ?aO ?aR (fun _ _ h => h) (fun _ h => h.elim) ?aF ?aB ?aS ?aL ?_; (case aR => repeat (first | exact (Kd.V_reads' HO_5.out).2.2 | (with_reducible refine Kd.C_alloc ?_ _) | (with_reducible refine Kd.C_drewN ?_ _) | (with_reducible refine Kd.C_drew ?_))); (case aB => exact qgsleuthlaw45match_0); (case aF => exact (fun k_ hk => (Nat.le_trans (below_size qgsleuthlaw45match_0) hk))); (case aO => exact (by (with_reducible repeat (first | apply Kd.R_alloc | apply Kd.R_drewN | apply Kd.R_drew)); exact Kd.R_mono HO540.out (fun _ hk => hk.1))); (case aS => exact (below_size qgsleuthlaw45match_0)); (case aL => have := LMc23.out; omega); intro v542 w30 ho hb hg hat; rw [← Ny541.out] at ho; have n0_ := Aside0.mk (Kd.V_afterv (ok := (fun k_ => (P5_ k_ ∨ w.heap.size ≤ k_))) qgsleuthlaw45match_2 hg hat); have n1_ := Aside0.mk (Kd.V_afterv (ok := (fun k_ => (P5_ k_ ∨ w.heap.size ≤ k_))) qgsleuthlaw45match_1 hg hat); have n2_ := Aside0.mk (hb); have n3_ := Aside0.mk (ho); clear HO_5; clear HO_13; clear HB; clear HO540; have HO_5 := n0_; have HO_13 := n1_; have HB := n2_; have HO543 := n3_; clear n0_ n1_ n2_ n3_; clear ho hb hg hat) | ((with_reducible refine gate_builtin (b := .append) (xs := #[.tmp 72, .tmp 76]) rfl ?_); at_builtin; refine Kd.R_append k58 (w0 := w) w.heap.size rfl (.tmp 72) (.tmp 76) 54 58 (.agg #[(.int .i64 0), (.int .i64 0)]) 16 rfl Try.underlying54 info58 rfl (by decide) (by omega) v542 y541 (⟨x14_1, x15_2⟩ : S58) [.int .i64 x14_1, .int .i64 x15_2] (fun k_ => (w.heap.size ≤ k_)) (fun _ => False) rfl rfl ?aP (fun _ hk => hk.elim) ?aF ?aO ?aB ?aS ?aL ?_; (case aP => exact k58_mkM _ _ _ (⟨x14_1, x15_2⟩ : S58)); (case aB => exact qgsleuthlaw45match_0); (case aF => exact (fun k_ hk => (Nat.le_trans (below_size qgsleuthlaw45match_0) hk))); (case aO => exact (by (with_reducible repeat (first | apply Kd.R_alloc | apply Kd.R_drewN | apply Kd.R_drew)); exact HO543.out)); (case aS => exact (below_size qgsleuthlaw45match_0)); (case aL => have := LMc24.out; omega); intro v545 w31 ho hb hg hat; rw [← Ny544.out] at ho; have n0_ := Aside0.mk (Kd.V_afterv (ok := (fun k_ => (P5_ k_ ∨ w.heap.size ≤ k_))) qgsleuthlaw45match_2 hg hat); have n1_ := Aside0.mk (Kd.V_afterv (ok := (fun k_ => (P5_ k_ ∨ w.heap.size ≤ k_))) qgsleuthlaw45match_1 hg hat); have n2_ := Aside0.mk (hb); have n3_ := Aside0.mk (ho); clear HO_5; clear HO_13; clear HB; clear HO543; have HO_5 := n0_; have HO_13 := n1_; have HB := n2_; have HO546 := n3_; clear n0_ n1_ n2_ n3_; clear ho hb hg hat; obtain ⟨Ao32, co32, eo32⟩ := Kd.R_slice HO546.out; subst eo32) | ((with_reducible refine gate_callee (f := 24) rfl ?_); refine goesL_ (some 78) rfl rfl Try.func24 (by kernel_rfl) rfl #[.slice (some ad532) l0.length c0, .slice (some ad533) l1.length c1, .int .i64 a2, .int .i64 (wrap64 (x14_1 + 1)), .int .i64 (wrap64 (x15_2 + 1)), .slice Ao32 y544.length co32] rfl qgsleuthlaw45match_3 ?_; (with_reducible refine (ih kj11 qgsleuthlaw45match_10 _ _ l0 _ _ l1 a2 (wrap64 (x14_1 + 1)) (wrap64 (x15_2 + 1)) (fun k_ => some k_ = (.slice Ao32 y544.length co32 : Value).ownBlock) _ _ y544 t547 _ ?side1 ?side2 ?side3 ?side4 ?side5 A25.out).mono ?_); (case side1 => exact qgsleuthlaw45match_4); (case side2 => exact HC0.out); (case side3 => exact qgsleuthlaw45match_5); (case side4 => exact HC1.out); (case side5 => exact Kd.R_V (Kd.R_tight rfl (HO546.out))); rintro e w33 ⟨v548, rfl, ho0, hb⟩; refine ⟨_, rfl, ?_⟩; have n0_ := Aside0.mk (Kd.V_below qgsleuthlaw45match_2 hb); have n1_ := Aside0.mk (Kd.V_below qgsleuthlaw45match_1 hb); have n2_ := Aside0.mk (Kd.R_below qgsleuthlaw45match_6 hb); have n3_ := Aside0.mk (Kd.V_lower (Kd.V_mono (ok' := fun k_ => (P5_ k_ ∨ w.heap.size ≤ k_)) ho0 (fun k_ hk_ => Or.elim hk_ (fun hs_ => (.inr (((HO546.out).1 k_ hs_.symm)))) (fun hn_ => (.inr (Nat.le_trans (below_size qgsleuthlaw45match_0) hn_))))) (below_size qgsleuthlaw45match_0)); have n4_ := Aside0.mk (below_step qgsleuthlaw45match_0 hb); clear HO_5; clear HO_13; clear HO546; clear HB; have HO_5 := n0_; have HO_13 := n1_; have HO546 := n2_; have HO549 := n3_; have HB := n4_; clear n0_ n1_ n2_ n3_ n4_; (try clear hb); (try clear hb2); (try clear hk); (try clear hi); (try clear ho0); obtain ⟨Ao34, co34, eo34⟩ := Kd.V_slice HO549.out; subst eo34; obtain ⟨Ao35, co35, eo35⟩ := Kd.V_slice HO_13.out; subst eo35) | ((with_reducible refine gate_callee (f := 48) rfl ?_); refine goesL_ (some 83) rfl rfl Try.func48 (by kernel_rfl) rfl #[.slice (some ad532) l0.length c0, .slice (some ad533) l1.length c1, .slice Ao34 t547.length co34, .slice Ao35 x13_2.length co35] rfl qgsleuthlaw45match_3 ?_; (with_reducible refine (sleuthlaw45_better.calls kj11 _ _ l0 _ _ l1 _ _ t547 _ _ x13_2 true _ ?side1 ?side2 ?side3 ?side4 ?side5 ?side6 ?side7 ?side8 A26.out).mono ?_); (case side1 => exact qgsleuthlaw45match_4); (case side2 => exact HC0.out); (case side3 => exact qgsleuthlaw45match_5); (case side4 => exact HC1.out); (case side5 => repeat (first | exact (Kd.V_reads' HO549.out).2.2 | (with_reducible refine Kd.C_alloc ?_ _) | (with_reducible refine Kd.C_drewN ?_ _) | (with_reducible refine Kd.C_drew ?_))); (case side6 => exact (Kd.V_reads' HO549.out).2.1); (case side7 => repeat (first | exact (Kd.V_reads' HO_13.out).2.2 | (with_reducible refine Kd.C_alloc ?_ _) | (with_reducible refine Kd.C_drewN ?_ _) | (with_reducible refine Kd.C_drew ?_))); (case side8 => exact (Kd.V_reads' HO_13.out).2.1); rintro e w36 ⟨rfl, hb⟩; refine ⟨_, rfl, ?_⟩; have n0_ := Aside0.mk (Kd.V_below qgsleuthlaw45match_2 hb); have n1_ := Aside0.mk (Kd.V_below qgsleuthlaw45match_1 hb); have n2_ := Aside0.mk (Kd.R_below qgsleuthlaw45match_6 hb); have n3_ := Aside0.mk (Kd.V_below qgsleuthlaw45match_9 hb); have n4_ := Aside0.mk (below_step qgsleuthlaw45match_0 hb); clear HO_5; clear HO_13; clear HO546; clear HO549; clear HB; have HO_5 := n0_; have HO_13 := n1_; have HO546 := n2_; have HO549 := n3_; have HB := n4_; clear n0_ n1_ n2_ n3_ n4_; (try clear hb); (try clear hb2); (try clear hk); (try clear hi)))
                go_roundg kj11
                case measure => have := HK1.out; have := HK2.out; have := HJ11.out; omega
                case rel => exact ⟨(t547), (wrap64 (x15_2 + 1)), qgsleuthlaw45match_8, H', ⟨qgsleuthlaw45match_10⟩, ⟨by (with_reducible repeat (first | apply Kd.V_alloc | apply Kd.V_drewN | apply Kd.V_drew)); exact Kd.V_mono HO_5.out (fun _ hk => hk.1)⟩, ⟨qgsleuthlaw45match_9⟩, ⟨qgsleuthlaw45match_0⟩⟩
               ·replace c27 := Bool.eq_false_iff.mpr c27
                subst c27
                have H1 : (sleuthlaw45_match.l1 kj11 l0 l1 a2 a4 l5 x13_2 x14_1 (wrap64 (x15_2 + 1))) = some r := by rw [if_neg (show ¬ (false = true) by decide)] at H; exact H
                clear H
                have H := H1
                clear H1
                have H' := Aside0.mk H
                clear H
                go_wp2_with (first | ((with_reducible refine gate_dst (N := 70) rfl ?_); refine Kd.R_lit k58 _ 58 ?hg (N := 70) ?hd (xs := ([] : List (S58))) (inner := []) (ok := fun _ => True) (okp := fun _ => True) ?hr ?hp (fun _ hk => hk) trivial (Below.refl _ _) (Nat.le_refl _) (by simp) ?_; (case hd => rfl); (case hg => rfl); (case hr => first | (go_simp; done) | (go_simp; rfl)); (case hp => exact (Reps.none _ _)); intro v539 w37 ho38 hb hg_ hnew_; clear hg_ hnew_; (first | rw [← Ny538.out] at ho38 | (simp only [Int.reduceToNat] at ho38; rw [← Ny538.out] at ho38)); have n0_ := Aside0.mk (Kd.V_elder' qgsleuthlaw45match_2 (Kd.R_base ho38) hb); have n1_ := Aside0.mk (Kd.V_elder' qgsleuthlaw45match_1 (Kd.R_base ho38) hb); have n2_ := Aside0.mk (Kd.R_lower (Kd.R_newM (M := fun k_ => (w.heap.size ≤ k_)) ho38 (below_size qgsleuthlaw45match_0) (fun k_ h_ => h_)) (below_size qgsleuthlaw45match_0)); have n3_ := Aside0.mk (below_step qgsleuthlaw45match_0 hb); clear HO_5; clear HO_13; clear HB; have HO_5 := n0_; have HO_13 := n1_; have HO540 := n2_; have HB := n3_; clear n0_ n1_ n2_ n3_; clear hb ho38) | ((with_reducible refine gate_builtin (b := .append) (xs := #[.tmp 70, .tmp 71]) rfl ?_); at_builtin; refine Kd.R_append_rows k58 (w0 := w) w.heap.size rfl (.tmp 70) (.tmp 71) 54 58 (.agg #[(.int .i64 0), (.int .i64 0)]) 16 rfl Try.underlying54 info58 rfl (by decide) (by omega) v539 y538 l5 _ _ _ (fun k_ => (w.heap.size ≤ k_)) (fun _ => False) rfl rfl ?aO ?aR (fun _ _ h => h) (fun _ h => h.elim) ?aF ?aB ?aS ?aL ?_; (case aR => repeat (first | exact (Kd.V_reads' HO_5.out).2.2 | (with_reducible refine Kd.C_alloc ?_ _) | (with_reducible refine Kd.C_drewN ?_ _) | (with_reducible refine Kd.C_drew ?_))); (case aB => exact qgsleuthlaw45match_0); (case aF => exact (fun k_ hk => (Nat.le_trans (below_size qgsleuthlaw45match_0) hk))); (case aO => exact (by (with_reducible repeat (first | apply Kd.R_alloc | apply Kd.R_drewN | apply Kd.R_drew)); exact Kd.R_mono HO540.out (fun _ hk => hk.1))); (case aS => exact (below_size qgsleuthlaw45match_0)); (case aL => have := LMc23.out; omega); intro v542 w39 ho hb hg hat; rw [← Ny541.out] at ho; have n0_ := Aside0.mk (Kd.V_afterv (ok := (fun k_ => (P5_ k_ ∨ w.heap.size ≤ k_))) qgsleuthlaw45match_2 hg hat); have n1_ := Aside0.mk (Kd.V_afterv (ok := (fun k_ => (P5_ k_ ∨ w.heap.size ≤ k_))) qgsleuthlaw45match_1 hg hat); have n2_ := Aside0.mk (hb); have n3_ := Aside0.mk (ho); clear HO_5; clear HO_13; clear HB; clear HO540; have HO_5 := n0_; have HO_13 := n1_; have HB := n2_; have HO543 := n3_; clear n0_ n1_ n2_ n3_; clear ho hb hg hat) | ((with_reducible refine gate_builtin (b := .append) (xs := #[.tmp 72, .tmp 76]) rfl ?_); at_builtin; refine Kd.R_append k58 (w0 := w) w.heap.size rfl (.tmp 72) (.tmp 76) 54 58 (.agg #[(.int .i64 0), (.int .i64 0)]) 16 rfl Try.underlying54 info58 rfl (by decide) (by omega) v542 y541 (⟨x14_1, x15_2⟩ : S58) [.int .i64 x14_1, .int .i64 x15_2] (fun k_ => (w.heap.size ≤ k_)) (fun _ => False) rfl rfl ?aP (fun _ hk => hk.elim) ?aF ?aO ?aB ?aS ?aL ?_; (case aP => exact k58_mkM _ _ _ (⟨x14_1, x15_2⟩ : S58)); (case aB => exact qgsleuthlaw45match_0); (case aF => exact (fun k_ hk => (Nat.le_trans (below_size qgsleuthlaw45match_0) hk))); (case aO => exact (by (with_reducible repeat (first | apply Kd.R_alloc | apply Kd.R_drewN | apply Kd.R_drew)); exact HO543.out)); (case aS => exact (below_size qgsleuthlaw45match_0)); (case aL => have := LMc24.out; omega); intro v545 w40 ho hb hg hat; rw [← Ny544.out] at ho; have n0_ := Aside0.mk (Kd.V_afterv (ok := (fun k_ => (P5_ k_ ∨ w.heap.size ≤ k_))) qgsleuthlaw45match_2 hg hat); have n1_ := Aside0.mk (Kd.V_afterv (ok := (fun k_ => (P5_ k_ ∨ w.heap.size ≤ k_))) qgsleuthlaw45match_1 hg hat); have n2_ := Aside0.mk (hb); have n3_ := Aside0.mk (ho); clear HO_5; clear HO_13; clear HB; clear HO543; have HO_5 := n0_; have HO_13 := n1_; have HB := n2_; have HO546 := n3_; clear n0_ n1_ n2_ n3_; clear ho hb hg hat; obtain ⟨Ao41, co41, eo41⟩ := Kd.R_slice HO546.out; subst eo41) | ((with_reducible refine gate_callee (f := 24) rfl ?_); refine goesL_ (some 78) rfl rfl Try.func24 (by kernel_rfl) rfl #[.slice (some ad532) l0.length c0, .slice (some ad533) l1.length c1, .int .i64 a2, .int .i64 (wrap64 (x14_1 + 1)), .int .i64 (wrap64 (x15_2 + 1)), .slice Ao41 y544.length co41] rfl qgsleuthlaw45match_3 ?_; (with_reducible refine (ih kj11 qgsleuthlaw45match_10 _ _ l0 _ _ l1 a2 (wrap64 (x14_1 + 1)) (wrap64 (x15_2 + 1)) (fun k_ => some k_ = (.slice Ao41 y544.length co41 : Value).ownBlock) _ _ y544 t547 _ ?side1 ?side2 ?side3 ?side4 ?side5 A25.out).mono ?_); (case side1 => exact qgsleuthlaw45match_4); (case side2 => exact HC0.out); (case side3 => exact qgsleuthlaw45match_5); (case side4 => exact HC1.out); (case side5 => exact Kd.R_V (Kd.R_tight rfl (HO546.out))); rintro e w42 ⟨v548, rfl, ho0, hb⟩; refine ⟨_, rfl, ?_⟩; have n0_ := Aside0.mk (Kd.V_below qgsleuthlaw45match_2 hb); have n1_ := Aside0.mk (Kd.V_below qgsleuthlaw45match_1 hb); have n2_ := Aside0.mk (Kd.R_below qgsleuthlaw45match_6 hb); have n3_ := Aside0.mk (Kd.V_lower (Kd.V_mono (ok' := fun k_ => (P5_ k_ ∨ w.heap.size ≤ k_)) ho0 (fun k_ hk_ => Or.elim hk_ (fun hs_ => (.inr (((HO546.out).1 k_ hs_.symm)))) (fun hn_ => (.inr (Nat.le_trans (below_size qgsleuthlaw45match_0) hn_))))) (below_size qgsleuthlaw45match_0)); have n4_ := Aside0.mk (below_step qgsleuthlaw45match_0 hb); clear HO_5; clear HO_13; clear HO546; clear HB; have HO_5 := n0_; have HO_13 := n1_; have HO546 := n2_; have HO549 := n3_; have HB := n4_; clear n0_ n1_ n2_ n3_ n4_; (try clear hb); (try clear hb2); (try clear hk); (try clear hi); (try clear ho0); obtain ⟨Ao43, co43, eo43⟩ := Kd.V_slice HO549.out; subst eo43; obtain ⟨Ao44, co44, eo44⟩ := Kd.V_slice HO_13.out; subst eo44) | ((with_reducible refine gate_callee (f := 48) rfl ?_); refine goesL_ (some 83) rfl rfl Try.func48 (by kernel_rfl) rfl #[.slice (some ad532) l0.length c0, .slice (some ad533) l1.length c1, .slice Ao43 t547.length co43, .slice Ao44 x13_2.length co44] rfl qgsleuthlaw45match_3 ?_; (with_reducible refine (sleuthlaw45_better.calls kj11 _ _ l0 _ _ l1 _ _ t547 _ _ x13_2 false _ ?side1 ?side2 ?side3 ?side4 ?side5 ?side6 ?side7 ?side8 A26.out).mono ?_); (case side1 => exact qgsleuthlaw45match_4); (case side2 => exact HC0.out); (case side3 => exact qgsleuthlaw45match_5); (case side4 => exact HC1.out); (case side5 => repeat (first | exact (Kd.V_reads' HO549.out).2.2 | (with_reducible refine Kd.C_alloc ?_ _) | (with_reducible refine Kd.C_drewN ?_ _) | (with_reducible refine Kd.C_drew ?_))); (case side6 => exact (Kd.V_reads' HO549.out).2.1); (case side7 => repeat (first | exact (Kd.V_reads' HO_13.out).2.2 | (with_reducible refine Kd.C_alloc ?_ _) | (with_reducible refine Kd.C_drewN ?_ _) | (with_reducible refine Kd.C_drew ?_))); (case side8 => exact (Kd.V_reads' HO_13.out).2.1); rintro e w45 ⟨rfl, hb⟩; refine ⟨_, rfl, ?_⟩; have n0_ := Aside0.mk (Kd.V_below qgsleuthlaw45match_2 hb); have n1_ := Aside0.mk (Kd.V_below qgsleuthlaw45match_1 hb); have n2_ := Aside0.mk (Kd.R_below qgsleuthlaw45match_6 hb); have n3_ := Aside0.mk (Kd.V_below qgsleuthlaw45match_9 hb); have n4_ := Aside0.mk (below_step qgsleuthlaw45match_0 hb); clear HO_5; clear HO_13; clear HO546; clear HO549; clear HB; have HO_5 := n0_; have HO_13 := n1_; have HO546 := n2_; have HO549 := n3_; have HB := n4_; clear n0_ n1_ n2_ n3_ n4_; (try clear hb); (try clear hb2); (try clear hk); (try clear hi)))
                go_roundg kj11
                case measure => have := HK1.out; have := HK2.out; have := HJ11.out; omega
                case rel => exact ⟨(x13_2), (wrap64 (x15_2 + 1)), qgsleuthlaw45match_8, H', ⟨qgsleuthlaw45match_10⟩, ⟨by (with_reducible repeat (first | apply Kd.V_alloc | apply Kd.V_drewN | apply Kd.V_drew)); exact Kd.V_mono HO_5.out (fun _ hk => hk.1)⟩, ⟨by (with_reducible repeat (first | apply Kd.V_alloc | apply Kd.V_drewN | apply Kd.V_drew)); exact Kd.V_mono HO_13.out (fun _ hk => hk.1)⟩, ⟨qgsleuthlaw45match_0⟩⟩
              ·rw [if_neg c24] at H
               exact absurd H (by simp)
             ·rw [if_neg c23] at H
              exact absurd H (by simp)
         ·rw [if_neg c11] at H
          exact absurd H (by simp)
        ·rw [if_neg c10] at H
         exact absurd H (by simp)
       ·rw [if_neg c9] at H
        exact absurd H (by simp)
      ·rw [if_neg c8] at H
       have c8b0 : decide (x15_2 < (l1.length : Int)) = false := decide_eq_false c8
       clear c8
       have H' := Aside0.mk H
       clear H
       go_wp2
       go_roundg k2
       case measure => have := HK1.out; have := HK2.out; omega
       case rel => exact ⟨(x13_2), (wrap64 (x14_1 + 1)), qgsleuthlaw45match_8, H', ⟨by have := HK1.out; have := HK2.out; omega⟩, ⟨qgsleuthlaw45match_2⟩, ⟨qgsleuthlaw45match_1⟩, ⟨qgsleuthlaw45match_0⟩⟩
   ·rw [if_neg c7] at H
    have c7b0 : decide (x14_1 < (l0.length : Int)) = false := decide_eq_false c7
    clear c7
    obtain rfl := Option.some.inj H
    go_wp2
    go_ret
    exact ⟨_, by first | rfl | (simp [errW_none, errW_some] <;> rfl) | (simp [*, errW_none, errW_some] <;> rfl), qgsleuthlaw45match_1, qgsleuthlaw45match_0⟩

end Go.Proofs.Ytcjgmofgfblmnaa.Q
