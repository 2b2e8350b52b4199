-- Laid by myprint.py (a program of this session's, over the kit's printer and with functions proved by hand)
import Derived.Test.YtcjgmofgfblmnaaTy
import Derived.Test.YtcjgmofgfblmnaaQgKnown
import Derived.Test.YtcjgmofgfblmnaaQgSleuthlaw45Midrank
namespace Go.Proofs.Ytcjgmofgfblmnaa.Q
open Go.RowKit Go.Proofs.YtcjgmofgfblmnaaW.PrintWords Go.Proofs.YtcjgmofgfblmnaaW.PrintLast Go.Proofs.YtcjgmofgfblmnaaW.PrintMore
attribute [local go_sem] max2_int min2_int max_two min_two max_three min_three max_four min_four   -- for this text's walks alone
set_option linter.unusedVariables false
set_option linter.unusedSimpArgs false

theorem qgsleuthlaw45changepointtests_0 {p : Prop} (h : p := by repeat (first | (with_reducible first | exact HB.out | apply below_alloc | apply pw_below_drewN | apply below_drew1) | exact HB.out)) : p := h
theorem qgsleuthlaw45changepointtests_1 {p : Prop} (h : p := by (with_reducible repeat (first | apply Kd.R_alloc | apply Kd.R_drewN | apply Kd.R_drew)); exact HO_8.out) : p := h
theorem qgsleuthlaw45changepointtests_2 {p : Prop} (h : p := by first | rfl | (simp; done) | (simp [*]; done)) : p := h
theorem qgsleuthlaw45changepointtests_3 {p : Prop} (h : p := by (try simp only [List.map_toArray, List.map_cons, List.map_nil]); first | done | rfl | (simp only [List.length_drop, List.length_take]; rfl)) : p := h
theorem qgsleuthlaw45changepointtests_4 {p : Prop} (h : p := by have := HJ2.out; have := HJ11.out; have := HK3.out; have := HK4.out; have := HK5.out; omega) : p := h
theorem qgsleuthlaw45changepointtests_5 {p : Prop} (h : p := by first | rfl | (simp [errW_none, errW_some] <;> rfl) | (simp only [← hji28, ← hji29]; first | rfl | (simp [errW_none, errW_some] <;> rfl)) | (simp [*, errW_none, errW_some] <;> rfl)) : p := h
theorem qgsleuthlaw45changepointtests_6 {p : Prop} (h : p := by first | rfl | (simp [errW_none, errW_some] <;> rfl) | (simp [*, errW_none, errW_some] <;> rfl)) : p := h
/-! ### sleuthlaw45_ChangepointTests: function 5 -/
mutual
def sleuthlaw45_ChangepointTests.j0 : Nat → List Int → List Int → Bool → Option (Bool)
 | 0, _, _, _ => none
 | k + 1, x0, x1, x28 => if x28 = true then ((sleuthlaw45_known.f k).bind fun t666 => (some t666)) else ((changepoint_Test.f x0 x1).bind fun bt667 => (if (x0.length : Int) = 0 then (sleuthlaw45_ChangepointTests.j1 k x0 x1 bt667.1 bt667.2.1 bt667.2.2 true) else (sleuthlaw45_ChangepointTests.j1 k x0 x1 bt667.1 bt667.2.1 bt667.2.2 ((x1.length : Int) == 0))))
def sleuthlaw45_ChangepointTests.j1 : Nat → List Int → List Int → Int → Int → Int → Bool → Option (Bool)
 | 0, _, _, _, _, _, _ => none
 | k + 1, x0, x1, x5, x6, x7, x44 => if x44 = true then (if x7 = 7 then (if x5 = 0 then (some (x6 == 0)) else (some false)) else (some false)) else ((some (([] : List Int) : List Int)).bind fun y670 => (if y670.length + x0.length < 17592186044416 then ((some (y670 ++ x0 : List Int)).bind fun y673 => (if y673.length + x1.length < 17592186044416 then ((some (y673 ++ x1 : List Int)).bind fun y676 => (sleuthlaw45_ChangepointTests.l0 k x0 x5 x6 x7 y676 (wrap64 ((x0.length : Int) * (wrap64 ((y676.length : Int) + 1)))) 0 0)) else (none))) else (none)))
def sleuthlaw45_ChangepointTests.l0 : Nat → List Int → Int → Int → Int → List Int → Int → Int → Int → Option (Bool)
 | 0, _, _, _, _, _, _, _, _ => none
 | k + 1, x0, x5, x6, x7, x8, x9, x10, x11 => if x11 < (x0.length : Int) then (if 0 ≤ x11 then ((sleuthlaw45_midrank.f k x8 (rd x0 x11)).bind fun t680 => (sleuthlaw45_ChangepointTests.l0 k x0 x5 x6 x7 x8 x9 (wrap64 (x10 + t680)) (wrap64 (x11 + 1)))) else (none)) else (sleuthlaw45_ChangepointTests.l1 k x0 x5 x6 x7 x8 x9 (mx (wrap64 (x10 - x9)) (wrap64 (x9 - x10))) 0 0 0)
def sleuthlaw45_ChangepointTests.l1 : Nat → List Int → Int → Int → Int → List Int → Int → Int → Int → Int → Int → Option (Bool)
 | 0, _, _, _, _, _, _, _, _, _, _ => none
 | k + 1, x0, x5, x6, x7, x8, x9, x12, x13, x14, x15 => if x15 < (shl .i64 1 (x8.length : Int)) then (sleuthlaw45_ChangepointTests.l2 k x0 x5 x6 x7 x8 x9 x12 x13 x14 x15 0 0 0) else (if x7 = 0 then (if x5 = x13 then (some (x6 == x14)) else (some false)) else (some false))
def sleuthlaw45_ChangepointTests.l2 : Nat → List Int → Int → Int → Int → List Int → Int → Int → Int → Int → Int → Int → Int → Int → Option (Bool)
 | 0, _, _, _, _, _, _, _, _, _, _, _, _, _ => none
 | k + 1, x0, x5, x6, x7, x8, x9, x12, x13, x14, x15, x16, x17, x18 => if x18 < (x8.length : Int) then (if 0 ≤ x18 then (if (Int.tmod (shr .i64 x15 x18) 2) = 1 then ((sleuthlaw45_midrank.f k x8 (rd x8 x18)).bind fun t682 => (sleuthlaw45_ChangepointTests.l2 k x0 x5 x6 x7 x8 x9 x12 x13 x14 x15 (wrap64 (x16 + 1)) (wrap64 (x17 + t682)) (wrap64 (x18 + 1)))) else (sleuthlaw45_ChangepointTests.l2 k x0 x5 x6 x7 x8 x9 x12 x13 x14 x15 x16 x17 (wrap64 (x18 + 1)))) else (none)) else (if x16 = (x0.length : Int) then (if (wrap64 (x17 - x9)) ≥ x12 then (sleuthlaw45_ChangepointTests.l1 k x0 x5 x6 x7 x8 x9 x12 (wrap64 (x13 + 1)) (wrap64 (x14 + 1)) (wrap64 (x15 + 1))) else (if (wrap64 (x9 - x17)) ≥ x12 then (sleuthlaw45_ChangepointTests.l1 k x0 x5 x6 x7 x8 x9 x12 (wrap64 (x13 + 1)) (wrap64 (x14 + 1)) (wrap64 (x15 + 1))) else (sleuthlaw45_ChangepointTests.l1 k x0 x5 x6 x7 x8 x9 x12 x13 (wrap64 (x14 + 1)) (wrap64 (x15 + 1))))) else (sleuthlaw45_ChangepointTests.l1 k x0 x5 x6 x7 x8 x9 x12 x13 x14 (wrap64 (x15 + 1))))
end
def sleuthlaw45_ChangepointTests.f (k : Nat) (l0 : List Int) (l1 : List Int) : Option (Bool) := (sleuthlaw45_known.f k).bind fun t665 => (if t665 = true then (sleuthlaw45_ChangepointTests.j0 k l0 l1 (decide ((wrap64 ((l0.length : Int) + (l1.length : Int))) > 9))) else (sleuthlaw45_ChangepointTests.j0 k l0 l1 true))
theorem sleuthlaw45_ChangepointTests.mono_l : ∀ k, (∀ y0 y1 y2, LeO (sleuthlaw45_ChangepointTests.j0 k y0 y1 y2) (sleuthlaw45_ChangepointTests.j0 (k + 1) y0 y1 y2)) ∧ (∀ y0 y1 y2 y3 y4 y5, LeO (sleuthlaw45_ChangepointTests.j1 k y0 y1 y2 y3 y4 y5) (sleuthlaw45_ChangepointTests.j1 (k + 1) y0 y1 y2 y3 y4 y5)) ∧ (∀ y0 y1 y2 y3 y4 y5 y6 y7, LeO (sleuthlaw45_ChangepointTests.l0 k y0 y1 y2 y3 y4 y5 y6 y7) (sleuthlaw45_ChangepointTests.l0 (k + 1) y0 y1 y2 y3 y4 y5 y6 y7)) ∧ (∀ y0 y1 y2 y3 y4 y5 y6 y7 y8 y9, LeO (sleuthlaw45_ChangepointTests.l1 k y0 y1 y2 y3 y4 y5 y6 y7 y8 y9) (sleuthlaw45_ChangepointTests.l1 (k + 1) y0 y1 y2 y3 y4 y5 y6 y7 y8 y9)) ∧ (∀ y0 y1 y2 y3 y4 y5 y6 y7 y8 y9 y10 y11 y12, LeO (sleuthlaw45_ChangepointTests.l2 k y0 y1 y2 y3 y4 y5 y6 y7 y8 y9 y10 y11 y12) (sleuthlaw45_ChangepointTests.l2 (k + 1) y0 y1 y2 y3 y4 y5 y6 y7 y8 y9 y10 y11 y12))
 | 0 => ⟨fun _ _ _ r h => by simp [sleuthlaw45_ChangepointTests.j0] at h, fun _ _ _ _ _ _ r h => by simp [sleuthlaw45_ChangepointTests.j1] at h, fun _ _ _ _ _ _ _ _ r h => by simp [sleuthlaw45_ChangepointTests.l0] at h, fun _ _ _ _ _ _ _ _ _ _ r h => by simp [sleuthlaw45_ChangepointTests.l1] at h, fun _ _ _ _ _ _ _ _ _ _ _ _ _ r h => by simp [sleuthlaw45_ChangepointTests.l2] at h⟩
 | k + 1 => by
  obtain ⟨ih0, ih1, ih2, ih3, ih4⟩ := sleuthlaw45_ChangepointTests.mono_l k
  refine ⟨?_, ?_, ?_, ?_, ?_⟩
  ·intro y0 y1 y2
   unfold sleuthlaw45_ChangepointTests.j0
   repeat' first
   | (with_reducible exact ih0 _ _ _)
   | (with_reducible exact ih1 _ _ _ _ _ _)
   | (with_reducible exact ih2 _ _ _ _ _ _ _ _)
   | (with_reducible exact ih3 _ _ _ _ _ _ _ _ _ _)
   | (with_reducible exact ih4 _ _ _ _ _ _ _ _ _ _ _ _ _)
   | (with_reducible exact sleuthlaw45_known.mono _)
   | (with_reducible exact sleuthlaw45_midrank.mono _ _ _)
   | (with_reducible exact LeO.refl _)
   | (with_reducible exact LeO.none _)
   | (with_reducible refine LeO.ite ?_ ?_)
   | (with_reducible refine LeO.bind ?_ (fun _ => ?_))
   | exact ih0 _ _ _
   | exact ih1 _ _ _ _ _ _
   | exact ih2 _ _ _ _ _ _ _ _
   | exact ih3 _ _ _ _ _ _ _ _ _ _
   | exact ih4 _ _ _ _ _ _ _ _ _ _ _ _ _
   | exact sleuthlaw45_known.mono _
   | exact sleuthlaw45_midrank.mono _ _ _
   | exact LeO.none _
   | refine LeO.ite ?_ ?_
   | refine LeO.bind ?_ (fun _ => ?_)
  ·intro y0 y1 y2 y3 y4 y5
   unfold sleuthlaw45_ChangepointTests.j1
   repeat' first
   | (with_reducible exact ih0 _ _ _)
   | (with_reducible exact ih1 _ _ _ _ _ _)
   | (with_reducible exact ih2 _ _ _ _ _ _ _ _)
   | (with_reducible exact ih3 _ _ _ _ _ _ _ _ _ _)
   | (with_reducible exact ih4 _ _ _ _ _ _ _ _ _ _ _ _ _)
   | (with_reducible exact sleuthlaw45_known.mono _)
   | (with_reducible exact sleuthlaw45_midrank.mono _ _ _)
   | (with_reducible exact LeO.refl _)
   | (with_reducible exact LeO.none _)
   | (with_reducible refine LeO.ite ?_ ?_)
   | (with_reducible refine LeO.bind ?_ (fun _ => ?_))
   | exact ih0 _ _ _
   | exact ih1 _ _ _ _ _ _
   | exact ih2 _ _ _ _ _ _ _ _
   | exact ih3 _ _ _ _ _ _ _ _ _ _
   | exact ih4 _ _ _ _ _ _ _ _ _ _ _ _ _
   | exact sleuthlaw45_known.mono _
   | exact sleuthlaw45_midrank.mono _ _ _
   | exact LeO.none _
   | refine LeO.ite ?_ ?_
   | refine LeO.bind ?_ (fun _ => ?_)
  ·intro y0 y1 y2 y3 y4 y5 y6 y7
   unfold sleuthlaw45_ChangepointTests.l0
   repeat' first
   | (with_reducible exact ih0 _ _ _)
   | (with_reducible exact ih1 _ _ _ _ _ _)
   | (with_reducible exact ih2 _ _ _ _ _ _ _ _)
   | (with_reducible exact ih3 _ _ _ _ _ _ _ _ _ _)
   | (with_reducible exact ih4 _ _ _ _ _ _ _ _ _ _ _ _ _)
   | (with_reducible exact sleuthlaw45_known.mono _)
   | (with_reducible exact sleuthlaw45_midrank.mono _ _ _)
   | (with_reducible exact LeO.refl _)
   | (with_reducible exact LeO.none _)
   | (with_reducible refine LeO.ite ?_ ?_)
   | (with_reducible refine LeO.bind ?_ (fun _ => ?_))
   | exact ih0 _ _ _
   | exact ih1 _ _ _ _ _ _
   | exact ih2 _ _ _ _ _ _ _ _
   | exact ih3 _ _ _ _ _ _ _ _ _ _
   | exact ih4 _ _ _ _ _ _ _ _ _ _ _ _ _
   | exact sleuthlaw45_known.mono _
   | exact sleuthlaw45_midrank.mono _ _ _
   | exact LeO.none _
   | refine LeO.ite ?_ ?_
   | refine LeO.bind ?_ (fun _ => ?_)
  ·intro y0 y1 y2 y3 y4 y5 y6 y7 y8 y9
   unfold sleuthlaw45_ChangepointTests.l1
   repeat' first
   | (with_reducible exact ih0 _ _ _)
   | (with_reducible exact ih1 _ _ _ _ _ _)
   | (with_reducible exact ih2 _ _ _ _ _ _ _ _)
   | (with_reducible exact ih3 _ _ _ _ _ _ _ _ _ _)
   | (with_reducible exact ih4 _ _ _ _ _ _ _ _ _ _ _ _ _)
   | (with_reducible exact sleuthlaw45_known.mono _)
   | (with_reducible exact sleuthlaw45_midrank.mono _ _ _)
   | (with_reducible exact LeO.refl _)
   | (with_reducible exact LeO.none _)
   | (with_reducible refine LeO.ite ?_ ?_)
   | (with_reducible refine LeO.bind ?_ (fun _ => ?_))
   | exact ih0 _ _ _
   | exact ih1 _ _ _ _ _ _
   | exact ih2 _ _ _ _ _ _ _ _
   | exact ih3 _ _ _ _ _ _ _ _ _ _
   | exact ih4 _ _ _ _ _ _ _ _ _ _ _ _ _
   | exact sleuthlaw45_known.mono _
   | exact sleuthlaw45_midrank.mono _ _ _
   | exact LeO.none _
   | refine LeO.ite ?_ ?_
   | refine LeO.bind ?_ (fun _ => ?_)
  ·intro y0 y1 y2 y3 y4 y5 y6 y7 y8 y9 y10 y11 y12
   unfold sleuthlaw45_ChangepointTests.l2
   repeat' first
   | (with_reducible exact ih0 _ _ _)
   | (with_reducible exact ih1 _ _ _ _ _ _)
   | (with_reducible exact ih2 _ _ _ _ _ _ _ _)
   | (with_reducible exact ih3 _ _ _ _ _ _ _ _ _ _)
   | (with_reducible exact ih4 _ _ _ _ _ _ _ _ _ _ _ _ _)
   | (with_reducible exact sleuthlaw45_known.mono _)
   | (with_reducible exact sleuthlaw45_midrank.mono _ _ _)
   | (with_reducible exact LeO.refl _)
   | (with_reducible exact LeO.none _)
   | (with_reducible refine LeO.ite ?_ ?_)
   | (with_reducible refine LeO.bind ?_ (fun _ => ?_))
   | exact ih0 _ _ _
   | exact ih1 _ _ _ _ _ _
   | exact ih2 _ _ _ _ _ _ _ _
   | exact ih3 _ _ _ _ _ _ _ _ _ _
   | exact ih4 _ _ _ _ _ _ _ _ _ _ _ _ _
   | exact sleuthlaw45_known.mono _
   | exact sleuthlaw45_midrank.mono _ _ _
   | exact LeO.none _
   | refine LeO.ite ?_ ?_
   | refine LeO.bind ?_ (fun _ => ?_)
theorem sleuthlaw45_ChangepointTests.mono : ∀ a0 a1 k, LeO (sleuthlaw45_ChangepointTests.f k a0 a1) (sleuthlaw45_ChangepointTests.f (k + 1) a0 a1) := by
 intro a0 a1 k
 obtain ⟨ih0, ih1, ih2, ih3, ih4⟩ := sleuthlaw45_ChangepointTests.mono_l k
 unfold sleuthlaw45_ChangepointTests.f
 repeat' first
   | (with_reducible exact ih0 _ _ _)
   | (with_reducible exact ih1 _ _ _ _ _ _)
   | (with_reducible exact ih2 _ _ _ _ _ _ _ _)
   | (with_reducible exact ih3 _ _ _ _ _ _ _ _ _ _)
   | (with_reducible exact ih4 _ _ _ _ _ _ _ _ _ _ _ _ _)
   | (with_reducible exact sleuthlaw45_known.mono _)
   | (with_reducible exact sleuthlaw45_midrank.mono _ _ _)
   | (with_reducible exact LeO.refl _)
   | (with_reducible exact LeO.none _)
   | (with_reducible refine LeO.ite ?_ ?_)
   | (with_reducible refine LeO.bind ?_ (fun _ => ?_))
   | exact ih0 _ _ _
   | exact ih1 _ _ _ _ _ _
   | exact ih2 _ _ _ _ _ _ _ _
   | exact ih3 _ _ _ _ _ _ _ _ _ _
   | exact ih4 _ _ _ _ _ _ _ _ _ _ _ _ _
   | exact sleuthlaw45_known.mono _
   | exact sleuthlaw45_midrank.mono _ _ _
   | exact LeO.none _
   | refine LeO.ite ?_ ?_
   | refine LeO.bind ?_ (fun _ => ?_)
set_option maxHeartbeats 8000000 in
set_option maxRecDepth 100000 in
theorem sleuthlaw45_ChangepointTests.calls (k : Nat) (A0 : Option Addr) (c0 : Nat) (l0 : List Int) (A1 : Option Addr) (c1 : Nat) (l1 : List Int) (r : Bool) (w : World) (hr0 : Kd.C (Kd.int .i64) w A0 l0.length l0) (hc0 : l0.length ≤ c0) (hr1 : Kd.C (Kd.int .i64) w A1 l1.length l1) (hc1 : l1.length ≤ c1) (h : sleuthlaw45_ChangepointTests.f k l0 l1 = some r) :
  Calls Try.prog 5 #[.slice A0 l0.length c0, .slice A1 l1.length c1] w fun e w' => e = .returned (.bool r) ∧ Below w.heap.size w w' := by
 have HR0 := Aside0.mk hr0
 have HC0 := Aside0.mk hc0
 clear hr0 hc0
 have HR1 := Aside0.mk hr1
 have HC1 := Aside0.mk hc1
 clear hr1 hc1
 have HB := Aside0.mk (Below.refl w.heap.size w)
 have H : ((sleuthlaw45_known.f k).bind fun t665 => (if t665 = true then (sleuthlaw45_ChangepointTests.j0 k l0 l1 (decide ((wrap64 ((l0.length : Int) + (l1.length : Int))) > 9))) else (sleuthlaw45_ChangepointTests.j0 k l0 l1 true))) = some r := h
 clear h
 have HC3 := Aside0.mk H
 clear H
 go_enter Try.func5, Try.ntmps5
 go_upto_region 1 with (fail)
 go_cut [28] (fun v28 wc => ∃ (kq : Nat) (x28_2 : Bool), v28 = .bool x28_2 ∧ Aside0 (sleuthlaw45_ChangepointTests.j0 kq l0 l1 x28_2 = some r) ∧ Aside0 (kq ≤ k) ∧ Aside0 (Below w.heap.size w wc))
 case first =>
  have H := HC3.out
  clear HC3
  replace H := Option.bind_eq_some_iff.mp H
  obtain ⟨t665, A40, H⟩ := H
  replace H : (if t665 = true then (sleuthlaw45_ChangepointTests.j0 k l0 l1 (decide ((wrap64 ((l0.length : Int) + (l1.length : Int))) > 9))) else (sleuthlaw45_ChangepointTests.j0 k l0 l1 true)) = some r := H
  have A4 := Aside0.mk A40
  clear A40
  by_cases c5 : t665 = true
  ·subst c5
   have H1 : (sleuthlaw45_ChangepointTests.j0 k l0 l1 (decide ((wrap64 ((l0.length : Int) + (l1.length : Int))) > 9))) = some r := by rw [if_pos rfl] at H; exact H
   clear H
   have H := H1
   clear H1
   have H' := Aside0.mk H
   clear H
   go_wp2_with (first | ((with_reducible refine gate_callee (f := 13) rfl ?_); refine goesL_ (some 19) rfl rfl Try.func13 (by kernel_rfl) rfl #[] rfl qgsleuthlaw45changepointtests_3 ?_; (with_reducible refine (sleuthlaw45_known.calls k  true _ A4.out).mono ?_); rintro e w6 ⟨rfl, hb⟩; refine ⟨_, rfl, ?_⟩; have n0_ := Aside0.mk (below_step qgsleuthlaw45changepointtests_0 hb); clear HB; have HB := n0_; clear n0_; (try clear hb); (try clear hb2); (try clear hk); (try clear hi)))
   go_meet
   case rel => exact ⟨_, (decide ((wrap64 ((l0.length : Int) + (l1.length : Int))) > 9)), qgsleuthlaw45changepointtests_2, H', ⟨by first | omega | exact Nat.le_refl _⟩, ⟨qgsleuthlaw45changepointtests_0⟩⟩
  ·replace c5 := Bool.eq_false_iff.mpr c5
   subst c5
   have H1 : (sleuthlaw45_ChangepointTests.j0 k l0 l1 true) = some r := by rw [if_neg (show ¬ (false = true) by decide)] at H; exact H
   clear H
   have H := H1
   clear H1
   have H' := Aside0.mk H
   clear H
   go_wp2_with (first | ((with_reducible refine gate_callee (f := 13) rfl ?_); refine goesL_ (some 19) rfl rfl Try.func13 (by kernel_rfl) rfl #[] rfl qgsleuthlaw45changepointtests_3 ?_; (with_reducible refine (sleuthlaw45_known.calls k  false _ A4.out).mono ?_); rintro e w7 ⟨rfl, hb⟩; refine ⟨_, rfl, ?_⟩; have n0_ := Aside0.mk (below_step qgsleuthlaw45changepointtests_0 hb); clear HB; have HB := n0_; clear n0_; (try clear hb); (try clear hb2); (try clear hk); (try clear hi)))
   go_meet
   case rel => exact ⟨_, (true), qgsleuthlaw45changepointtests_2, H', ⟨by first | omega | exact Nat.le_refl _⟩, ⟨qgsleuthlaw45changepointtests_0⟩⟩
 case rest =>
  clear HC3
  try clear c1
  try clear p2
  try clear c5
  try clear p6
  obtain ⟨kq, x28_2, rfl, HA, HJ2, HB⟩ := hcut
  cases kq with
  | zero => exact absurd HA.out (by simp [sleuthlaw45_ChangepointTests.j0])
  | succ kj2 =>
   have H := HA.out
   clear HA
   simp only [sleuthlaw45_ChangepointTests.j0] at H
   by_cases c8 : x28_2 = true
   ·subst c8
    have H1 : ((sleuthlaw45_known.f kj2).bind fun t666 => (some t666)) = some r := by rw [if_pos rfl] at H; exact H
    clear H
    have H := H1
    clear H1
    replace H := Option.bind_eq_some_iff.mp H
    obtain ⟨t666, A90, H⟩ := H
    replace H : (some t666) = some r := H
    have A9 := Aside0.mk A90
    clear A90
    obtain rfl := Option.some.inj H
    go_wp2_with (first | ((with_reducible refine gate_callee (f := 13) rfl ?_); refine goesL_ (some 29) rfl rfl Try.func13 (by kernel_rfl) rfl #[] rfl qgsleuthlaw45changepointtests_3 ?_; (with_reducible refine (sleuthlaw45_known.calls kj2  t666 _ A9.out).mono ?_); rintro e w10 ⟨rfl, hb⟩; refine ⟨_, rfl, ?_⟩; have n0_ := Aside0.mk (below_step qgsleuthlaw45changepointtests_0 hb); clear HB; have HB := n0_; clear n0_; (try clear hb); (try clear hb2); (try clear hk); (try clear hi)))
    go_ret
    exact ⟨qgsleuthlaw45changepointtests_6, qgsleuthlaw45changepointtests_0⟩
   ·replace c8 := Bool.eq_false_iff.mpr c8
    subst c8
    have H1 : ((changepoint_Test.f l0 l1).bind fun bt667 => (if (l0.length : Int) = 0 then (sleuthlaw45_ChangepointTests.j1 kj2 l0 l1 bt667.1 bt667.2.1 bt667.2.2 true) else (sleuthlaw45_ChangepointTests.j1 kj2 l0 l1 bt667.1 bt667.2.1 bt667.2.2 ((l1.length : Int) == 0)))) = some r := by rw [if_neg (show ¬ (false = true) by decide)] at H; exact H
    clear H
    have H := H1
    clear H1
    replace H := Option.bind_eq_some_iff.mp H
    obtain ⟨⟨t667, t668, t669⟩, A110, H⟩ := H
    replace H : (if (l0.length : Int) = 0 then (sleuthlaw45_ChangepointTests.j1 kj2 l0 l1 t667 t668 t669 true) else (sleuthlaw45_ChangepointTests.j1 kj2 l0 l1 t667 t668 t669 ((l1.length : Int) == 0))) = some r := H
    have A11 := Aside0.mk A110
    clear A110
    have HC12 := Aside0.mk H
    clear H
    go_upto_region 4 with (first | ((with_reducible refine gate_callee (f := 20) rfl ?_); refine goesL_ (some 33) rfl rfl Try.func20 (by kernel_rfl) rfl #[.slice A0 l0.length c0, .slice A1 l1.length c1] rfl qgsleuthlaw45changepointtests_3 ?_; (with_reducible refine (changepoint_Test.calls _ _ l0 _ _ l1 t667 t668 t669 _ ?side1 ?side2 ?side3 ?side4 A11.out).mono ?_); (case side1 => repeat (first | exact (Kd.C_below HR0.out HB.out) | (with_reducible refine Kd.C_alloc ?_ _) | (with_reducible refine Kd.C_drewN ?_ _) | (with_reducible refine Kd.C_drew ?_))); (case side2 => exact HC0.out); (case side3 => repeat (first | exact (Kd.C_below HR1.out HB.out) | (with_reducible refine Kd.C_alloc ?_ _) | (with_reducible refine Kd.C_drewN ?_ _) | (with_reducible refine Kd.C_drew ?_))); (case side4 => exact HC1.out); rintro e w13 ⟨rfl, hb⟩; refine ⟨_, rfl, ?_⟩; have n0_ := Aside0.mk (below_step qgsleuthlaw45changepointtests_0 hb); clear HB; have HB := n0_; clear n0_; (try clear hb); (try clear hb2); (try clear hk); (try clear hi)))
    (try simp only [Act.put, List.setIfInBounds_toArray, List.set_cons_zero, List.set_cons_succ])
    go_cut [44] (fun v44 wc => ∃ (kq : Nat) (x44_11 : Bool), v44 = .bool x44_11 ∧ Aside0 (sleuthlaw45_ChangepointTests.j1 kq l0 l1 t667 t668 t669 x44_11 = some r) ∧ Aside0 (kq ≤ kj2) ∧ Aside0 (Below w.heap.size w wc))
    case first =>
     have H := HC12.out
     clear HC12
     by_cases c14 : (l0.length : Int) = 0
     ·rw [if_pos c14] at H
      have c14b0 : ((l0.length : Int) == 0) = true := beq_iff_eq.mpr c14
      have c14b1 : ((l0.length : Int) != 0) = false := bne_eq_false_iff_eq.mpr c14
      clear c14
      (first | rw [c14b0] | (simp only [i64_w, i32_w]; rw [c14b0]) | skip)
      have H' := Aside0.mk H
      clear H
      go_wp2
      go_meet
      case rel => exact ⟨_, (true), qgsleuthlaw45changepointtests_2, H', ⟨by have := HJ2.out; first | omega | exact Nat.le_refl _⟩, ⟨qgsleuthlaw45changepointtests_0⟩⟩
     ·rw [if_neg c14] at H
      have c14b0 : ((l0.length : Int) == 0) = false := beq_eq_false_iff_ne.mpr c14
      have c14b1 : ((l0.length : Int) != 0) = true := bne_iff_ne.mpr c14
      have c14b2 : ¬ (l0 = []) := fun h_ => c14 (by rw [h_]; rfl)
      (first | rw [c14b0] | (simp only [i64_w, i32_w]; rw [c14b0]) | skip)
      have H' := Aside0.mk H
      clear H
      go_wp2
      go_meet
      case rel => exact ⟨_, (((l1.length : Int) == 0)), qgsleuthlaw45changepointtests_2, H', ⟨by have := HJ2.out; first | omega | exact Nat.le_refl _⟩, ⟨qgsleuthlaw45changepointtests_0⟩⟩
    case rest =>
     clear HC12
     try clear c1
     try clear c2
     try clear p2
     try clear c5
     try clear p6
     try clear c8
     try clear c13
     try clear c14
     try clear c14b0
     try clear c14b1
     try clear c14b2
     try clear p2
     try clear p6
     obtain ⟨kq, x44_11, rfl, HA, HJ11, HB⟩ := hcut
     cases kq with
     | zero => exact absurd HA.out (by simp [sleuthlaw45_ChangepointTests.j1])
     | succ kj11 =>
      have H := HA.out
      clear HA
      simp only [sleuthlaw45_ChangepointTests.j1] at H
      by_cases c15 : x44_11 = true
      ·subst c15
       have H1 : (if t669 = 7 then (if t667 = 0 then (some (t668 == 0)) else (some false)) else (some false)) = some r := by rw [if_pos rfl] at H; exact H
       clear H
       have H := H1
       clear H1
       by_cases c16 : t669 = 7
       ·rw [if_pos c16] at H
        have c16b0 : (t669 == 7) = true := beq_iff_eq.mpr c16
        have c16b1 : (t669 != 7) = false := bne_eq_false_iff_eq.mpr c16
        clear c16
        by_cases c17 : t667 = 0
        ·rw [if_pos c17] at H
         have c17b0 : (t667 == 0) = true := beq_iff_eq.mpr c17
         have c17b1 : (t667 != 0) = false := bne_eq_false_iff_eq.mpr c17
         clear c17
         obtain rfl := Option.some.inj H
         go_wp2
         go_ret
         exact ⟨qgsleuthlaw45changepointtests_6, qgsleuthlaw45changepointtests_0⟩
        ·rw [if_neg c17] at H
         have c17b0 : (t667 == 0) = false := beq_eq_false_iff_ne.mpr c17
         have c17b1 : (t667 != 0) = true := bne_iff_ne.mpr c17
         obtain rfl := Option.some.inj H
         go_wp2
         go_ret
         exact ⟨qgsleuthlaw45changepointtests_6, qgsleuthlaw45changepointtests_0⟩
       ·rw [if_neg c16] at H
        have c16b0 : (t669 == 7) = false := beq_eq_false_iff_ne.mpr c16
        have c16b1 : (t669 != 7) = true := bne_iff_ne.mpr c16
        obtain rfl := Option.some.inj H
        go_wp2
        go_ret
        exact ⟨qgsleuthlaw45changepointtests_6, qgsleuthlaw45changepointtests_0⟩
      ·replace c15 := Bool.eq_false_iff.mpr c15
       subst c15
       have H1 : ((some (([] : List Int) : List Int)).bind fun y670 => (if y670.length + l0.length < 17592186044416 then ((some (y670 ++ l0 : List Int)).bind fun y673 => (if y673.length + l1.length < 17592186044416 then ((some (y673 ++ l1 : List Int)).bind fun y676 => (sleuthlaw45_ChangepointTests.l0 kj11 l0 t667 t668 t669 y676 (wrap64 ((l0.length : Int) * (wrap64 ((y676.length : Int) + 1)))) 0 0)) else (none))) else (none))) = some r := by rw [if_neg (show ¬ (false = true) by decide)] at H; exact H
       clear H
       have H := H1
       clear H1
       obtain ⟨y670, hy670⟩ : ∃ y_ : List Int, y_ = (([] : List Int)) := ⟨_, rfl⟩
       replace H : (if y670.length + l0.length < 17592186044416 then ((some (y670 ++ l0 : List Int)).bind fun y673 => (if y673.length + l1.length < 17592186044416 then ((some (y673 ++ l1 : List Int)).bind fun y676 => (sleuthlaw45_ChangepointTests.l0 kj11 l0 t667 t668 t669 y676 (wrap64 ((l0.length : Int) * (wrap64 ((y676.length : Int) + 1)))) 0 0)) else (none))) else (none)) = some r := by first | (rw [hy670]; with_reducible exact H) | (have H2_ := (Option.bind_some _ _).symm.trans H; rw [hy670]; with_reducible exact H2_) | (have H2_ := (Option.bind_some _ _).symm.trans H; with_reducible exact H2_) | with_reducible exact H | (rw [hy670]; exact H) | exact H
       have Ny670 := Aside0.mk hy670
       clear hy670
       by_cases c18 : y670.length + l0.length < 17592186044416
       ·rw [if_pos c18] at H
        have LMc18 := Aside0.mk c18
        clear c18
        obtain ⟨y673, hy673⟩ : ∃ y_ : List Int, y_ = (y670 ++ l0) := ⟨_, rfl⟩
        replace H : (if y673.length + l1.length < 17592186044416 then ((some (y673 ++ l1 : List Int)).bind fun y676 => (sleuthlaw45_ChangepointTests.l0 kj11 l0 t667 t668 t669 y676 (wrap64 ((l0.length : Int) * (wrap64 ((y676.length : Int) + 1)))) 0 0)) else (none)) = some r := by first | (rw [hy673]; with_reducible exact H) | (have H2_ := (Option.bind_some _ _).symm.trans H; rw [hy673]; with_reducible exact H2_) | (have H2_ := (Option.bind_some _ _).symm.trans H; with_reducible exact H2_) | with_reducible exact H | (rw [hy673]; exact H) | exact H
        have Ny673 := Aside0.mk hy673
        clear hy673
        by_cases c19 : y673.length + l1.length < 17592186044416
        ·rw [if_pos c19] at H
         have LMc19 := Aside0.mk c19
         clear c19
         obtain ⟨y676, hy676⟩ : ∃ y_ : List Int, y_ = (y673 ++ l1) := ⟨_, rfl⟩
         replace H : (sleuthlaw45_ChangepointTests.l0 kj11 l0 t667 t668 t669 y676 (wrap64 ((l0.length : Int) * (wrap64 ((y676.length : Int) + 1)))) 0 0) = some r := by first | (rw [hy676]; with_reducible exact H) | (have H2_ := (Option.bind_some _ _).symm.trans H; rw [hy676]; with_reducible exact H2_) | (have H2_ := (Option.bind_some _ _).symm.trans H; with_reducible exact H2_) | with_reducible exact H | (rw [hy676]; exact H) | exact H
         have Ny676 := Aside0.mk hy676
         clear hy676
         have H' := Aside0.mk H
         clear H
         go_wp2_with (first | ((with_reducible refine gate_dst (N := 55) rfl ?_); (try (refine gate_guard (by rfl) ?_; dsimp only)); refine Kd.R_lit (Kd.int .i64) _ 3 ?hg (N := 55) ?hd (xs := ([] : List Int)) (inner := []) (ok := fun _ => True) (okp := fun _ => True) ?hr ?hp (fun _ hk => hk) trivial (Below.refl _ _) (Nat.le_refl _) (by simp) ?_; (case hd => rfl); (case hg => rfl); (case hr => first | (go_simp; done) | (go_simp; rfl)); (case hp => exact (Reps.none _ _)); intro v671 w20 ho21 hb hg_ hnew_; clear hg_ hnew_; (first | rw [← Ny670.out] at ho21 | (simp only [Int.reduceToNat] at ho21; rw [← Ny670.out] at ho21)); have n0_ := Aside0.mk (Kd.R_lower ho21 (below_size qgsleuthlaw45changepointtests_0)); have n1_ := Aside0.mk (below_step qgsleuthlaw45changepointtests_0 hb); clear HB; have HO672 := n0_; have HB := n1_; clear n0_ n1_; clear hb ho21) | ((with_reducible refine gate_builtin (b := .append) (xs := #[.tmp 55, .tmp 56]) rfl ?_); (try (refine gate_guard (by rfl) ?_; dsimp only)); at_builtin; refine Kd.R_append_rows (Kd.int .i64) (w0 := w) w.heap.size rfl (.tmp 55) (.tmp 56) 26 3 (.int .i64 0) 8 rfl Try.underlying26 info3 rfl (by decide) (by omega) v671 y670 l0 _ _ _ (fun _ => True) (fun _ => False) rfl rfl ?aO ?aR (fun _ _ h => h) (fun _ h => h.elim) ?aF ?aB ?aS ?aL ?_; (case aR => repeat (first | exact (Kd.C_below HR0.out HB.out) | (with_reducible refine Kd.C_alloc ?_ _) | (with_reducible refine Kd.C_drewN ?_ _) | (with_reducible refine Kd.C_drew ?_))); (case aB => exact qgsleuthlaw45changepointtests_0); (case aF => exact (fun _ _ => trivial)); (case aO => exact (by (with_reducible repeat (first | apply Kd.R_alloc | apply Kd.R_drewN | apply Kd.R_drew)); exact HO672.out)); (case aS => exact (below_size qgsleuthlaw45changepointtests_0)); (case aL => have := LMc18.out; omega); intro v674 w22 ho hb hg hat; rw [← Ny673.out] at ho; have n0_ := Aside0.mk (hb); have n1_ := Aside0.mk (ho); clear HB; clear HO672; have HB := n0_; have HO675 := n1_; clear n0_ n1_; clear ho hb hg hat) | ((with_reducible refine gate_builtin (b := .append) (xs := #[.tmp 57, .tmp 58]) rfl ?_); (try (refine gate_guard (by rfl) ?_; dsimp only)); at_builtin; refine Kd.R_append_rows (Kd.int .i64) (w0 := w) w.heap.size rfl (.tmp 57) (.tmp 58) 26 3 (.int .i64 0) 8 rfl Try.underlying26 info3 rfl (by decide) (by omega) v674 y673 l1 _ _ _ (fun _ => True) (fun _ => False) rfl rfl ?aO ?aR (fun _ _ h => h) (fun _ h => h.elim) ?aF ?aB ?aS ?aL ?_; (case aR => repeat (first | exact (Kd.C_below HR1.out HB.out) | (with_reducible refine Kd.C_alloc ?_ _) | (with_reducible refine Kd.C_drewN ?_ _) | (with_reducible refine Kd.C_drew ?_))); (case aB => exact qgsleuthlaw45changepointtests_0); (case aF => exact (fun _ _ => trivial)); (case aO => exact (by (with_reducible repeat (first | apply Kd.R_alloc | apply Kd.R_drewN | apply Kd.R_drew)); exact HO675.out)); (case aS => exact (below_size qgsleuthlaw45changepointtests_0)); (case aL => have := LMc19.out; omega); intro v677 w23 ho hb hg hat; rw [← Ny676.out] at ho; have n0_ := Aside0.mk (hb); have n1_ := Aside0.mk (ho); clear HB; clear HO675; have HB := n0_; have HO678 := n1_; clear n0_ n1_; clear ho hb hg hat; obtain ⟨Ao24, co24, eo24⟩ := Kd.R_slice HO678.out; subst eo24))
         go_loopg [10, 11] kj11 (fun kq v10 v11 w' => ∃ (x10_3 : Int) (x11_3 : Int), v10 = .int .i64 x10_3 ∧ v11 = .int .i64 x11_3 ∧ Aside0 (sleuthlaw45_ChangepointTests.l0 kq l0 t667 t668 t669 y676 (wrap64 ((l0.length : Int) * (wrap64 ((y676.length : Int) + 1)))) x10_3 x11_3 = some r) ∧ Aside0 (kq ≤ kj11) ∧ Aside0 (Kd.R (Kd.int .i64) 3 w' w.heap.size (fun _ => True) (.slice Ao24 y676.length co24) y676) ∧ Aside0 (Below w.heap.size w w'))
         case atStart => exact ⟨(0), (0), qgsleuthlaw45changepointtests_2, qgsleuthlaw45changepointtests_2, H', ⟨Nat.le_refl _⟩, ⟨by (with_reducible repeat (first | apply Kd.R_alloc | apply Kd.R_drewN | apply Kd.R_drew)); exact HO678.out⟩, ⟨qgsleuthlaw45changepointtests_0⟩⟩
         case round =>
          clear H'
          try clear c1
          try clear c2
          try clear p2
          try clear c5
          try clear p6
          try clear c8
          try clear c13
          try clear c14
          try clear c14b0
          try clear c14b1
          try clear c14b2
          try clear c15
          try clear c16
          try clear c16b0
          try clear c16b1
          try clear c17
          try clear c17b0
          try clear c17b1
          try clear c18
          try clear c19
          try clear c20
          try clear p2
          try clear p6
          obtain ⟨x10_3, x11_3, rfl, rfl, HA, HK3, HO_8, HB⟩ := hrel
          cases gk with
          | zero => exact absurd HA.out (by simp [sleuthlaw45_ChangepointTests.l0])
          | succ k3 =>
           have H := HA.out
           clear HA
           simp only [sleuthlaw45_ChangepointTests.l0] at H
           by_cases c25 : x11_3 < (l0.length : Int)
           ·rw [if_pos c25] at H
            have c25b0 : decide (x11_3 < (l0.length : Int)) = true := decide_eq_true c25
            clear c25
            by_cases c26 : 0 ≤ x11_3
            ·rw [if_pos c26] at H
             have c26b0 : decide (0 ≤ x11_3) = true := decide_eq_true c26
             clear c26
             replace H := Option.bind_eq_some_iff.mp H
             obtain ⟨t680, A270, H⟩ := H
             replace H : (sleuthlaw45_ChangepointTests.l0 k3 l0 t667 t668 t669 y676 (wrap64 ((l0.length : Int) * (wrap64 ((y676.length : Int) + 1)))) (wrap64 (x10_3 + t680)) (wrap64 (x11_3 + 1))) = some r := H
             have A27 := Aside0.mk A270
             clear A270
             have H' := Aside0.mk H
             clear H
             have p679 : 0 ≤ (x11_3 : Int) := of_decide_eq_true (by first | (with_reducible assumption) | assumption)
             have q679 : x11_3 < (l0.length : Int) := of_decide_eq_true (by first | (with_reducible assumption) | assumption)
             obtain ⟨ad679, e679, hx679_0⟩ := Kd.at_int HR0.out x11_3 p679 q679
             cases e679
             replace hx679_0 := (HB.out.cell (World.block_lt_of_cell? w _ hx679_0)).trans hx679_0
             replace p679 := eq_true p679
             replace q679 := eq_true q679
             go_wp2_with (first | ((with_reducible refine gate_callee (f := 21) rfl ?_); refine goesL_ (some 78) rfl rfl Try.func21 (by kernel_rfl) rfl #[.slice Ao24 y676.length co24, .int .i64 (rd l0 x11_3)] rfl qgsleuthlaw45changepointtests_3 ?_; (with_reducible refine (sleuthlaw45_midrank.calls k3 _ _ y676 (rd l0 x11_3) t680 _ ?side1 ?side2 A27.out).mono ?_); (case side1 => repeat (first | exact (Kd.R_reads' HO_8.out).2.2 | (with_reducible refine Kd.C_alloc ?_ _) | (with_reducible refine Kd.C_drewN ?_ _) | (with_reducible refine Kd.C_drew ?_))); (case side2 => exact (Kd.R_reads' HO_8.out).2.1); rintro e w' ⟨rfl, ⟨nd, rfl⟩⟩; refine ⟨_, rfl, ?_⟩))
             go_roundg k3
             case measure => have := HJ2.out; have := HJ11.out; have := HK3.out; omega
             case rel => exact ⟨(wrap64 (x10_3 + t680)), (wrap64 (x11_3 + 1)), qgsleuthlaw45changepointtests_2, qgsleuthlaw45changepointtests_2, H', ⟨by have := HJ2.out; have := HJ11.out; have := HK3.out; omega⟩, ⟨qgsleuthlaw45changepointtests_1⟩, ⟨qgsleuthlaw45changepointtests_0⟩⟩
            ·rw [if_neg c26] at H
             exact absurd H (by simp)
           ·rw [if_neg c25] at H
            have c25b0 : decide (x11_3 < (l0.length : Int)) = false := decide_eq_false c25
            clear c25
            obtain ⟨ji28, hji28⟩ : ∃ j_ : Int, (mx (wrap64 (x10_3 - (wrap64 ((l0.length : Int) * (wrap64 ((y676.length : Int) + 1)))))) (wrap64 ((wrap64 ((l0.length : Int) * (wrap64 ((y676.length : Int) + 1)))) - x10_3))) = j_ := ⟨_, rfl⟩
            replace H : (sleuthlaw45_ChangepointTests.l1 k3 l0 t667 t668 t669 y676 (wrap64 ((l0.length : Int) * (wrap64 ((y676.length : Int) + 1)))) ji28 0 0 0) = some r := by first | (rw [hji28] at H; exact H) | (simp only [hji28] at H ⊢; exact H)
            have hji28_ : (if (wrap64 (x10_3 - (wrap64 ((l0.length : Int) * (wrap64 ((y676.length : Int) + 1)))))) < (wrap64 ((wrap64 ((l0.length : Int) * (wrap64 ((y676.length : Int) + 1)))) - x10_3)) then (wrap64 ((wrap64 ((l0.length : Int) * (wrap64 ((y676.length : Int) + 1)))) - x10_3)) else (wrap64 (x10_3 - (wrap64 ((l0.length : Int) * (wrap64 ((y676.length : Int) + 1))))))) = ji28 := hji28
            have H' := Aside0.mk H
            clear H
            go_wp2
            go_loopg [13, 14, 15] k3 (fun kq v13 v14 v15 w' => ∃ (x13_4 : Int) (x14_4 : Int) (x15_4 : Int), v13 = .int .i64 x13_4 ∧ v14 = .int .i64 x14_4 ∧ v15 = .int .i64 x15_4 ∧ Aside0 (sleuthlaw45_ChangepointTests.l1 kq l0 t667 t668 t669 y676 (wrap64 ((l0.length : Int) * (wrap64 ((y676.length : Int) + 1)))) ji28 x13_4 x14_4 x15_4 = some r) ∧ Aside0 (kq ≤ k3) ∧ Aside0 (Kd.R (Kd.int .i64) 3 w' w.heap.size (fun _ => True) (.slice Ao24 y676.length co24) y676) ∧ Aside0 (Below w.heap.size w w'))
            case atStart => exact ⟨(0), (0), (0), qgsleuthlaw45changepointtests_2, qgsleuthlaw45changepointtests_2, qgsleuthlaw45changepointtests_2, H', ⟨Nat.le_refl _⟩, ⟨qgsleuthlaw45changepointtests_1⟩, ⟨qgsleuthlaw45changepointtests_0⟩⟩
            case round =>
             clear H'
             try clear c1
             try clear c2
             try clear p2
             try clear c5
             try clear p6
             try clear q6
             try clear hx6
             try clear c8
             try clear c13
             try clear c14
             try clear c14b0
             try clear c14b1
             try clear c14b2
             try clear c15
             try clear c16
             try clear c16b0
             try clear c16b1
             try clear c17
             try clear c17b0
             try clear c17b1
             try clear c18
             try clear c19
             try clear c20
             try clear c21
             try clear c25
             try clear c25b0
             try clear c26
             try clear c26b0
             try clear hx679_0
             try clear p2
             try clear p6
             try clear p679
             try clear q679
             obtain ⟨x13_4, x14_4, x15_4, rfl, rfl, rfl, HA, HK4, HO_8, HB⟩ := hrel
             cases gk with
             | zero => exact absurd HA.out (by simp [sleuthlaw45_ChangepointTests.l1])
             | succ k4 =>
              have H := HA.out
              clear HA
              simp only [sleuthlaw45_ChangepointTests.l1] at H
              obtain ⟨ji29, hji29⟩ : ∃ j_ : Int, (shl .i64 1 (y676.length : Int)) = j_ := ⟨_, rfl⟩
              replace H : (if x15_4 < (ji29) then (sleuthlaw45_ChangepointTests.l2 k4 l0 t667 t668 t669 y676 (wrap64 ((l0.length : Int) * (wrap64 ((y676.length : Int) + 1)))) ji28 x13_4 x14_4 x15_4 0 0 0) else (if t669 = 0 then (if t667 = x13_4 then (some (t668 == x14_4)) else (some false)) else (some false))) = some r := by first | (rw [hji29] at H; exact H) | (simp only [hji29] at H ⊢; exact H)
              have hji29_ : (IntKind.i64.wrap (1 * 2 ^ min (y676.length : Int).toNat 64)) = ji29 := hji29
              have hji29z : (y676.length : Int) ≤ 64 → (IntKind.i64.wrap (1 * 2 ^ (y676.length : Int).toNat)) = ji29 := shl_small hji29
              have hji29p : (IntKind.i64.wrap (1 * 2 ^ min y676.length 64)) = ji29 := hji29_
              have hji29q : (y676.length : Int) ≤ 64 → (IntKind.i64.wrap (1 * 2 ^ y676.length)) = ji29 := hji29z
              have hji29r : (IntKind.i64.wrap (2 ^ min y676.length 64)) = ji29 := by have h_ := hji29p; rw [Int.one_mul] at h_; exact h_
              have hji29s : (y676.length : Int) ≤ 64 → (IntKind.i64.wrap (2 ^ y676.length)) = ji29 := fun hle_ => by have h_ := hji29q hle_; rw [Int.one_mul] at h_; exact h_
              have hji29u : (IntKind.i64.wrap (2 ^ min (y676.length : Int).toNat 64)) = ji29 := by have h_ := hji29_; rw [Int.one_mul] at h_; exact h_
              have hji29v : (y676.length : Int) ≤ 64 → (IntKind.i64.wrap (2 ^ (y676.length : Int).toNat)) = ji29 := fun hle_ => by have h_ := hji29z hle_; rw [Int.one_mul] at h_; exact h_
              have hji29y : (wrap64 (1 * 2 ^ min (y676.length : Int).toNat 64)) = ji29 := (i64_w _).symm.trans hji29_
              have hji29x : (y676.length : Int) ≤ 64 → (wrap64 (1 * 2 ^ (y676.length : Int).toNat)) = ji29 := fun h_ => (i64_w _).symm.trans (hji29z h_)
              by_cases c30 : x15_4 < (ji29)
              ·rw [if_pos c30] at H
               have c30b0 : decide (x15_4 < (ji29)) = true := decide_eq_true c30
               clear c30
               have H' := Aside0.mk H
               clear H
               go_wp2
               go_loopg [16, 17, 18] k4 (fun kq v16 v17 v18 w' => ∃ (x16_5 : Int) (x17_5 : Int) (x18_5 : Int), v16 = .int .i64 x16_5 ∧ v17 = .int .i64 x17_5 ∧ v18 = .int .i64 x18_5 ∧ Aside0 (sleuthlaw45_ChangepointTests.l2 kq l0 t667 t668 t669 y676 (wrap64 ((l0.length : Int) * (wrap64 ((y676.length : Int) + 1)))) ji28 x13_4 x14_4 x15_4 x16_5 x17_5 x18_5 = some r) ∧ Aside0 (kq ≤ k4) ∧ Aside0 (Kd.R (Kd.int .i64) 3 w' w.heap.size (fun _ => True) (.slice Ao24 y676.length co24) y676) ∧ Aside0 (Below w.heap.size w w'))
               case atStart => exact ⟨(0), (0), (0), qgsleuthlaw45changepointtests_2, qgsleuthlaw45changepointtests_2, qgsleuthlaw45changepointtests_2, H', ⟨Nat.le_refl _⟩, ⟨qgsleuthlaw45changepointtests_1⟩, ⟨qgsleuthlaw45changepointtests_0⟩⟩
               case round =>
                clear H'
                try clear c1
                try clear c2
                try clear p2
                try clear c3
                try clear c5
                try clear p6
                try clear q6
                try clear hx6
                try clear c8
                try clear c13
                try clear c14
                try clear c14b0
                try clear c14b1
                try clear c14b2
                try clear c15
                try clear c16
                try clear c16b0
                try clear c16b1
                try clear c17
                try clear c17b0
                try clear c17b1
                try clear c18
                try clear c19
                try clear c20
                try clear c21
                try clear c25
                try clear c25b0
                try clear c26
                try clear c26b0
                try clear c30
                try clear c30b0
                try clear hx679_0
                try clear p2
                try clear p6
                try clear p679
                try clear q6
                try clear q679
                obtain ⟨x16_5, x17_5, x18_5, rfl, rfl, rfl, HA, HK5, HO_8, HB⟩ := hrel
                cases gk with
                | zero => exact absurd HA.out (by simp [sleuthlaw45_ChangepointTests.l2])
                | succ k5 =>
                 have H := HA.out
                 clear HA
                 simp only [sleuthlaw45_ChangepointTests.l2] at H
                 by_cases c31 : x18_5 < (y676.length : Int)
                 ·rw [if_pos c31] at H
                  have c31b0 : decide (x18_5 < (y676.length : Int)) = true := decide_eq_true c31
                  clear c31
                  by_cases c32 : 0 ≤ x18_5
                  ·rw [if_pos c32] at H
                   have c32b0 := eq_true c32
                   have c32b1 : decide (0 ≤ x18_5) = true := decide_eq_true c32
                   clear c32
                   obtain ⟨ji33, hji33⟩ : ∃ j_ : Int, (shr .i64 x15_4 x18_5) = j_ := ⟨_, rfl⟩
                   replace H : (if (Int.tmod (ji33) 2) = 1 then ((sleuthlaw45_midrank.f k5 y676 (rd y676 x18_5)).bind fun t682 => (sleuthlaw45_ChangepointTests.l2 k5 l0 t667 t668 t669 y676 (wrap64 ((l0.length : Int) * (wrap64 ((y676.length : Int) + 1)))) ji28 x13_4 x14_4 x15_4 (wrap64 (x16_5 + 1)) (wrap64 (x17_5 + t682)) (wrap64 (x18_5 + 1)))) else (sleuthlaw45_ChangepointTests.l2 k5 l0 t667 t668 t669 y676 (wrap64 ((l0.length : Int) * (wrap64 ((y676.length : Int) + 1)))) ji28 x13_4 x14_4 x15_4 x16_5 x17_5 (wrap64 (x18_5 + 1)))) = some r := by first | (rw [hji33] at H; exact H) | (simp only [hji33] at H ⊢; exact H)
                   have hji33_ : (x15_4 / 2 ^ min x18_5.toNat 64) = ji33 := hji33
                   have hji33z : x18_5 ≤ 64 → (x15_4 / 2 ^ x18_5.toNat) = ji33 := shr_small hji33
                   by_cases c34 : (Int.tmod (ji33) 2) = 1
                   ·rw [if_pos c34] at H
                    have c34b0 : ((Int.tmod (ji33) 2) == 1) = true := beq_iff_eq.mpr c34
                    have c34b1 : ((Int.tmod (ji33) 2) != 1) = false := bne_eq_false_iff_eq.mpr c34
                    clear c34
                    replace H := Option.bind_eq_some_iff.mp H
                    obtain ⟨t682, A350, H⟩ := H
                    replace H : (sleuthlaw45_ChangepointTests.l2 k5 l0 t667 t668 t669 y676 (wrap64 ((l0.length : Int) * (wrap64 ((y676.length : Int) + 1)))) ji28 x13_4 x14_4 x15_4 (wrap64 (x16_5 + 1)) (wrap64 (x17_5 + t682)) (wrap64 (x18_5 + 1))) = some r := H
                    have A35 := Aside0.mk A350
                    clear A350
                    have H' := Aside0.mk H
                    clear H
                    have p681 : 0 ≤ (x18_5 : Int) := of_decide_eq_true (by first | (with_reducible assumption) | assumption)
                    have q681 : x18_5 < (y676.length : Int) := of_decide_eq_true (by first | (with_reducible assumption) | assumption)
                    obtain ⟨ad681, e681, hx681_0⟩ := Kd.at_int (Kd.R_reads' HO_8.out).2.2 x18_5 p681 q681
                    cases e681
                    replace p681 := eq_true p681
                    replace q681 := eq_true q681
                    go_wp2_with (first | ((with_reducible refine gate_callee (f := 21) rfl ?_); refine goesL_ (some 113) rfl rfl Try.func21 (by kernel_rfl) rfl #[.slice (some ad681) y676.length co24, .int .i64 (rd y676 x18_5)] rfl qgsleuthlaw45changepointtests_3 ?_; (with_reducible refine (sleuthlaw45_midrank.calls k5 _ _ y676 (rd y676 x18_5) t682 _ ?side1 ?side2 A35.out).mono ?_); (case side1 => repeat (first | exact (Kd.R_reads' HO_8.out).2.2 | (with_reducible refine Kd.C_alloc ?_ _) | (with_reducible refine Kd.C_drewN ?_ _) | (with_reducible refine Kd.C_drew ?_))); (case side2 => exact (Kd.R_reads' HO_8.out).2.1); rintro e w' ⟨rfl, ⟨nd, rfl⟩⟩; refine ⟨_, rfl, ?_⟩))
                    go_roundg k5
                    case measure => have := HJ2.out; have := HJ11.out; have := HK3.out; have := HK4.out; have := HK5.out; omega
                    case rel => exact ⟨(wrap64 (x16_5 + 1)), (wrap64 (x17_5 + t682)), (wrap64 (x18_5 + 1)), qgsleuthlaw45changepointtests_2, qgsleuthlaw45changepointtests_2, qgsleuthlaw45changepointtests_2, H', ⟨qgsleuthlaw45changepointtests_4⟩, ⟨qgsleuthlaw45changepointtests_1⟩, ⟨qgsleuthlaw45changepointtests_0⟩⟩
                   ·rw [if_neg c34] at H
                    have c34b0 : ((Int.tmod (ji33) 2) == 1) = false := beq_eq_false_iff_ne.mpr c34
                    have c34b1 : ((Int.tmod (ji33) 2) != 1) = true := bne_iff_ne.mpr c34
                    have H' := Aside0.mk H
                    clear H
                    go_wp2
                    go_roundg k5
                    case measure => have := HJ2.out; have := HJ11.out; have := HK3.out; have := HK4.out; have := HK5.out; omega
                    case rel => exact ⟨(x16_5), (x17_5), (wrap64 (x18_5 + 1)), qgsleuthlaw45changepointtests_2, qgsleuthlaw45changepointtests_2, qgsleuthlaw45changepointtests_2, H', ⟨qgsleuthlaw45changepointtests_4⟩, ⟨qgsleuthlaw45changepointtests_1⟩, ⟨qgsleuthlaw45changepointtests_0⟩⟩
                  ·rw [if_neg c32] at H
                   exact absurd H (by simp)
                 ·rw [if_neg c31] at H
                  have c31b0 : decide (x18_5 < (y676.length : Int)) = false := decide_eq_false c31
                  clear c31
                  by_cases c36 : x16_5 = (l0.length : Int)
                  ·rw [if_pos c36] at H
                   have c36b0 : (x16_5 == (l0.length : Int)) = true := beq_iff_eq.mpr c36
                   have c36b1 : (x16_5 != (l0.length : Int)) = false := bne_eq_false_iff_eq.mpr c36
                   clear c36
                   by_cases c37 : (wrap64 (x17_5 - (wrap64 ((l0.length : Int) * (wrap64 ((y676.length : Int) + 1)))))) ≥ ji28
                   ·rw [if_pos c37] at H
                    have c37b0 : decide (ji28 ≤ (wrap64 (x17_5 - (wrap64 ((l0.length : Int) * (wrap64 ((y676.length : Int) + 1))))))) = true := decide_eq_true c37
                    clear c37
                    have H' := Aside0.mk H
                    clear H
                    go_wp2
                    go_roundg k5
                    case measure => have := HJ2.out; have := HJ11.out; have := HK3.out; have := HK4.out; have := HK5.out; omega
                    case rel => exact ⟨(wrap64 (x13_4 + 1)), (wrap64 (x14_4 + 1)), (wrap64 (x15_4 + 1)), qgsleuthlaw45changepointtests_2, qgsleuthlaw45changepointtests_2, qgsleuthlaw45changepointtests_2, H', ⟨qgsleuthlaw45changepointtests_4⟩, ⟨qgsleuthlaw45changepointtests_1⟩, ⟨qgsleuthlaw45changepointtests_0⟩⟩
                   ·rw [if_neg c37] at H
                    have c37b0 : decide (ji28 ≤ (wrap64 (x17_5 - (wrap64 ((l0.length : Int) * (wrap64 ((y676.length : Int) + 1))))))) = false := decide_eq_false c37
                    clear c37
                    by_cases c38 : (wrap64 ((wrap64 ((l0.length : Int) * (wrap64 ((y676.length : Int) + 1)))) - x17_5)) ≥ ji28
                    ·rw [if_pos c38] at H
                     have c38b0 : decide (ji28 ≤ (wrap64 ((wrap64 ((l0.length : Int) * (wrap64 ((y676.length : Int) + 1)))) - x17_5))) = true := decide_eq_true c38
                     clear c38
                     have H' := Aside0.mk H
                     clear H
                     go_wp2
                     go_roundg k5
                     case measure => have := HJ2.out; have := HJ11.out; have := HK3.out; have := HK4.out; have := HK5.out; omega
                     case rel => exact ⟨(wrap64 (x13_4 + 1)), (wrap64 (x14_4 + 1)), (wrap64 (x15_4 + 1)), qgsleuthlaw45changepointtests_2, qgsleuthlaw45changepointtests_2, qgsleuthlaw45changepointtests_2, H', ⟨qgsleuthlaw45changepointtests_4⟩, ⟨qgsleuthlaw45changepointtests_1⟩, ⟨qgsleuthlaw45changepointtests_0⟩⟩
                    ·rw [if_neg c38] at H
                     have c38b0 : decide (ji28 ≤ (wrap64 ((wrap64 ((l0.length : Int) * (wrap64 ((y676.length : Int) + 1)))) - x17_5))) = false := decide_eq_false c38
                     clear c38
                     have H' := Aside0.mk H
                     clear H
                     go_wp2
                     go_roundg k5
                     case measure => have := HJ2.out; have := HJ11.out; have := HK3.out; have := HK4.out; have := HK5.out; omega
                     case rel => exact ⟨(x13_4), (wrap64 (x14_4 + 1)), (wrap64 (x15_4 + 1)), qgsleuthlaw45changepointtests_2, qgsleuthlaw45changepointtests_2, qgsleuthlaw45changepointtests_2, H', ⟨qgsleuthlaw45changepointtests_4⟩, ⟨qgsleuthlaw45changepointtests_1⟩, ⟨qgsleuthlaw45changepointtests_0⟩⟩
                  ·rw [if_neg c36] at H
                   have c36b0 : (x16_5 == (l0.length : Int)) = false := beq_eq_false_iff_ne.mpr c36
                   have c36b1 : (x16_5 != (l0.length : Int)) = true := bne_iff_ne.mpr c36
                   have H' := Aside0.mk H
                   clear H
                   go_wp2
                   go_roundg k5
                   case measure => have := HJ2.out; have := HJ11.out; have := HK3.out; have := HK4.out; have := HK5.out; omega
                   case rel => exact ⟨(x13_4), (x14_4), (wrap64 (x15_4 + 1)), qgsleuthlaw45changepointtests_2, qgsleuthlaw45changepointtests_2, qgsleuthlaw45changepointtests_2, H', ⟨qgsleuthlaw45changepointtests_4⟩, ⟨qgsleuthlaw45changepointtests_1⟩, ⟨qgsleuthlaw45changepointtests_0⟩⟩
              ·rw [if_neg c30] at H
               have c30b0 : decide (x15_4 < (ji29)) = false := decide_eq_false c30
               clear c30
               by_cases c39 : t669 = 0
               ·rw [if_pos c39] at H
                have c39b0 : (t669 == 0) = true := beq_iff_eq.mpr c39
                have c39b1 : (t669 != 0) = false := bne_eq_false_iff_eq.mpr c39
                clear c39
                by_cases c40 : t667 = x13_4
                ·rw [if_pos c40] at H
                 have c40b0 : (t667 == x13_4) = true := beq_iff_eq.mpr c40
                 have c40b1 : (t667 != x13_4) = false := bne_eq_false_iff_eq.mpr c40
                 clear c40
                 obtain rfl := Option.some.inj H
                 go_wp2
                 go_ret
                 exact ⟨qgsleuthlaw45changepointtests_5, qgsleuthlaw45changepointtests_0⟩
                ·rw [if_neg c40] at H
                 have c40b0 : (t667 == x13_4) = false := beq_eq_false_iff_ne.mpr c40
                 have c40b1 : (t667 != x13_4) = true := bne_iff_ne.mpr c40
                 obtain rfl := Option.some.inj H
                 go_wp2
                 go_ret
                 exact ⟨qgsleuthlaw45changepointtests_5, qgsleuthlaw45changepointtests_0⟩
               ·rw [if_neg c39] at H
                have c39b0 : (t669 == 0) = false := beq_eq_false_iff_ne.mpr c39
                have c39b1 : (t669 != 0) = true := bne_iff_ne.mpr c39
                obtain rfl := Option.some.inj H
                go_wp2
                go_ret
                exact ⟨qgsleuthlaw45changepointtests_5, qgsleuthlaw45changepointtests_0⟩
        ·rw [if_neg c19] at H
         exact absurd H (by simp)
       ·rw [if_neg c18] at H
        exact absurd H (by simp)

/-- THE ONE PURE STATEMENT of sleuthlaw45_ChangepointTests: yours. -/
def sleuthlaw45_ChangepointTests.Pure : Prop := ∀ (l0 : List Int) (l1 : List Int), l0.length ≤ maxLen → l0.length * 8 ≤ 140737488351232 → (∀ x ∈ l0, (Lit.int .i64 x).wf = true) → l1.length ≤ maxLen → l1.length * 8 ≤ 140737488351232 → (∀ x ∈ l1, (Lit.int .i64 x).wf = true) → ∃ k, sleuthlaw45_ChangepointTests.f k l0 l1 = some true
theorem sleuthlaw45_ChangepointTests.walk (P : sleuthlaw45_ChangepointTests.Pure) (a0 : Option Addr) (len0 cap0 : Nat) (z0 : List Int) (a1 : Option Addr) (len1 cap1 : Nat) (z1 : List Int) (w : World) (w0 : (a0 = none ∧ len0 = 0 ∧ cap0 = 0 ∧ z0 = []) ∨ ∃ x, a0 = some x ∧ len0 ≤ cap0 ∧ cap0 ≤ maxLen ∧ z0.length = cap0 ∧ (∀ i, i < z0.length → w.cell? (x.add i) = some (.int .i64 (z0.getD i 0))) ∧ ∀ n ∈ z0, (Lit.int .i64 n).wf = true) (y0 : len0 * 8 ≤ 140737488351232) (w1 : (a1 = none ∧ len1 = 0 ∧ cap1 = 0 ∧ z1 = []) ∨ ∃ x, a1 = some x ∧ len1 ≤ cap1 ∧ cap1 ≤ maxLen ∧ z1.length = cap1 ∧ (∀ i, i < z1.length → w.cell? (x.add i) = some (.int .i64 (z1.getD i 0))) ∧ ∀ n ∈ z1, (Lit.int .i64 n).wf = true) (y1 : len1 * 8 ≤ 140737488351232) :
  Calls Try.prog 5 #[.slice a0 len0 cap0, .slice a1 len1 cap1] w fun e w' => e = .returned (.bool true) ∧ Below w.heap.size w w' := by
 obtain ⟨l0, rfl, hr0, hm0, hw0, hc0⟩ := ReadsInt.ofRowC w0
 obtain ⟨l1, rfl, hr1, hm1, hw1, hc1⟩ := ReadsInt.ofRowC w1
 obtain ⟨k, h⟩ := P l0 l1 hm0 y0 hw0 hm1 y1 hw1
 refine (sleuthlaw45_ChangepointTests.calls k _ _ l0 _ _ l1 true w (Kd.C_of_reads (d := (0 : Int)) (h1 := fun _ => rfl) hr0) hc0 (Kd.C_of_reads (d := (0 : Int)) (h1 := fun _ => rfl) hr1) hc1 h).mono ?_
 rintro e w' ⟨rfl, hd⟩
 exact ⟨rfl, hd⟩

end Go.Proofs.Ytcjgmofgfblmnaa.Q
