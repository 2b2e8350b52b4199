-- Laid by myprint.py (a program of this session's, over the kit's printer and with functions proved by hand)
import Derived.Test.YtcjgmofgfblmnaaTy
import Derived.Test.YtcjgmofgfblmnaaPw
import Derived.Test.YtcjgmofgfblmnaaQgBase
import Derived.Test.YtcjgmofgfblmnaaQgChangepointOf
import Derived.Test.YtcjgmofgfblmnaaQgChg
import Derived.Test.YtcjgmofgfblmnaaTst
import Derived.Test.YtcjgmofgfblmnaaMat
namespace Go.Proofs.Ytcjgmofgfblmnaa.Q
open Go.RowKit Go.Proofs.YtcjgmofgfblmnaaW.PrintWords Go.Proofs.YtcjgmofgfblmnaaW.PrintLast Go.Proofs.YtcjgmofgfblmnaaW.PrintMore
attribute [local go_sem] max2_int min2_int max_two min_two max_three min_three max_four min_four   -- for this text's walks alone
set_option linter.unusedVariables false
set_option linter.unusedSimpArgs false

attribute [local go_sem high] eqA41 eqA58
abbrev T4970 : Bool := true
abbrev F4970 : Bool := false
abbrev A4970_0 : Array Bool := #[F4970, F4970, F4970, F4970, F4970, F4970, F4970, F4970, F4970, F4970, F4970, F4970, F4970, F4970]
abbrev A4970_1 : Array Bool := #[T4970, F4970, F4970, F4970, F4970, F4970, F4970, F4970, F4970, F4970, F4970, F4970, F4970, F4970]
abbrev A4970_2 : Array Bool := #[T4970, F4970, T4970, F4970, F4970, F4970, F4970, F4970, F4970, F4970, F4970, F4970, F4970, F4970]
abbrev A4970_3 : Array Bool := #[T4970, F4970, T4970, F4970, F4970, F4970, F4970, T4970, F4970, F4970, F4970, F4970, F4970, F4970]
abbrev A4970_4 : Array Bool := #[T4970, T4970, T4970, F4970, F4970, F4970, F4970, T4970, F4970, F4970, F4970, F4970, F4970, F4970]
abbrev A4970_5 : Array Bool := #[T4970, T4970, T4970, T4970, F4970, F4970, F4970, T4970, F4970, F4970, F4970, F4970, F4970, F4970]
abbrev A4970_6 : Array Bool := #[T4970, T4970, T4970, T4970, T4970, F4970, F4970, T4970, F4970, F4970, F4970, F4970, F4970, F4970]
abbrev A4970_7 : Array Bool := #[T4970, T4970, T4970, T4970, T4970, F4970, F4970, T4970, T4970, F4970, F4970, F4970, F4970, F4970]
abbrev A4970_8 : Array Bool := #[T4970, T4970, T4970, T4970, T4970, T4970, F4970, T4970, T4970, F4970, F4970, F4970, F4970, F4970]
abbrev A4970_9 : Array Bool := #[T4970, T4970, T4970, T4970, T4970, T4970, T4970, T4970, T4970, F4970, F4970, F4970, F4970, F4970]
abbrev A4970_10 : Array Bool := #[T4970, T4970, T4970, T4970, T4970, T4970, T4970, T4970, T4970, T4970, F4970, F4970, F4970, F4970]
abbrev A4970_11 : Array Bool := #[T4970, T4970, T4970, T4970, T4970, T4970, T4970, T4970, T4970, T4970, T4970, F4970, F4970, F4970]
abbrev A4970_12 : Array Bool := #[T4970, T4970, T4970, T4970, T4970, T4970, T4970, T4970, T4970, T4970, T4970, T4970, F4970, F4970]
abbrev A4970_13 : Array Bool := #[T4970, T4970, T4970, T4970, T4970, T4970, T4970, T4970, T4970, T4970, T4970, T4970, T4970, F4970]
abbrev A4970_14 : Array Bool := #[T4970, T4970, T4970, T4970, T4970, T4970, T4970, T4970, T4970, T4970, T4970, T4970, T4970, T4970]
theorem qgknown_0 {p : Prop} (h : p := by repeat (first | (with_reducible first | exact HB.out | apply below_alloc | apply pw_below_drewN | apply below_drew1) | exact HB.out)) : p := h
theorem qgknown_1 {p : Prop} (h : p := by (with_reducible repeat (first | apply Kd.R_alloc | apply Kd.R_drewN | apply Kd.R_drew)); exact HO315.out) : p := h
theorem qgknown_2 {p : Prop} (h : p := by first | rfl | (simp [errW_none, errW_some] <;> rfl) | (simp [*, errW_none, errW_some] <;> rfl)) : p := h
theorem qgknown_3 {p : Prop} (h : p := by (with_reducible repeat (first | apply Kd.R_alloc | apply Kd.R_drewN | apply Kd.R_drew)); exact HO306.out) : p := h
theorem qgknown_4 {p : Prop} (h : p := by (with_reducible repeat (first | apply Kd.R_alloc | apply Kd.R_drewN | apply Kd.R_drew)); exact HO318.out) : p := h
theorem qgknown_5 {p : Prop} (h : p := by (try simp only [List.map_toArray, List.map_cons, List.map_nil]); first | done | rfl | (simp only [List.length_drop, List.length_take]; rfl)) : p := h
theorem qgknown_6 {p : Prop} (h : p := by (with_reducible repeat (first | apply Kd.R_alloc | apply Kd.R_drewN | apply Kd.R_drew)); exact HO322.out) : p := h
theorem qgknown_7 {p : Prop} (h : p := by first | (with_reducible assumption) | assumption) : p := h
theorem qgknown_8 {p : Prop} (h : p := by repeat (first | (with_reducible first | exact HB.out | apply below_alloc | apply pw_below_drewN | apply below_drew1 | refine below_set ?_ GE301.out) | exact HB.out)) : p := h
theorem qgknown_9 {p : Prop} (h : p := by (with_reducible repeat (first | apply Kd.R_alloc | apply Kd.R_drewN | apply Kd.R_drew)); exact HO325.out) : p := h
theorem qgknown_10 {p : Prop} (h : p := by (with_reducible repeat (first | apply Kd.R_alloc | apply Kd.R_drewN | apply Kd.R_drew)); exact HO331.out) : p := h
/-! ### changepoint_Test: function 20 -/
def changepoint_Test.f (l0 l1 : List Int) : Option (Int × Int × Int) := TstX.testF l0 l1
theorem changepoint_Test.calls (A0 : Option Addr) (c0 : Nat) (l0 : List Int) (A1 : Option Addr) (c1 : Nat) (l1 : List Int) (r1 : Int) (r2 : Int) (r3 : Int) (w : World) (hr0 : Kd.C (Kd.int .i64) w A0 l0.length l0) (hc0 : l0.length ≤ c0) (hr1 : Kd.C (Kd.int .i64) w A1 l1.length l1) (hc1 : l1.length ≤ c1) (h : changepoint_Test.f l0 l1 = some (r1, r2, r3)) :
  Calls Try.prog 20 #[.slice A0 l0.length c0, .slice A1 l1.length c1] w fun e w' => e = .returned (.tuple #[.int .i64 r1, .int .i64 r2, .int .i64 r3]) ∧ Below w.heap.size w w' :=
 TstX.testF_calls A0 c0 l0 A1 c1 l1 r1 r2 r3 w hr0 hc0 hr1 hc1 h

/-! ### changepoint_Match: function 23 -/
def changepoint_Match.f (l0 l1 : List S41) (a2 : Int) : Option (List S58 × Int) := MatY.matchF l0 l1 a2
theorem changepoint_Match.calls (A0 : Option Addr) (c0 : Nat) (l0 : List S41) (A1 : Option Addr) (c1 : Nat) (l1 : List S41) (a2 : Int) (r1 : List S58) (r2 : Int) (w : World) (hr0 : Kd.C k41 w A0 l0.length l0) (hc0 : l0.length ≤ c0) (hr1 : Kd.C k41 w A1 l1.length l1) (hc1 : l1.length ≤ c1) (h : changepoint_Match.f l0 l1 a2 = some (r1, r2)) :
  Calls Try.prog 23 #[.slice A0 l0.length c0, .slice A1 l1.length c1, .int .i64 a2] w fun e w' => ∃ v0_ : Value, e = .returned (.tuple #[v0_, .int .i64 r2]) ∧ Kd.R k58 58 w' w.heap.size (fun _ => True) v0_ r1 ∧ Below w.heap.size w w' :=
 MatY.matchF_calls A0 c0 l0 A1 c1 l1 a2 r1 r2 w hr0 hc0 hr1 hc1 h

/-! ### changepoint_Relative: function 31 -/
def changepoint_Relative.f (a0_0 : Int) (a0_1 : Int) (a0_2 : Int) : Option (Int) := (changepoint_abs.f (wrap64 (a0_2 - a0_1))).bind fun t302 => ((changepoint_abs.f a0_1).bind fun t303 => (if (mx t303 1) = 0 then (none) else (some (mn (wrap64 (Int.tdiv (wrap64 (t302 * 1000000)) (mx t303 1))) 1000000000))))
def changepoint_Relative.T1 : Bool × List (List Nat × List Nat) := (true, [([], []), ([0], [0]), ([], []), ([2], [2]), ([1, 3], [1, 3]), ([4], [4]), ([5], [5]), ([], []), ([7], [7]), ([8, 5], [8]), ([9], [9]), ([6, 10], [6, 10]), ([11], [11]), ([12, 9, 0, 1, 2, 3, 4, 5, 6, 7, 8, 9, 10, 11, 12], [12])])
def changepoint_Relative.B1 : List Nat := [0, 1, 0, 4, 15, 31, 63, 0, 128, 447, 959, 2047, 4095, 8191]
theorem changepoint_Relative.tab1 : rtab .any (opsOf Try.f31 1) = changepoint_Relative.T1 := by kernel_rfl
theorem changepoint_Relative.bits1 : waitsOk changepoint_Relative.T1.2 changepoint_Relative.B1 = true := by kernel_rfl
set_option maxHeartbeats 8000000 in
set_option maxRecDepth 100000 in
theorem changepoint_Relative.calls (a0_0 : Int) (a0_1 : Int) (a0_2 : Int) (r : Int) (w : World) (h : changepoint_Relative.f a0_0 a0_1 a0_2 = some r) :
  Calls Try.prog 31 #[.agg #[.int .i64 a0_0, .int .i64 a0_1, .int .i64 a0_2]] w fun e w' => e = .returned (.int .i64 r) ∧ Below w.heap.size w w' := by
 have hu41 := Try.underlying41
 have HB := Aside0.mk (Below.refl w.heap.size w)
 have H : ((changepoint_abs.f (wrap64 (a0_2 - a0_1))).bind fun t302 => ((changepoint_abs.f a0_1).bind fun t303 => (if (mx t303 1) = 0 then (none) else (some (mn (wrap64 (Int.tdiv (wrap64 (t302 * 1000000)) (mx t303 1))) 1000000000))))) = some r := h
 clear h
 replace H := Option.bind_eq_some_iff.mp H
 obtain ⟨t302, A20, H⟩ := H
 replace H : ((changepoint_abs.f a0_1).bind fun t303 => (if (mx t303 1) = 0 then (none) else (some (mn (wrap64 (Int.tdiv (wrap64 (t302 * 1000000)) (mx t303 1))) 1000000000)))) = some r := H
 have A2 := Aside0.mk A20
 clear A20
 replace H := Option.bind_eq_some_iff.mp H
 obtain ⟨t303, A30, H⟩ := H
 replace H : (if (mx t303 1) = 0 then (none) else (some (mn (wrap64 (Int.tdiv (wrap64 (t302 * 1000000)) (mx t303 1))) 1000000000))) = some r := H
 have A3 := Aside0.mk A30
 clear A30
 obtain ⟨ji4, hji4⟩ : ∃ j_ : Int, (mx t303 1) = j_ := ⟨_, rfl⟩
 replace H : (if (ji4) = 0 then (none) else (some (mn (wrap64 (Int.tdiv (wrap64 (t302 * 1000000)) (ji4))) 1000000000))) = some r := by first | (rw [hji4] at H; exact H) | (simp only [hji4] at H ⊢; exact H)
 (try rw [hji4] at A2)
 (try rw [hji4] at A3)
 (try (have hji4l : 1 ≤ ji4 := by (rw [← hji4]; unfold mx; (repeat' split) <;> omega)))
 (try (have hji4m : 0 ≤ ji4 := by omega))
 have hji4_ : (if t303 < 1 then 1 else t303) = ji4 := hji4
 by_cases c5 : (ji4) = 0
 ·rw [if_pos c5] at H
  exact absurd H (by simp)
 rw [if_neg c5] at H
 have c5b0 : ((ji4) == 0) = false := beq_eq_false_iff_ne.mpr c5
 have c5b1 : ((ji4) != 0) = true := bne_iff_ne.mpr c5
 obtain ⟨ji6, hji6⟩ : ∃ j_ : Int, (mn (wrap64 (Int.tdiv (wrap64 (t302 * 1000000)) (ji4))) 1000000000) = j_ := ⟨_, rfl⟩
 replace H : (some ji6) = some r := by first | (rw [hji6] at H; exact H) | (simp only [hji6] at H ⊢; exact H)
 (try rw [hji6] at A2)
 (try rw [hji6] at A3)
 have hji6_ : (if 1000000000 < (wrap64 (Int.tdiv (wrap64 (t302 * 1000000)) (ji4))) then 1000000000 else (wrap64 (Int.tdiv (wrap64 (t302 * 1000000)) (ji4)))) = ji6 := hji6
 obtain rfl := Option.some.inj H
 go_enter Try.func31, Try.ntmps31
 try go_wp2_with (first | ((with_reducible refine gate_dst (N := 1) rfl ?_); refine box_event ?hg (N := 1) ?hd (cs := #[.int .i64 a0_0, .int .i64 a0_1, .int .i64 a0_2]) (t := 41) ?hr ?_; (case hd => rfl); (case hg => rfl); (case hr => first | (go_simp; done) | (go_simp; rfl)); intro gb301 hg w7 hbox hb; have n0_ := Aside0.mk (below_step qgknown_0 hb); have n1_ := Aside0.mk (hbox); have n2_ := Aside0.mk ((by rw [hg]; exact (below_size qgknown_0) : w.heap.size ≤ gb301)); have n3_ := Aside0.mk ((by rw [hg]; exact (below_size qgknown_0) : w.heap.size ≤ gb301)); clear HB; have HB := n0_; have BK301 := n1_; have GW301 := n2_; have GE301 := n3_; clear n0_ n1_ n2_ n3_; clear hb hbox hg))
 have n0_ := Aside0.mk (blk_drew BK301.out)
 have n1_ := Aside0.mk (below_drew1 HB.out)
 clear BK301
 clear HB
 have BK301 := n0_
 have HB := n1_
 clear n0_ n1_
 refine start_ (n := 14) (S := fun w' => w'.cell? ⟨gb301, 0, none⟩ = some (.int .i64 a0_0) ∧ w'.cell? ⟨gb301, 1, none⟩ = some (.int .i64 a0_1) ∧ w'.cell? ⟨gb301, 2, none⟩ = some (.int .i64 a0_2)) (ds := []) A4970_0 (by kernel_rfl) rfl rfl ⟨(blk_cell BK301.out 0).trans rfl, (blk_cell BK301.out 1).trans rfl, (blk_cell BK301.out 2).trans rfl⟩ (fun hHeld => ?_); refine with_tabW changepoint_Relative.tab1 changepoint_Relative.bits1 (fun HT_ HW_ => ?_)
 generalize w7.drew = w8 at BK301 HB hHeld ⊢
 refine pA_ 0 3 A4970_1 HT_ ?_
 refine pA_ 2 5 A4970_2 HT_ ?_
 refine pA_ 7 10 A4970_3 HT_ ?_
 refine take_ (i := 1) (N := some 4) (v := ?_) (a' := ?_) A4970_4 rfl rfl (take_ofW HT_.out HW_.out (by kernel_rfl)) (fun _ _ _ h => h) (Or.inl ⟨by rfl, ?_⟩) hHeld ?_ ?_
 rotate_left
 ·rintro w' ⟨s0, s1, s2⟩
  go_simp
  with_reducible rfl
 rotate_left
 ·simp only [Act.put, List.setIfInBounds_toArray, List.set_cons_zero, List.set_cons_succ, i64_w, i32_w]
  rfl
 refine take_ (i := 3) (N := some 6) (v := ?_) (a' := ?_) A4970_5 rfl rfl (take_ofW HT_.out HW_.out (by kernel_rfl)) (fun _ _ _ h => h) (Or.inl ⟨by rfl, ?_⟩) hHeld ?_ ?_
 rotate_left
 ·rintro w' ⟨s0, s1, s2⟩
  go_simp
  with_reducible rfl
 rotate_left
 ·simp only [Act.put, List.setIfInBounds_toArray, List.set_cons_zero, List.set_cons_succ, i64_w, i32_w]
  rfl
 refine pA_ 4 7 A4970_6 HT_ ?_
 refine take_ (i := 8) (N := some 11) (v := ?_) (a' := ?_) A4970_7 rfl rfl (take_ofW HT_.out HW_.out (by kernel_rfl)) (fun _ _ _ h => h) (Or.inl ⟨by rfl, ?_⟩) hHeld ?_ ?_
 rotate_left
 ·rintro w' ⟨s0, s1, s2⟩
  go_simp
  with_reducible rfl
 rotate_left
 ·simp only [Act.put, List.setIfInBounds_toArray, List.set_cons_zero, List.set_cons_succ, i64_w, i32_w]
  rfl
 refine one_ (i := 5) (N := some 8) A4970_8 rfl rfl (one_of HT_.out (by kernel_rfl)) (by decide) (fun K hK => ?_)
 refine goes_ Try.func46 (by kernel_rfl) rfl #[.int .i64 (wrap64 (a0_2 - a0_1))] (by rfl) rfl rfl qgknown_5 ?_
 with_reducible refine (changepoint_abs.calls (wrap64 (a0_2 - a0_1)) t302 _ A2.out).mono ?_
 rintro e w9 ⟨rfl, hb⟩
 refine ⟨_, rfl, ?_⟩
 have n0_ := Aside0.mk (blk_below (g := gb301) (o := .cells #[.int .i64 a0_0, .int .i64 a0_1, .int .i64 a0_2] 41 (0, 0)) (by (with_reducible repeat (first | refine blk_drewN ?_ _ | refine blk_drew ?_ | refine blk_alloc ?_ _)); exact BK301.out) hb)
 have n1_ := Aside0.mk (below_step qgknown_8 hb)
 clear BK301
 clear HB
 have BK301 := n0_
 have HB := n1_
 clear n0_ n1_
 (try clear hb)
 (try clear hb2)
 (try clear hk)
 (try clear hi)
 refine hK.out _ _ ⟨(blk_cell BK301.out 0).trans rfl, (blk_cell BK301.out 1).trans rfl, (blk_cell BK301.out 2).trans rfl⟩ (fun hHeld => ?_)
 clear hK K
 refine norm_ (a' := ?_) ?_ ?_
 rotate_left
 ·show Act.put _ (some 8) _ = _
  simp only [Act.put, List.setIfInBounds_toArray, List.set_cons_zero, List.set_cons_succ, i64_w, i32_w]
  rfl
 refine pA_ 6 9 A4970_9 HT_ ?_
 refine one_ (i := 9) (N := some 12) A4970_10 rfl rfl (one_of HT_.out (by kernel_rfl)) (by decide) (fun K hK => ?_)
 refine goes_ Try.func46 (by kernel_rfl) rfl #[.int .i64 a0_1] (by rfl) rfl rfl qgknown_5 ?_
 with_reducible refine (changepoint_abs.calls a0_1 t303 _ A3.out).mono ?_
 rintro e w10 ⟨rfl, hb⟩
 refine ⟨_, rfl, ?_⟩
 have n0_ := Aside0.mk (blk_below (g := gb301) (o := .cells #[.int .i64 a0_0, .int .i64 a0_1, .int .i64 a0_2] 41 (0, 0)) (by (with_reducible repeat (first | refine blk_drewN ?_ _ | refine blk_drew ?_ | refine blk_alloc ?_ _)); exact BK301.out) hb)
 have n1_ := Aside0.mk (below_step qgknown_8 hb)
 clear BK301
 clear HB
 have BK301 := n0_
 have HB := n1_
 clear n0_ n1_
 (try clear hb)
 (try clear hb2)
 (try clear hk)
 (try clear hi)
 refine hK.out _ _ ⟨(blk_cell BK301.out 0).trans rfl, (blk_cell BK301.out 1).trans rfl, (blk_cell BK301.out 2).trans rfl⟩ (fun hHeld => ?_)
 clear hK K
 refine norm_ (a' := ?_) ?_ ?_
 rotate_left
 ·show Act.put _ (some 12) _ = _
  simp only [Act.put, List.setIfInBounds_toArray, List.set_cons_zero, List.set_cons_succ, i64_w, i32_w]
  rfl
 refine pA_ 10 13 A4970_11 HT_ ?_
 refine pA_ 11 14 A4970_12 HT_ ?_
 refine pA_ 12 15 A4970_13 HT_ ?_
 refine pA_ 13 2 A4970_14 HT_ ?_
 refine done_ (done_of HT_.out (by kernel_rfl)) ?_
 try go_wp2
 go_ret
 exact ⟨by first | rfl | (simp [errW_none, errW_some] <;> rfl) | (simp only [← hji4, ← hji6]; first | rfl | (simp [errW_none, errW_some] <;> rfl)) | (simp [*, errW_none, errW_some] <;> rfl), qgknown_8⟩

/-! ### sleuthlaw45_known: function 13 -/
def sleuthlaw45_known.j0 : Nat → List (S41) → Int → Int → Int → Int → List (S58) → Int → Option (Bool)
 | 0, _, _, _, _, _, _, _ => none
 | k + 1, x1, x2, x3, x4, x5, x6, x7 => if x2 = 0 then (if (x1.length : Int) = 1 then (if 0 < (x1.length : Int) then (if (((rd_T41 x1 0).f0) == 103 && (((rd_T41 x1 0).f1) == 5 && (((rd_T41 x1 0).f2) == 20))) = true then (if x5 = 0 then (if x3 = 2 then (if x4 = 6 then (if x7 = 0 then (if (x6.length : Int) = 1 then (if 0 < (x6.length : Int) then (if (((rd_T58 x6 0).f0) == 1 && (((rd_T58 x6 0).f1) == 1)) = true then ((changepoint_Relative.f ((rd_T41 x1 0).f0) ((rd_T41 x1 0).f1) ((rd_T41 x1 0).f2)).bind fun t342 => (some (t342 == 3000000))) else (some false)) else (none)) else (some false)) else (some false)) else (some false)) else (some false)) else (some false)) else (some false)) else (none)) else (some false)) else (some false)
def sleuthlaw45_known.f (k : Nat)  : Option (Bool) := (sleuthlaw45_points.f k 100 (([5, 5, 6, 20, 21] : List Int))).bind fun bt307 => ((changepoint_Of.f k bt307.1 bt307.2.1 bt307.2.2.1 bt307.2.2.2.1 bt307.2.2.2.2.1 bt307.2.2.2.2.2.1 bt307.2.2.2.2.2.2 4).bind fun bt316 => ((changepoint_Test.f (([1, 2] : List Int)) (([5, 6] : List Int))).bind fun bt326 => ((changepoint_Match.f (([(⟨10, 0, 1⟩ : S41), (⟨20, 0, 1⟩ : S41)] : List (S41))) (([(⟨12, 0, 1⟩ : S41), (⟨19, 0, 1⟩ : S41)] : List (S41))) 1).bind fun bt335 => (sleuthlaw45_known.j0 k bt316.1 bt316.2 bt326.1 bt326.2.1 bt326.2.2 bt335.1 bt335.2))))
theorem sleuthlaw45_known.mono_l : ∀ k, (∀ y0 y1 y2 y3 y4 y5 y6, LeO (sleuthlaw45_known.j0 k y0 y1 y2 y3 y4 y5 y6) (sleuthlaw45_known.j0 (k + 1) y0 y1 y2 y3 y4 y5 y6))
 | 0 => fun _ _ _ _ _ _ _ r h => by simp [sleuthlaw45_known.j0] at h
 | k + 1 => by
  have ih0 := sleuthlaw45_known.mono_l k
  ·intro y0 y1 y2 y3 y4 y5 y6
   unfold sleuthlaw45_known.j0
   repeat' first
   | (with_reducible exact ih0 _ _ _ _ _ _ _)
   | (with_reducible exact changepoint_Of.mono _ _ _ _ _ _ _ _ _)
   | (with_reducible exact sleuthlaw45_points.mono _ _ _)
   | (with_reducible exact LeO.refl _)
   | (with_reducible exact LeO.none _)
   | (with_reducible refine LeO.ite ?_ ?_)
   | (with_reducible refine LeO.bind ?_ (fun _ => ?_))
   | exact ih0 _ _ _ _ _ _ _
   | exact changepoint_Of.mono _ _ _ _ _ _ _ _ _
   | exact sleuthlaw45_points.mono _ _ _
   | exact LeO.none _
   | refine LeO.ite ?_ ?_
   | refine LeO.bind ?_ (fun _ => ?_)
theorem sleuthlaw45_known.mono : ∀ k, LeO (sleuthlaw45_known.f k ) (sleuthlaw45_known.f (k + 1) ) := by
 intro  k
 have ih0 := sleuthlaw45_known.mono_l k
 unfold sleuthlaw45_known.f
 repeat' first
   | (with_reducible exact ih0 _ _ _ _ _ _ _)
   | (with_reducible exact changepoint_Of.mono _ _ _ _ _ _ _ _ _)
   | (with_reducible exact sleuthlaw45_points.mono _ _ _)
   | (with_reducible exact LeO.refl _)
   | (with_reducible exact LeO.none _)
   | (with_reducible refine LeO.ite ?_ ?_)
   | (with_reducible refine LeO.bind ?_ (fun _ => ?_))
   | exact ih0 _ _ _ _ _ _ _
   | exact changepoint_Of.mono _ _ _ _ _ _ _ _ _
   | exact sleuthlaw45_points.mono _ _ _
   | exact LeO.none _
   | refine LeO.ite ?_ ?_
   | refine LeO.bind ?_ (fun _ => ?_)
set_option maxHeartbeats 8000000 in
set_option maxRecDepth 100000 in
theorem sleuthlaw45_known.calls (k : Nat)  (r : Bool) (w : World) (h : sleuthlaw45_known.f k  = some r) :
  Calls Try.prog 13 #[] w fun e w' => e = .returned (.bool r) ∧ Below w.heap.size w w' := by
 have hu41 := Try.underlying41
 have hu58 := Try.underlying58
 have HB := Aside0.mk (Below.refl w.heap.size w)
 have H : ((sleuthlaw45_points.f k 100 (([5, 5, 6, 20, 21] : List Int))).bind fun bt307 => ((changepoint_Of.f k bt307.1 bt307.2.1 bt307.2.2.1 bt307.2.2.2.1 bt307.2.2.2.2.1 bt307.2.2.2.2.2.1 bt307.2.2.2.2.2.2 4).bind fun bt316 => ((changepoint_Test.f (([1, 2] : List Int)) (([5, 6] : List Int))).bind fun bt326 => ((changepoint_Match.f (([(⟨10, 0, 1⟩ : S41), (⟨20, 0, 1⟩ : S41)] : List (S41))) (([(⟨12, 0, 1⟩ : S41), (⟨19, 0, 1⟩ : S41)] : List (S41))) 1).bind fun bt335 => (sleuthlaw45_known.j0 k bt316.1 bt316.2 bt326.1 bt326.2.1 bt326.2.2 bt335.1 bt335.2))))) = some r := h
 clear h
 obtain ⟨y304, hy304⟩ : ∃ y_ : List Int, y_ = (([5, 5, 6, 20, 21] : List Int)) := ⟨_, rfl⟩
 replace H : ((sleuthlaw45_points.f k 100 y304).bind fun bt307 => ((changepoint_Of.f k bt307.1 bt307.2.1 bt307.2.2.1 bt307.2.2.2.1 bt307.2.2.2.2.1 bt307.2.2.2.2.2.1 bt307.2.2.2.2.2.2 4).bind fun bt316 => ((changepoint_Test.f (([1, 2] : List Int)) (([5, 6] : List Int))).bind fun bt326 => ((changepoint_Match.f (([(⟨10, 0, 1⟩ : S41), (⟨20, 0, 1⟩ : S41)] : List (S41))) (([(⟨12, 0, 1⟩ : S41), (⟨19, 0, 1⟩ : S41)] : List (S41))) 1).bind fun bt335 => (sleuthlaw45_known.j0 k bt316.1 bt316.2 bt326.1 bt326.2.1 bt326.2.2 bt335.1 bt335.2))))) = some r := by first | (rw [hy304]; with_reducible exact H) | (have H2_ := (Option.bind_some _ _).symm.trans H; rw [hy304]; with_reducible exact H2_) | (have H2_ := (Option.bind_some _ _).symm.trans H; with_reducible exact H2_) | with_reducible exact H | (rw [hy304]; exact H) | exact H
 have Ny304 := Aside0.mk hy304
 clear hy304
 replace H := Option.bind_eq_some_iff.mp H
 obtain ⟨⟨t307, t308, t309, t310, t311, t312, t313⟩, A10, H⟩ := H
 replace H : ((changepoint_Of.f k t307 t308 t309 t310 t311 t312 t313 4).bind fun bt316 => ((changepoint_Test.f (([1, 2] : List Int)) (([5, 6] : List Int))).bind fun bt326 => ((changepoint_Match.f (([(⟨10, 0, 1⟩ : S41), (⟨20, 0, 1⟩ : S41)] : List (S41))) (([(⟨12, 0, 1⟩ : S41), (⟨19, 0, 1⟩ : S41)] : List (S41))) 1).bind fun bt335 => (sleuthlaw45_known.j0 k bt316.1 bt316.2 bt326.1 bt326.2.1 bt326.2.2 bt335.1 bt335.2)))) = some r := H
 have A1 := Aside0.mk A10
 clear A10
 replace H := Option.bind_eq_some_iff.mp H
 obtain ⟨⟨t316, t319⟩, A20, H⟩ := H
 replace H : ((changepoint_Test.f (([1, 2] : List Int)) (([5, 6] : List Int))).bind fun bt326 => ((changepoint_Match.f (([(⟨10, 0, 1⟩ : S41), (⟨20, 0, 1⟩ : S41)] : List (S41))) (([(⟨12, 0, 1⟩ : S41), (⟨19, 0, 1⟩ : S41)] : List (S41))) 1).bind fun bt335 => (sleuthlaw45_known.j0 k t316 t319 bt326.1 bt326.2.1 bt326.2.2 bt335.1 bt335.2))) = some r := H
 have A2 := Aside0.mk A20
 clear A20
 obtain ⟨y320, hy320⟩ : ∃ y_ : List Int, y_ = (([1, 2] : List Int)) := ⟨_, rfl⟩
 replace H : ((changepoint_Test.f y320 (([5, 6] : List Int))).bind fun bt326 => ((changepoint_Match.f (([(⟨10, 0, 1⟩ : S41), (⟨20, 0, 1⟩ : S41)] : List (S41))) (([(⟨12, 0, 1⟩ : S41), (⟨19, 0, 1⟩ : S41)] : List (S41))) 1).bind fun bt335 => (sleuthlaw45_known.j0 k t316 t319 bt326.1 bt326.2.1 bt326.2.2 bt335.1 bt335.2))) = some r := by first | (rw [hy320]; with_reducible exact H) | (have H2_ := (Option.bind_some _ _).symm.trans H; rw [hy320]; with_reducible exact H2_) | (have H2_ := (Option.bind_some _ _).symm.trans H; with_reducible exact H2_) | with_reducible exact H | (rw [hy320]; exact H) | exact H
 have Ny320 := Aside0.mk hy320
 clear hy320
 obtain ⟨y323, hy323⟩ : ∃ y_ : List Int, y_ = (([5, 6] : List Int)) := ⟨_, rfl⟩
 replace H : ((changepoint_Test.f y320 y323).bind fun bt326 => ((changepoint_Match.f (([(⟨10, 0, 1⟩ : S41), (⟨20, 0, 1⟩ : S41)] : List (S41))) (([(⟨12, 0, 1⟩ : S41), (⟨19, 0, 1⟩ : S41)] : List (S41))) 1).bind fun bt335 => (sleuthlaw45_known.j0 k t316 t319 bt326.1 bt326.2.1 bt326.2.2 bt335.1 bt335.2))) = some r := by first | (rw [hy323]; with_reducible exact H) | (have H2_ := (Option.bind_some _ _).symm.trans H; rw [hy323]; with_reducible exact H2_) | (have H2_ := (Option.bind_some _ _).symm.trans H; with_reducible exact H2_) | with_reducible exact H | (rw [hy323]; exact H) | exact H
 have Ny323 := Aside0.mk hy323
 clear hy323
 replace H := Option.bind_eq_some_iff.mp H
 obtain ⟨⟨t326, t327, t328⟩, A30, H⟩ := H
 replace H : ((changepoint_Match.f (([(⟨10, 0, 1⟩ : S41), (⟨20, 0, 1⟩ : S41)] : List (S41))) (([(⟨12, 0, 1⟩ : S41), (⟨19, 0, 1⟩ : S41)] : List (S41))) 1).bind fun bt335 => (sleuthlaw45_known.j0 k t316 t319 t326 t327 t328 bt335.1 bt335.2)) = some r := H
 have A3 := Aside0.mk A30
 clear A30
 have HC4 := Aside0.mk H
 clear H
 go_enter Try.func13, Try.ntmps13
 go_upto_region 3 with (first | ((with_reducible refine gate_dst (N := 9) rfl ?_); (try (refine gate_guard (by rfl) ?_; dsimp only)); refine Kd.R_lit (Kd.int .u8) _ 5 ?hg (N := 9) ?hd (xs := ([5, 5, 6, 20, 21] : List Int)) (inner := [.int .u8 5, .int .u8 5, .int .u8 6, .int .u8 20, .int .u8 21]) (ok := fun _ => True) (okp := fun _ => True) ?hr ?hp (fun _ hk => hk) trivial (Below.refl _ _) (Nat.le_refl _) (by simp) ?_; (case hd => rfl); (case hg => rfl); (case hr => first | (go_simp; done) | (go_simp; rfl)); (case hp => exact (Reps.one (show Kd.M (Kd.int .u8) _ _ _ 5 [.int .u8 5] from rfl) (Reps.one (show Kd.M (Kd.int .u8) _ _ _ 5 [.int .u8 5] from rfl) (Reps.one (show Kd.M (Kd.int .u8) _ _ _ 6 [.int .u8 6] from rfl) (Reps.one (show Kd.M (Kd.int .u8) _ _ _ 20 [.int .u8 20] from rfl) (Reps.one (show Kd.M (Kd.int .u8) _ _ _ 21 [.int .u8 21] from rfl) (Reps.none _ _))))))); intro v305 w5 ho6 hb hg_ hnew_; clear hg_ hnew_; (first | rw [← Ny304.out] at ho6 | (simp only [Int.reduceToNat] at ho6; rw [← Ny304.out] at ho6)); have n0_ := Aside0.mk (Kd.R_lower ho6 (below_size qgknown_0)); have n1_ := Aside0.mk (below_step qgknown_0 hb); clear HB; have HO306 := n0_; have HB := n1_; clear n0_ n1_; clear hb ho6; obtain ⟨Ao7, co7, eo7⟩ := Kd.R_slice HO306.out; subst eo7) | ((with_reducible refine gate_callee (f := 14) rfl ?_); refine goesL_ (some 10) rfl rfl Try.func14 (by kernel_rfl) rfl #[.int .u8 100, .slice Ao7 y304.length co7] rfl qgknown_5 ?_; (with_reducible refine (sleuthlaw45_points.calls k 100 _ _ y304 t307 t308 t309 t310 t311 t312 t313 _ ?side1 ?side2 A1.out).mono ?_); (case side1 => repeat (first | exact (Kd.R_reads' HO306.out).2.2 | (with_reducible refine Kd.C_alloc ?_ _) | (with_reducible refine Kd.C_drewN ?_ _) | (with_reducible refine Kd.C_drew ?_))); (case side2 => exact (Kd.R_reads' HO306.out).2.1); rintro e w8 ⟨v314, rfl, ho0, hb⟩; refine ⟨_, rfl, ?_⟩; have n0_ := Aside0.mk (Kd.R_below qgknown_3 hb); have n1_ := Aside0.mk (Kd.R_lower ho0 (below_size qgknown_0)); have n2_ := Aside0.mk (below_step qgknown_0 hb); clear HO306; clear HB; have HO306 := n0_; have HO315 := n1_; have HB := n2_; clear n0_ n1_ n2_; (try clear hb); (try clear hb2); (try clear hk); (try clear hi); (try clear ho0); obtain ⟨Ao9, co9, eo9⟩ := Kd.R_slice HO315.out; subst eo9) | ((with_reducible refine gate_callee (f := 15) rfl ?_); refine goesL_ (some 11) rfl rfl Try.func15 (by kernel_rfl) rfl #[.agg #[.string t307, .string t308, .int .i64 t309, .int .i64 t310, .int .i64 t311, .int .i64 t312, .slice Ao9 t313.length co9], .int .i64 4] rfl qgknown_5 ?_; (with_reducible refine (changepoint_Of.calls k t307 t308 t309 t310 t311 t312 _ _ t313 4 t316 t319 _ ?side1 ?side2 A2.out).mono ?_); (case side1 => repeat (first | exact (Kd.R_reads' HO315.out).2.2 | (with_reducible refine Kd.C_alloc ?_ _) | (with_reducible refine Kd.C_drewN ?_ _) | (with_reducible refine Kd.C_drew ?_))); (case side2 => exact (Kd.R_reads' HO315.out).2.1); rintro e w10 ⟨v317, rfl, ho0, hb⟩; refine ⟨_, rfl, ?_⟩; have n0_ := Aside0.mk (Kd.R_below qgknown_3 hb); have n1_ := Aside0.mk (Kd.R_below qgknown_1 hb); have n2_ := Aside0.mk (Kd.R_lower ho0 (below_size qgknown_0)); have n3_ := Aside0.mk (below_step qgknown_0 hb); clear HO306; clear HO315; clear HB; have HO306 := n0_; have HO315 := n1_; have HO318 := n2_; have HB := n3_; clear n0_ n1_ n2_ n3_; (try clear hb); (try clear hb2); (try clear hk); (try clear hi); (try clear ho0)) | ((with_reducible refine gate_dst (N := 15) rfl ?_); (try (refine gate_guard (by rfl) ?_; dsimp only)); refine Kd.R_lit (Kd.int .i64) _ 3 ?hg (N := 15) ?hd (xs := ([1, 2] : List Int)) (inner := [.int .i64 1, .int .i64 2]) (ok := fun _ => True) (okp := fun _ => True) ?hr ?hp (fun _ hk => hk) trivial (Below.refl _ _) (Nat.le_refl _) (by simp) ?_; (case hd => rfl); (case hg => rfl); (case hr => first | (go_simp; done) | (go_simp; rfl)); (case hp => exact (Reps.one (show Kd.M (Kd.int .i64) _ _ _ 1 [.int .i64 1] from rfl) (Reps.one (show Kd.M (Kd.int .i64) _ _ _ 2 [.int .i64 2] from rfl) (Reps.none _ _)))); intro v321 w11 ho12 hb hg_ hnew_; clear hg_ hnew_; (first | rw [← Ny320.out] at ho12 | (simp only [Int.reduceToNat] at ho12; rw [← Ny320.out] at ho12)); have n0_ := Aside0.mk (Kd.R_below qgknown_3 hb); have n1_ := Aside0.mk (Kd.R_elder' qgknown_1 (Kd.R_base ho12) hb); have n2_ := Aside0.mk (Kd.R_below qgknown_4 hb); have n3_ := Aside0.mk (Kd.R_lower (Kd.R_new' ho12 (Kd.R_lt qgknown_1)) (below_size qgknown_0)); have n4_ := Aside0.mk (below_step qgknown_0 hb); clear HO306; clear HO315; clear HO318; clear HB; have HO306 := n0_; have HO315 := n1_; have HO318 := n2_; have HO322 := n3_; have HB := n4_; clear n0_ n1_ n2_ n3_ n4_; clear hb ho12) | ((with_reducible refine gate_dst (N := 16) rfl ?_); (try (refine gate_guard (by rfl) ?_; dsimp only)); refine Kd.R_lit (Kd.int .i64) _ 3 ?hg (N := 16) ?hd (xs := ([5, 6] : List Int)) (inner := [.int .i64 5, .int .i64 6]) (ok := fun _ => True) (okp := fun _ => True) ?hr ?hp (fun _ hk => hk) trivial (Below.refl _ _) (Nat.le_refl _) (by simp) ?_; (case hd => rfl); (case hg => rfl); (case hr => first | (go_simp; done) | (go_simp; rfl)); (case hp => exact (Reps.one (show Kd.M (Kd.int .i64) _ _ _ 5 [.int .i64 5] from rfl) (Reps.one (show Kd.M (Kd.int .i64) _ _ _ 6 [.int .i64 6] from rfl) (Reps.none _ _)))); intro v324 w13 ho14 hb hg_ hnew_; clear hg_ hnew_; (first | rw [← Ny323.out] at ho14 | (simp only [Int.reduceToNat] at ho14; rw [← Ny323.out] at ho14)); have n0_ := Aside0.mk (Kd.R_below qgknown_3 hb); have n1_ := Aside0.mk (Kd.R_elder' qgknown_1 (Kd.R_base ho14) hb); have n2_ := Aside0.mk (Kd.R_below qgknown_4 hb); have n3_ := Aside0.mk (Kd.R_elder' qgknown_6 (Kd.R_base ho14) hb); have n4_ := Aside0.mk (Kd.R_lower (Kd.R_new' (Kd.R_new' ho14 (Kd.R_lt qgknown_1)) (Kd.R_lt qgknown_6)) (below_size qgknown_0)); have n5_ := Aside0.mk (below_step qgknown_0 hb); clear HO306; clear HO315; clear HO318; clear HO322; clear HB; have HO306 := n0_; have HO315 := n1_; have HO318 := n2_; have HO322 := n3_; have HO325 := n4_; have HB := n5_; clear n0_ n1_ n2_ n3_ n4_ n5_; clear hb ho14; obtain ⟨Ao15, co15, eo15⟩ := Kd.R_slice HO322.out; subst eo15; obtain ⟨Ao16, co16, eo16⟩ := Kd.R_slice HO325.out; subst eo16) | ((with_reducible refine gate_callee (f := 20) rfl ?_); refine goesL_ (some 17) rfl rfl Try.func20 (by kernel_rfl) rfl #[.slice Ao15 y320.length co15, .slice Ao16 y323.length co16] rfl qgknown_5 ?_; (with_reducible refine (changepoint_Test.calls _ _ y320 _ _ y323 t326 t327 t328 _ ?side1 ?side2 ?side3 ?side4 A3.out).mono ?_); (case side1 => repeat (first | exact (Kd.R_reads' HO322.out).2.2 | (with_reducible refine Kd.C_alloc ?_ _) | (with_reducible refine Kd.C_drewN ?_ _) | (with_reducible refine Kd.C_drew ?_))); (case side2 => exact (Kd.R_reads' HO322.out).2.1); (case side3 => repeat (first | exact (Kd.R_reads' HO325.out).2.2 | (with_reducible refine Kd.C_alloc ?_ _) | (with_reducible refine Kd.C_drewN ?_ _) | (with_reducible refine Kd.C_drew ?_))); (case side4 => exact (Kd.R_reads' HO325.out).2.1); rintro e w17 ⟨rfl, hb⟩; refine ⟨_, rfl, ?_⟩; have n0_ := Aside0.mk (Kd.R_below qgknown_3 hb); have n1_ := Aside0.mk (Kd.R_below qgknown_1 hb); have n2_ := Aside0.mk (Kd.R_below qgknown_4 hb); have n3_ := Aside0.mk (Kd.R_below qgknown_6 hb); have n4_ := Aside0.mk (Kd.R_below qgknown_9 hb); have n5_ := Aside0.mk (below_step qgknown_0 hb); clear HO306; clear HO315; clear HO318; clear HO322; clear HO325; clear HB; have HO306 := n0_; have HO315 := n1_; have HO318 := n2_; have HO322 := n3_; have HO325 := n4_; have HB := n5_; clear n0_ n1_ n2_ n3_ n4_ n5_; (try clear hb); (try clear hb2); (try clear hk); (try clear hi)))
 (try simp only [Act.put, List.setIfInBounds_toArray, List.set_cons_zero, List.set_cons_succ])
 go_cut [6, 7] (fun v6 v7 wc => ∃ (kq : Nat) (x6_3 : List (S58)) (x7_3 : Int), v7 = .int .i64 x7_3 ∧ Aside0 (sleuthlaw45_known.j0 kq t316 t319 t326 t327 t328 x6_3 x7_3 = some r) ∧ Aside0 (kq ≤ k) ∧ Aside0 (Kd.R k41 41 wc w.heap.size (fun _ => True) v317 t316) ∧ Aside0 (Kd.R k58 58 wc w.heap.size (fun _ => True) v6 x6_3) ∧ Aside0 (Below w.heap.size w wc))
 case first =>
  have H := HC4.out
  clear HC4
  obtain ⟨y329, hy329⟩ : ∃ y_ : List (S41), y_ = (([(⟨10, 0, 1⟩ : S41), (⟨20, 0, 1⟩ : S41)] : List (S41))) := ⟨_, rfl⟩
  replace H : ((changepoint_Match.f y329 (([(⟨12, 0, 1⟩ : S41), (⟨19, 0, 1⟩ : S41)] : List (S41))) 1).bind fun bt335 => (sleuthlaw45_known.j0 k t316 t319 t326 t327 t328 bt335.1 bt335.2)) = some r := by first | (rw [hy329]; with_reducible exact H) | (have H2_ := (Option.bind_some _ _).symm.trans H; rw [hy329]; with_reducible exact H2_) | (have H2_ := (Option.bind_some _ _).symm.trans H; with_reducible exact H2_) | with_reducible exact H | (rw [hy329]; exact H) | exact H
  have Ny329 := Aside0.mk hy329
  clear hy329
  obtain ⟨y332, hy332⟩ : ∃ y_ : List (S41), y_ = (([(⟨12, 0, 1⟩ : S41), (⟨19, 0, 1⟩ : S41)] : List (S41))) := ⟨_, rfl⟩
  replace H : ((changepoint_Match.f y329 y332 1).bind fun bt335 => (sleuthlaw45_known.j0 k t316 t319 t326 t327 t328 bt335.1 bt335.2)) = some r := by first | (rw [hy332]; with_reducible exact H) | (have H2_ := (Option.bind_some _ _).symm.trans H; rw [hy332]; with_reducible exact H2_) | (have H2_ := (Option.bind_some _ _).symm.trans H; with_reducible exact H2_) | with_reducible exact H | (rw [hy332]; exact H) | exact H
  have Ny332 := Aside0.mk hy332
  clear hy332
  replace H := Option.bind_eq_some_iff.mp H
  obtain ⟨⟨t335, t336⟩, A180, H⟩ := H
  replace H : (sleuthlaw45_known.j0 k t316 t319 t326 t327 t328 t335 t336) = some r := H
  have A18 := Aside0.mk A180
  clear A180
  have H' := Aside0.mk H
  clear H
  go_wp2_with (first | ((with_reducible refine gate_dst (N := 24) rfl ?_); (try (refine gate_guard (by rfl) ?_; dsimp only)); refine Kd.R_lit k41 _ 41 ?hg (N := 24) ?hd (xs := ([(⟨10, 0, 1⟩ : S41), (⟨20, 0, 1⟩ : S41)] : List (S41))) (inner := [.int .i64 10, .int .i64 0, .int .i64 1, .int .i64 20, .int .i64 0, .int .i64 1]) (ok := fun _ => True) (okp := fun _ => True) ?hr ?hp (fun _ hk => hk) trivial (Below.refl _ _) (Nat.le_refl _) (by simp) ?_; (case hd => rfl); (case hg => rfl); (case hr => first | (go_simp; done) | (go_simp; rfl)); (case hp => exact (Reps.c3 (show Kd.M k41 _ _ _ (⟨10, 0, 1⟩ : S41) [.int .i64 10, .int .i64 0, .int .i64 1] from (k41_mkM _ _ _ (⟨10, 0, 1⟩ : S41) )) (Reps.c3 (show Kd.M k41 _ _ _ (⟨20, 0, 1⟩ : S41) [.int .i64 20, .int .i64 0, .int .i64 1] from (k41_mkM _ _ _ (⟨20, 0, 1⟩ : S41) )) (Reps.none _ _)))); intro v330 w19 ho20 hb hg_ hnew_; clear hg_ hnew_; (first | rw [← Ny329.out] at ho20 | (simp only [Int.reduceToNat] at ho20; rw [← Ny329.out] at ho20)); have n0_ := Aside0.mk (Kd.R_below qgknown_3 hb); have n1_ := Aside0.mk (Kd.R_below qgknown_1 hb); have n2_ := Aside0.mk (Kd.R_elder' qgknown_4 (Kd.R_base ho20) hb); have n3_ := Aside0.mk (Kd.R_below qgknown_6 hb); have n4_ := Aside0.mk (Kd.R_below qgknown_9 hb); have n5_ := Aside0.mk (Kd.R_lower (Kd.R_new' ho20 (Kd.R_lt qgknown_4)) (below_size qgknown_0)); have n6_ := Aside0.mk (below_step qgknown_0 hb); clear HO306; clear HO315; clear HO318; clear HO322; clear HO325; clear HB; have HO306 := n0_; have HO315 := n1_; have HO318 := n2_; have HO322 := n3_; have HO325 := n4_; have HO331 := n5_; have HB := n6_; clear n0_ n1_ n2_ n3_ n4_ n5_ n6_; clear hb ho20) | ((with_reducible refine gate_dst (N := 27) rfl ?_); (try (refine gate_guard (by rfl) ?_; dsimp only)); refine Kd.R_lit k41 _ 41 ?hg (N := 27) ?hd (xs := ([(⟨12, 0, 1⟩ : S41), (⟨19, 0, 1⟩ : S41)] : List (S41))) (inner := [.int .i64 12, .int .i64 0, .int .i64 1, .int .i64 19, .int .i64 0, .int .i64 1]) (ok := fun _ => True) (okp := fun _ => True) ?hr ?hp (fun _ hk => hk) trivial (Below.refl _ _) (Nat.le_refl _) (by simp) ?_; (case hd => rfl); (case hg => rfl); (case hr => first | (go_simp; done) | (go_simp; rfl)); (case hp => exact (Reps.c3 (show Kd.M k41 _ _ _ (⟨12, 0, 1⟩ : S41) [.int .i64 12, .int .i64 0, .int .i64 1] from (k41_mkM _ _ _ (⟨12, 0, 1⟩ : S41) )) (Reps.c3 (show Kd.M k41 _ _ _ (⟨19, 0, 1⟩ : S41) [.int .i64 19, .int .i64 0, .int .i64 1] from (k41_mkM _ _ _ (⟨19, 0, 1⟩ : S41) )) (Reps.none _ _)))); intro v333 w21 ho22 hb hg_ hnew_; clear hg_ hnew_; (first | rw [← Ny332.out] at ho22 | (simp only [Int.reduceToNat] at ho22; rw [← Ny332.out] at ho22)); have n0_ := Aside0.mk (Kd.R_below qgknown_3 hb); have n1_ := Aside0.mk (Kd.R_below qgknown_1 hb); have n2_ := Aside0.mk (Kd.R_elder' qgknown_4 (Kd.R_base ho22) hb); have n3_ := Aside0.mk (Kd.R_below qgknown_6 hb); have n4_ := Aside0.mk (Kd.R_below qgknown_9 hb); have n5_ := Aside0.mk (Kd.R_elder' qgknown_10 (Kd.R_base ho22) hb); have n6_ := Aside0.mk (Kd.R_lower (Kd.R_new' (Kd.R_new' ho22 (Kd.R_lt qgknown_4)) (Kd.R_lt qgknown_10)) (below_size qgknown_0)); have n7_ := Aside0.mk (below_step qgknown_0 hb); clear HO306; clear HO315; clear HO318; clear HO322; clear HO325; clear HO331; clear HB; have HO306 := n0_; have HO315 := n1_; have HO318 := n2_; have HO322 := n3_; have HO325 := n4_; have HO331 := n5_; have HO334 := n6_; have HB := n7_; clear n0_ n1_ n2_ n3_ n4_ n5_ n6_ n7_; clear hb ho22; obtain ⟨Ao23, co23, eo23⟩ := Kd.R_slice HO331.out; subst eo23; obtain ⟨Ao24, co24, eo24⟩ := Kd.R_slice HO334.out; subst eo24) | ((with_reducible refine gate_callee (f := 23) rfl ?_); refine goesL_ (some 28) rfl rfl Try.func23 (by kernel_rfl) rfl #[.slice Ao23 y329.length co23, .slice Ao24 y332.length co24, .int .i64 1] rfl qgknown_5 ?_; (with_reducible refine (changepoint_Match.calls _ _ y329 _ _ y332 1 t335 t336 _ ?side1 ?side2 ?side3 ?side4 A18.out).mono ?_); (case side1 => repeat (first | exact (Kd.R_reads' HO331.out).2.2 | (with_reducible refine Kd.C_alloc ?_ _) | (with_reducible refine Kd.C_drewN ?_ _) | (with_reducible refine Kd.C_drew ?_))); (case side2 => exact (Kd.R_reads' HO331.out).2.1); (case side3 => repeat (first | exact (Kd.R_reads' HO334.out).2.2 | (with_reducible refine Kd.C_alloc ?_ _) | (with_reducible refine Kd.C_drewN ?_ _) | (with_reducible refine Kd.C_drew ?_))); (case side4 => exact (Kd.R_reads' HO334.out).2.1); rintro e w25 ⟨v337, rfl, ho0, hb⟩; refine ⟨_, rfl, ?_⟩; have n0_ := Aside0.mk (Kd.R_below qgknown_3 hb); have n1_ := Aside0.mk (Kd.R_below qgknown_1 hb); have n2_ := Aside0.mk (Kd.R_below qgknown_4 hb); have n3_ := Aside0.mk (Kd.R_below qgknown_6 hb); have n4_ := Aside0.mk (Kd.R_below qgknown_9 hb); have n5_ := Aside0.mk (Kd.R_below qgknown_10 hb); have n6_ := Aside0.mk (Kd.R_below (by (with_reducible repeat (first | apply Kd.R_alloc | apply Kd.R_drewN | apply Kd.R_drew)); exact HO334.out) hb); have n7_ := Aside0.mk (Kd.R_lower ho0 (below_size qgknown_0)); have n8_ := Aside0.mk (below_step qgknown_0 hb); clear HO306; clear HO315; clear HO318; clear HO322; clear HO325; clear HO331; clear HO334; clear HB; have HO306 := n0_; have HO315 := n1_; have HO318 := n2_; have HO322 := n3_; have HO325 := n4_; have HO331 := n5_; have HO334 := n6_; have HO338 := n7_; have HB := n8_; clear n0_ n1_ n2_ n3_ n4_ n5_ n6_ n7_ n8_; (try clear hb); (try clear hb2); (try clear hk); (try clear hi); (try clear ho0)))
  go_meet
  case rel => exact ⟨_, (t335), (t336), (by first | rfl | (simp; done) | (simp [*]; done)), H', ⟨by first | omega | exact Nat.le_refl _⟩, ⟨by (with_reducible repeat (first | apply Kd.R_alloc | apply Kd.R_drewN | apply Kd.R_drew)); exact Kd.R_mono HO318.out (fun _ hk => trivial)⟩, ⟨by (with_reducible repeat (first | apply Kd.R_alloc | apply Kd.R_drewN | apply Kd.R_drew)); exact HO338.out⟩, ⟨qgknown_0⟩⟩
 clear HC4
 try clear c1
 try clear c2
 try clear p2
 try clear c3
 try clear c13
 try clear c14
 try clear c15
 try clear c20
 try clear c23
 obtain ⟨kq, x6_3, x7_3, rfl, HA, HJ3, HO_1, HO_6, HB⟩ := hcut
 cases kq with
 | zero => exact absurd HA.out (by simp [sleuthlaw45_known.j0])
 | succ kj3 =>
  have H := HA.out
  clear HA
  simp only [sleuthlaw45_known.j0] at H
  by_cases c26 : t319 = 0
  rotate_left
  ·rw [if_neg c26] at H
   have c26b0 : (t319 == 0) = false := beq_eq_false_iff_ne.mpr c26
   have c26b1 : (t319 != 0) = true := bne_iff_ne.mpr c26
   obtain rfl := Option.some.inj H
   go_wp2
   go_ret
   exact ⟨qgknown_2, qgknown_0⟩
  rw [if_pos c26] at H
  have c26b0 : (t319 == 0) = true := beq_iff_eq.mpr c26
  have c26b1 : (t319 != 0) = false := bne_eq_false_iff_eq.mpr c26
  clear c26
  by_cases c27 : (t316.length : Int) = 1
  rotate_left
  ·rw [if_neg c27] at H
   have c27b0 : ((t316.length : Int) == 1) = false := beq_eq_false_iff_ne.mpr c27
   have c27b1 : ((t316.length : Int) != 1) = true := bne_iff_ne.mpr c27
   obtain rfl := Option.some.inj H
   obtain ⟨Ao50, co50, eo50⟩ := Kd.R_slice HO_1.out
   subst eo50
   go_wp2
   go_ret
   exact ⟨qgknown_2, qgknown_0⟩
  rw [if_pos c27] at H
  have c27b0 : ((t316.length : Int) == 1) = true := beq_iff_eq.mpr c27
  have c27b1 : ((t316.length : Int) != 1) = false := bne_eq_false_iff_eq.mpr c27
  clear c27
  by_cases c28 : 0 < (t316.length : Int)
  rotate_left
  ·rw [if_neg c28] at H
   exact absurd H (by simp)
  rw [if_pos c28] at H
  have c28b0 : decide (0 < (t316.length : Int)) = true := decide_eq_true c28
  have c28b1 : decide (0 < t316.length) = true := decide_eq_true (by omega)
  clear c28
  by_cases c29 : (((rd_T41 t316 0).f0) == 103 && (((rd_T41 t316 0).f1) == 5 && (((rd_T41 t316 0).f2) == 20))) = true
  rotate_left
  ·rw [if_neg c29] at H
   have c29b0 : (((rd_T41 t316 0).f0) == 103 && (((rd_T41 t316 0).f1) == 5 && (((rd_T41 t316 0).f2) == 20))) = false := by simpa using c29
   (try (have c29b1 : decide (((rd_T41 t316 0).f0) = 103 && (((rd_T41 t316 0).f1) == 5 && (((rd_T41 t316 0).f2) == 20))) = false := by simpa using c29))
   (try (have c29b2 : (((rd_T41 t316 0).f0) == 103 && (((rd_T41 t316 0).f1) == 5 && (((rd_T41 t316 0).f2) == 20))) = false := by simpa using c29))
   (try (have c29b3 : ¬ (((rd_T41 t316 0).f0) = 103 && (((rd_T41 t316 0).f1) == 5 && (((rd_T41 t316 0).f2) == 20))) := by simpa using c29))
   clear c29
   obtain rfl := Option.some.inj H
   obtain ⟨Ao49, co49, eo49⟩ := Kd.R_slice HO_1.out
   subst eo49
   have p339 : 0 ≤ (0 : Int) := (by omega)
   have q339 : 0 < (t316.length : Int) := of_decide_eq_true qgknown_7
   obtain ⟨ad339, e339, hx339_0, hx339_1, hx339_2⟩ := at_T41 (Kd.R_reads' HO_1.out).2.2 0 p339 q339
   cases e339
   have qi339 : (0 < t316.length) = True := eq_true (by omega)
   (try rw [show ((0 : Int)).toNat = 0 from rfl] at hx339_0)
   (try rw [show 0 * 3 = 0 from rfl] at hx339_0)
   (try rw [Addr.add_zero'] at hx339_0)
   (try rw [show ((0 : Int)).toNat = 0 from rfl] at hx339_1)
   (try rw [show 0 * 3 = 0 from rfl] at hx339_1)
   (try rw [Addr.add_zero'] at hx339_1)
   (try rw [show ((0 : Int)).toNat = 0 from rfl] at hx339_2)
   (try rw [show 0 * 3 = 0 from rfl] at hx339_2)
   (try rw [Addr.add_zero'] at hx339_2)
   replace p339 := eq_true p339
   replace q339 := eq_true q339
   go_wp2
   go_ret
   exact ⟨qgknown_2, qgknown_0⟩
  rw [if_pos c29] at H
  have c29b0 : (((rd_T41 t316 0).f0) == 103 && (((rd_T41 t316 0).f1) == 5 && (((rd_T41 t316 0).f2) == 20))) = true := c29
  (try (have c29b1 : decide (((rd_T41 t316 0).f0) = 103 && (((rd_T41 t316 0).f1) == 5 && (((rd_T41 t316 0).f2) == 20))) = true := by simpa using c29))
  (try (have c29b2 : (((rd_T41 t316 0).f0) == 103 && (((rd_T41 t316 0).f1) == 5 && (((rd_T41 t316 0).f2) == 20))) = true := by simpa using c29))
  clear c29
  by_cases c30 : t328 = 0
  rotate_left
  ·rw [if_neg c30] at H
   have c30b0 : (t328 == 0) = false := beq_eq_false_iff_ne.mpr c30
   have c30b1 : (t328 != 0) = true := bne_iff_ne.mpr c30
   obtain rfl := Option.some.inj H
   obtain ⟨Ao48, co48, eo48⟩ := Kd.R_slice HO_1.out
   subst eo48
   have p339 : 0 ≤ (0 : Int) := (by omega)
   have q339 : 0 < (t316.length : Int) := of_decide_eq_true qgknown_7
   obtain ⟨ad339, e339, hx339_0, hx339_1, hx339_2⟩ := at_T41 (Kd.R_reads' HO_1.out).2.2 0 p339 q339
   cases e339
   have qi339 : (0 < t316.length) = True := eq_true (by omega)
   (try rw [show ((0 : Int)).toNat = 0 from rfl] at hx339_0)
   (try rw [show 0 * 3 = 0 from rfl] at hx339_0)
   (try rw [Addr.add_zero'] at hx339_0)
   (try rw [show ((0 : Int)).toNat = 0 from rfl] at hx339_1)
   (try rw [show 0 * 3 = 0 from rfl] at hx339_1)
   (try rw [Addr.add_zero'] at hx339_1)
   (try rw [show ((0 : Int)).toNat = 0 from rfl] at hx339_2)
   (try rw [show 0 * 3 = 0 from rfl] at hx339_2)
   (try rw [Addr.add_zero'] at hx339_2)
   replace p339 := eq_true p339
   replace q339 := eq_true q339
   go_wp2
   go_ret
   exact ⟨qgknown_2, qgknown_0⟩
  rw [if_pos c30] at H
  have c30b0 : (t328 == 0) = true := beq_iff_eq.mpr c30
  have c30b1 : (t328 != 0) = false := bne_eq_false_iff_eq.mpr c30
  clear c30
  by_cases c31 : t326 = 2
  rotate_left
  ·rw [if_neg c31] at H
   have c31b0 : (t326 == 2) = false := beq_eq_false_iff_ne.mpr c31
   have c31b1 : (t326 != 2) = true := bne_iff_ne.mpr c31
   obtain rfl := Option.some.inj H
   obtain ⟨Ao47, co47, eo47⟩ := Kd.R_slice HO_1.out
   subst eo47
   have p339 : 0 ≤ (0 : Int) := (by omega)
   have q339 : 0 < (t316.length : Int) := of_decide_eq_true qgknown_7
   obtain ⟨ad339, e339, hx339_0, hx339_1, hx339_2⟩ := at_T41 (Kd.R_reads' HO_1.out).2.2 0 p339 q339
   cases e339
   have qi339 : (0 < t316.length) = True := eq_true (by omega)
   (try rw [show ((0 : Int)).toNat = 0 from rfl] at hx339_0)
   (try rw [show 0 * 3 = 0 from rfl] at hx339_0)
   (try rw [Addr.add_zero'] at hx339_0)
   (try rw [show ((0 : Int)).toNat = 0 from rfl] at hx339_1)
   (try rw [show 0 * 3 = 0 from rfl] at hx339_1)
   (try rw [Addr.add_zero'] at hx339_1)
   (try rw [show ((0 : Int)).toNat = 0 from rfl] at hx339_2)
   (try rw [show 0 * 3 = 0 from rfl] at hx339_2)
   (try rw [Addr.add_zero'] at hx339_2)
   replace p339 := eq_true p339
   replace q339 := eq_true q339
   go_wp2
   go_ret
   exact ⟨qgknown_2, qgknown_0⟩
  rw [if_pos c31] at H
  have c31b0 : (t326 == 2) = true := beq_iff_eq.mpr c31
  have c31b1 : (t326 != 2) = false := bne_eq_false_iff_eq.mpr c31
  clear c31
  by_cases c32 : t327 = 6
  rotate_left
  ·rw [if_neg c32] at H
   have c32b0 : (t327 == 6) = false := beq_eq_false_iff_ne.mpr c32
   have c32b1 : (t327 != 6) = true := bne_iff_ne.mpr c32
   obtain rfl := Option.some.inj H
   obtain ⟨Ao46, co46, eo46⟩ := Kd.R_slice HO_1.out
   subst eo46
   have p339 : 0 ≤ (0 : Int) := (by omega)
   have q339 : 0 < (t316.length : Int) := of_decide_eq_true qgknown_7
   obtain ⟨ad339, e339, hx339_0, hx339_1, hx339_2⟩ := at_T41 (Kd.R_reads' HO_1.out).2.2 0 p339 q339
   cases e339
   have qi339 : (0 < t316.length) = True := eq_true (by omega)
   (try rw [show ((0 : Int)).toNat = 0 from rfl] at hx339_0)
   (try rw [show 0 * 3 = 0 from rfl] at hx339_0)
   (try rw [Addr.add_zero'] at hx339_0)
   (try rw [show ((0 : Int)).toNat = 0 from rfl] at hx339_1)
   (try rw [show 0 * 3 = 0 from rfl] at hx339_1)
   (try rw [Addr.add_zero'] at hx339_1)
   (try rw [show ((0 : Int)).toNat = 0 from rfl] at hx339_2)
   (try rw [show 0 * 3 = 0 from rfl] at hx339_2)
   (try rw [Addr.add_zero'] at hx339_2)
   replace p339 := eq_true p339
   replace q339 := eq_true q339
   go_wp2
   go_ret
   exact ⟨qgknown_2, qgknown_0⟩
  rw [if_pos c32] at H
  have c32b0 : (t327 == 6) = true := beq_iff_eq.mpr c32
  have c32b1 : (t327 != 6) = false := bne_eq_false_iff_eq.mpr c32
  clear c32
  by_cases c33 : x7_3 = 0
  rotate_left
  ·rw [if_neg c33] at H
   have c33b0 : (x7_3 == 0) = false := beq_eq_false_iff_ne.mpr c33
   have c33b1 : (x7_3 != 0) = true := bne_iff_ne.mpr c33
   obtain rfl := Option.some.inj H
   obtain ⟨Ao45, co45, eo45⟩ := Kd.R_slice HO_1.out
   subst eo45
   have p339 : 0 ≤ (0 : Int) := (by omega)
   have q339 : 0 < (t316.length : Int) := of_decide_eq_true qgknown_7
   obtain ⟨ad339, e339, hx339_0, hx339_1, hx339_2⟩ := at_T41 (Kd.R_reads' HO_1.out).2.2 0 p339 q339
   cases e339
   have qi339 : (0 < t316.length) = True := eq_true (by omega)
   (try rw [show ((0 : Int)).toNat = 0 from rfl] at hx339_0)
   (try rw [show 0 * 3 = 0 from rfl] at hx339_0)
   (try rw [Addr.add_zero'] at hx339_0)
   (try rw [show ((0 : Int)).toNat = 0 from rfl] at hx339_1)
   (try rw [show 0 * 3 = 0 from rfl] at hx339_1)
   (try rw [Addr.add_zero'] at hx339_1)
   (try rw [show ((0 : Int)).toNat = 0 from rfl] at hx339_2)
   (try rw [show 0 * 3 = 0 from rfl] at hx339_2)
   (try rw [Addr.add_zero'] at hx339_2)
   replace p339 := eq_true p339
   replace q339 := eq_true q339
   go_wp2
   go_ret
   exact ⟨qgknown_2, qgknown_0⟩
  rw [if_pos c33] at H
  have c33b0 : (x7_3 == 0) = true := beq_iff_eq.mpr c33
  have c33b1 : (x7_3 != 0) = false := bne_eq_false_iff_eq.mpr c33
  clear c33
  by_cases c34 : (x6_3.length : Int) = 1
  rotate_left
  ·rw [if_neg c34] at H
   have c34b0 : ((x6_3.length : Int) == 1) = false := beq_eq_false_iff_ne.mpr c34
   have c34b1 : ((x6_3.length : Int) != 1) = true := bne_iff_ne.mpr c34
   obtain rfl := Option.some.inj H
   obtain ⟨Ao43, co43, eo43⟩ := Kd.R_slice HO_1.out
   subst eo43
   have p339 : 0 ≤ (0 : Int) := (by omega)
   have q339 : 0 < (t316.length : Int) := of_decide_eq_true qgknown_7
   obtain ⟨ad339, e339, hx339_0, hx339_1, hx339_2⟩ := at_T41 (Kd.R_reads' HO_1.out).2.2 0 p339 q339
   cases e339
   have qi339 : (0 < t316.length) = True := eq_true (by omega)
   (try rw [show ((0 : Int)).toNat = 0 from rfl] at hx339_0)
   (try rw [show 0 * 3 = 0 from rfl] at hx339_0)
   (try rw [Addr.add_zero'] at hx339_0)
   (try rw [show ((0 : Int)).toNat = 0 from rfl] at hx339_1)
   (try rw [show 0 * 3 = 0 from rfl] at hx339_1)
   (try rw [Addr.add_zero'] at hx339_1)
   (try rw [show ((0 : Int)).toNat = 0 from rfl] at hx339_2)
   (try rw [show 0 * 3 = 0 from rfl] at hx339_2)
   (try rw [Addr.add_zero'] at hx339_2)
   replace p339 := eq_true p339
   replace q339 := eq_true q339
   obtain ⟨Ao44, co44, eo44⟩ := Kd.R_slice HO_6.out
   subst eo44
   go_wp2
   go_ret
   exact ⟨qgknown_2, qgknown_0⟩
  rw [if_pos c34] at H
  have c34b0 : ((x6_3.length : Int) == 1) = true := beq_iff_eq.mpr c34
  have c34b1 : ((x6_3.length : Int) != 1) = false := bne_eq_false_iff_eq.mpr c34
  clear c34
  by_cases c35 : 0 < (x6_3.length : Int)
  rotate_left
  ·rw [if_neg c35] at H
   exact absurd H (by simp)
  rw [if_pos c35] at H
  have c35b0 : decide (0 < (x6_3.length : Int)) = true := decide_eq_true c35
  have c35b1 : decide (0 < x6_3.length) = true := decide_eq_true (by omega)
  clear c35
  by_cases c36 : (((rd_T58 x6_3 0).f0) == 1 && (((rd_T58 x6_3 0).f1) == 1)) = true
  rotate_left
  ·rw [if_neg c36] at H
   have c36b0 : (((rd_T58 x6_3 0).f0) == 1 && (((rd_T58 x6_3 0).f1) == 1)) = false := by simpa using c36
   (try (have c36b1 : decide (((rd_T58 x6_3 0).f0) = 1 && (((rd_T58 x6_3 0).f1) == 1)) = false := by simpa using c36))
   (try (have c36b2 : (((rd_T58 x6_3 0).f0) == 1 && (((rd_T58 x6_3 0).f1) == 1)) = false := by simpa using c36))
   (try (have c36b3 : ¬ (((rd_T58 x6_3 0).f0) = 1 && (((rd_T58 x6_3 0).f1) == 1)) := by simpa using c36))
   clear c36
   obtain rfl := Option.some.inj H
   obtain ⟨Ao41, co41, eo41⟩ := Kd.R_slice HO_1.out
   subst eo41
   have p339 : 0 ≤ (0 : Int) := (by omega)
   have q339 : 0 < (t316.length : Int) := of_decide_eq_true qgknown_7
   obtain ⟨ad339, e339, hx339_0, hx339_1, hx339_2⟩ := at_T41 (Kd.R_reads' HO_1.out).2.2 0 p339 q339
   cases e339
   have qi339 : (0 < t316.length) = True := eq_true (by omega)
   (try rw [show ((0 : Int)).toNat = 0 from rfl] at hx339_0)
   (try rw [show 0 * 3 = 0 from rfl] at hx339_0)
   (try rw [Addr.add_zero'] at hx339_0)
   (try rw [show ((0 : Int)).toNat = 0 from rfl] at hx339_1)
   (try rw [show 0 * 3 = 0 from rfl] at hx339_1)
   (try rw [Addr.add_zero'] at hx339_1)
   (try rw [show ((0 : Int)).toNat = 0 from rfl] at hx339_2)
   (try rw [show 0 * 3 = 0 from rfl] at hx339_2)
   (try rw [Addr.add_zero'] at hx339_2)
   replace p339 := eq_true p339
   replace q339 := eq_true q339
   obtain ⟨Ao42, co42, eo42⟩ := Kd.R_slice HO_6.out
   subst eo42
   have p340 : 0 ≤ (0 : Int) := (by omega)
   have q340 : 0 < (x6_3.length : Int) := of_decide_eq_true qgknown_7
   obtain ⟨ad340, e340, hx340_0, hx340_1⟩ := at_T58 (Kd.R_reads' HO_6.out).2.2 0 p340 q340
   cases e340
   have qi340 : (0 < x6_3.length) = True := eq_true (by omega)
   (try rw [show ((0 : Int)).toNat = 0 from rfl] at hx340_0)
   (try rw [show 0 * 2 = 0 from rfl] at hx340_0)
   (try rw [Addr.add_zero'] at hx340_0)
   (try rw [show ((0 : Int)).toNat = 0 from rfl] at hx340_1)
   (try rw [show 0 * 2 = 0 from rfl] at hx340_1)
   (try rw [Addr.add_zero'] at hx340_1)
   replace p340 := eq_true p340
   replace q340 := eq_true q340
   go_wp2
   go_ret
   exact ⟨qgknown_2, qgknown_0⟩
  rw [if_pos c36] at H
  have c36b0 : (((rd_T58 x6_3 0).f0) == 1 && (((rd_T58 x6_3 0).f1) == 1)) = true := c36
  (try (have c36b1 : decide (((rd_T58 x6_3 0).f0) = 1 && (((rd_T58 x6_3 0).f1) == 1)) = true := by simpa using c36))
  (try (have c36b2 : (((rd_T58 x6_3 0).f0) == 1 && (((rd_T58 x6_3 0).f1) == 1)) = true := by simpa using c36))
  clear c36
  replace H := Option.bind_eq_some_iff.mp H
  obtain ⟨t342, A370, H⟩ := H
  replace H : (some (t342 == 3000000)) = some r := H
  have A37 := Aside0.mk A370
  clear A370
  obtain rfl := Option.some.inj H
  obtain ⟨Ao38, co38, eo38⟩ := Kd.R_slice HO_1.out
  subst eo38
  have p339 : 0 ≤ (0 : Int) := (by omega)
  have q339 : 0 < (t316.length : Int) := of_decide_eq_true qgknown_7
  obtain ⟨ad339, e339, hx339_0, hx339_1, hx339_2⟩ := at_T41 (Kd.R_reads' HO_1.out).2.2 0 p339 q339
  cases e339
  have qi339 : (0 < t316.length) = True := eq_true (by omega)
  (try rw [show ((0 : Int)).toNat = 0 from rfl] at hx339_0)
  (try rw [show 0 * 3 = 0 from rfl] at hx339_0)
  (try rw [Addr.add_zero'] at hx339_0)
  (try rw [show ((0 : Int)).toNat = 0 from rfl] at hx339_1)
  (try rw [show 0 * 3 = 0 from rfl] at hx339_1)
  (try rw [Addr.add_zero'] at hx339_1)
  (try rw [show ((0 : Int)).toNat = 0 from rfl] at hx339_2)
  (try rw [show 0 * 3 = 0 from rfl] at hx339_2)
  (try rw [Addr.add_zero'] at hx339_2)
  replace p339 := eq_true p339
  replace q339 := eq_true q339
  obtain ⟨Ao39, co39, eo39⟩ := Kd.R_slice HO_6.out
  subst eo39
  have p340 : 0 ≤ (0 : Int) := (by omega)
  have q340 : 0 < (x6_3.length : Int) := of_decide_eq_true qgknown_7
  obtain ⟨ad340, e340, hx340_0, hx340_1⟩ := at_T58 (Kd.R_reads' HO_6.out).2.2 0 p340 q340
  cases e340
  have qi340 : (0 < x6_3.length) = True := eq_true (by omega)
  (try rw [show ((0 : Int)).toNat = 0 from rfl] at hx340_0)
  (try rw [show 0 * 2 = 0 from rfl] at hx340_0)
  (try rw [Addr.add_zero'] at hx340_0)
  (try rw [show ((0 : Int)).toNat = 0 from rfl] at hx340_1)
  (try rw [show 0 * 2 = 0 from rfl] at hx340_1)
  (try rw [Addr.add_zero'] at hx340_1)
  replace p340 := eq_true p340
  replace q340 := eq_true q340
  have p341 : 0 ≤ (0 : Int) := (by omega)
  have q341 : 0 < (t316.length : Int) := of_decide_eq_true qgknown_7
  obtain ⟨ad341, e341, hx341_0, hx341_1, hx341_2⟩ := at_T41 (Kd.R_reads' HO_1.out).2.2 0 p341 q341
  obtain rfl : ad339 = ad341 := (by injection e341)
  have qi341 : (0 < t316.length) = True := eq_true (by omega)
  (try rw [show ((0 : Int)).toNat = 0 from rfl] at hx341_0)
  (try rw [show 0 * 3 = 0 from rfl] at hx341_0)
  (try rw [Addr.add_zero'] at hx341_0)
  (try rw [show ((0 : Int)).toNat = 0 from rfl] at hx341_1)
  (try rw [show 0 * 3 = 0 from rfl] at hx341_1)
  (try rw [Addr.add_zero'] at hx341_1)
  (try rw [show ((0 : Int)).toNat = 0 from rfl] at hx341_2)
  (try rw [show 0 * 3 = 0 from rfl] at hx341_2)
  (try rw [Addr.add_zero'] at hx341_2)
  replace p341 := eq_true p341
  replace q341 := eq_true q341
  go_wp2_with (first | (go_at_call 31; (with_reducible refine (changepoint_Relative.calls ((rd_T41 t316 0).f0) ((rd_T41 t316 0).f1) ((rd_T41 t316 0).f2) t342 _ A37.out).mono ?_); rintro e w40 ⟨rfl, hb⟩; have n0_ := Aside0.mk (Kd.R_below (by (with_reducible repeat (first | apply Kd.R_alloc | apply Kd.R_drewN | apply Kd.R_drew)); exact HO_1.out) hb); have n1_ := Aside0.mk (Kd.R_below (by (with_reducible repeat (first | apply Kd.R_alloc | apply Kd.R_drewN | apply Kd.R_drew)); exact HO_6.out) hb); have n2_ := Aside0.mk (below_step qgknown_0 hb); clear HO_1; clear HO_6; clear HB; have HO_1 := n0_; have HO_6 := n1_; have HB := n2_; clear n0_ n1_ n2_; (try clear hb); (try clear hb2); (try clear hk); (try clear hi)))
  go_ret
  exact ⟨qgknown_2, qgknown_0⟩

end Go.Proofs.Ytcjgmofgfblmnaa.Q
