-- Laid by myprint.py (a program of this session's, over the kit's printer and with functions proved by hand)
import Derived.Test.YtcjgmofgfblmnaaTy
import Derived.Test.YtcjgmofgfblmnaaQgKnown
import Derived.Test.YtcjgmofgfblmnaaQgClu
namespace Go.Proofs.Ytcjgmofgfblmnaa.Q
open Go.RowKit Go.Proofs.YtcjgmofgfblmnaaW.PrintWords Go.Proofs.YtcjgmofgfblmnaaW.PrintLast Go.Proofs.YtcjgmofgfblmnaaW.PrintMore
attribute [local go_sem] max2_int min2_int max_two min_two max_three min_three max_four min_four   -- for this text's walks alone
set_option linter.unusedVariables false
set_option linter.unusedSimpArgs false

theorem qgsleuthlaw45changepointlimits_0 {p : Prop} (h : p := by repeat (first | (with_reducible first | exact HB.out | apply below_alloc | apply pw_below_drewN | apply below_drew1) | exact HB.out)) : p := h
theorem qgsleuthlaw45changepointlimits_1 {p : Prop} (h : p := by (with_reducible repeat (first | apply Kd.R_alloc | apply Kd.R_drewN | apply Kd.R_drew)); exact HO_7.out) : p := h
theorem qgsleuthlaw45changepointlimits_2 {p : Prop} (h : p := by (with_reducible repeat (first | apply Kd.S_alloc | apply Kd.S_drewN | apply Kd.S_drew)); exact Kd.S_mono HO509.out (fun _ hk => hk.2)) : p := h
theorem qgsleuthlaw45changepointlimits_3 {p : Prop} (h : p := by (with_reducible repeat (first | apply Kd.R_alloc | apply Kd.R_drewN | apply Kd.R_drew)); exact HO_5.out) : p := h
theorem qgsleuthlaw45changepointlimits_4 {p : Prop} (h : p := by (try simp only [List.map_toArray, List.map_cons, List.map_nil]); first | done | rfl | (simp only [List.length_drop, List.length_take]; rfl)) : p := h
theorem qgsleuthlaw45changepointlimits_5 {p : Prop} (h : p := by have := HK1.out; have := HK2.out; first | omega | exact Nat.le_refl _) : p := h
theorem qgsleuthlaw45changepointlimits_6 {p : Prop} (h : p := by first | rfl | (simp [errW_none, errW_some] <;> rfl) | (simp [*, errW_none, errW_some] <;> rfl)) : p := h
theorem qgsleuthlaw45changepointlimits_7 {p : Prop} (h : p := by first | rfl | (simp; done) | (simp [*]; done)) : p := h
/-! ### sleuthlaw45_ChangepointLimits: function 11 -/
mutual
def sleuthlaw45_ChangepointLimits.l0 : Nat → Int → Int → List (S41) → Int → Option (Bool)
 | 0, _, _, _, _ => none
 | k + 1, x0, x1, x5, x6 => if x6 < (wrap64 (Int.tmod x0 261)) then (if x5.length < 5864062014805 then (sleuthlaw45_ChangepointLimits.l0 k x0 x1 (x5 ++ [(⟨wrap64 (2 * x6), 0, 1⟩ : S41)]) (wrap64 (x6 + 1))) else (none)) else (sleuthlaw45_ChangepointLimits.l1 k x1 x5 ([] : List Int) 0)
def sleuthlaw45_ChangepointLimits.l1 : Nat → Int → List (S41) → List Int → Int → Option (Bool)
 | 0, _, _, _, _ => none
 | k + 1, x1, x5, x7, x8 => if x8 < (wrap64 (Int.tmod x1 1031)) then (if x7.length < 17592186044416 then (sleuthlaw45_ChangepointLimits.l1 k x1 x5 (x7 ++ [x8]) (wrap64 (x8 + 1))) else (none)) else ((changepoint_Match.f x5 x5 1).bind fun bt502 => ((changepoint_Clusters.f k x7 1).bind fun bt506 => (if (x5.length : Int) > 256 then (if bt502.2 = 6 then (if (bt502.1.length : Int) > 0 then (sleuthlaw45_ChangepointLimits.j2 k x7 bt506.1 bt506.2 true) else (if (x5.length : Int) ≤ 256 then (if bt502.2 = 0 then (sleuthlaw45_ChangepointLimits.j2 k x7 bt506.1 bt506.2 ((bt502.1.length : Int) != (x5.length : Int))) else (sleuthlaw45_ChangepointLimits.j2 k x7 bt506.1 bt506.2 true)) else (sleuthlaw45_ChangepointLimits.j2 k x7 bt506.1 bt506.2 false))) else (sleuthlaw45_ChangepointLimits.j2 k x7 bt506.1 bt506.2 true)) else (if (x5.length : Int) ≤ 256 then (if bt502.2 = 0 then (sleuthlaw45_ChangepointLimits.j2 k x7 bt506.1 bt506.2 ((bt502.1.length : Int) != (x5.length : Int))) else (sleuthlaw45_ChangepointLimits.j2 k x7 bt506.1 bt506.2 true)) else (sleuthlaw45_ChangepointLimits.j2 k x7 bt506.1 bt506.2 false)))))
def sleuthlaw45_ChangepointLimits.j2 : Nat → List Int → List (List Int) → Int → Bool → Option (Bool)
 | 0, _, _, _, _ => none
 | k + 1, x7, x11, x12, x77 => if x77 = true then (some false) else (if (x7.length : Int) > 1024 then (if x12 = 6 then (some ((x11.length : Int) == 0)) else (some false)) else (if x12 = 0 then (some ((x11.length : Int) == (mn (x7.length : Int) 1))) else (some false)))
end
def sleuthlaw45_ChangepointLimits.f (k : Nat) (a0 : Int) (a1 : Int) : Option (Bool) := (sleuthlaw45_known.f k).bind fun t495 => (if t495 = true then (sleuthlaw45_ChangepointLimits.l0 k a0 a1 ([] : List (S41)) 0) else (some false))
theorem sleuthlaw45_ChangepointLimits.mono_l : ∀ k, (∀ y0 y1 y2 y3, LeO (sleuthlaw45_ChangepointLimits.l0 k y0 y1 y2 y3) (sleuthlaw45_ChangepointLimits.l0 (k + 1) y0 y1 y2 y3)) ∧ (∀ y0 y1 y2 y3, LeO (sleuthlaw45_ChangepointLimits.l1 k y0 y1 y2 y3) (sleuthlaw45_ChangepointLimits.l1 (k + 1) y0 y1 y2 y3)) ∧ (∀ y0 y1 y2 y3, LeO (sleuthlaw45_ChangepointLimits.j2 k y0 y1 y2 y3) (sleuthlaw45_ChangepointLimits.j2 (k + 1) y0 y1 y2 y3))
 | 0 => ⟨fun _ _ _ _ r h => by simp [sleuthlaw45_ChangepointLimits.l0] at h, fun _ _ _ _ r h => by simp [sleuthlaw45_ChangepointLimits.l1] at h, fun _ _ _ _ r h => by simp [sleuthlaw45_ChangepointLimits.j2] at h⟩
 | k + 1 => by
  obtain ⟨ih0, ih1, ih2⟩ := sleuthlaw45_ChangepointLimits.mono_l k
  refine ⟨?_, ?_, ?_⟩
  ·intro y0 y1 y2 y3
   unfold sleuthlaw45_ChangepointLimits.l0
   repeat' first
   | (with_reducible exact ih0 _ _ _ _)
   | (with_reducible exact ih1 _ _ _ _)
   | (with_reducible exact ih2 _ _ _ _)
   | (with_reducible exact changepoint_Clusters.mono _ _ _)
   | (with_reducible exact sleuthlaw45_known.mono _)
   | (with_reducible exact LeO.refl _)
   | (with_reducible exact LeO.none _)
   | (with_reducible refine LeO.ite ?_ ?_)
   | (with_reducible refine LeO.bind ?_ (fun _ => ?_))
   | exact ih0 _ _ _ _
   | exact ih1 _ _ _ _
   | exact ih2 _ _ _ _
   | exact changepoint_Clusters.mono _ _ _
   | exact sleuthlaw45_known.mono _
   | exact LeO.none _
   | refine LeO.ite ?_ ?_
   | refine LeO.bind ?_ (fun _ => ?_)
  ·intro y0 y1 y2 y3
   unfold sleuthlaw45_ChangepointLimits.l1
   repeat' first
   | (with_reducible exact ih0 _ _ _ _)
   | (with_reducible exact ih1 _ _ _ _)
   | (with_reducible exact ih2 _ _ _ _)
   | (with_reducible exact changepoint_Clusters.mono _ _ _)
   | (with_reducible exact sleuthlaw45_known.mono _)
   | (with_reducible exact LeO.refl _)
   | (with_reducible exact LeO.none _)
   | (with_reducible refine LeO.ite ?_ ?_)
   | (with_reducible refine LeO.bind ?_ (fun _ => ?_))
   | exact ih0 _ _ _ _
   | exact ih1 _ _ _ _
   | exact ih2 _ _ _ _
   | exact changepoint_Clusters.mono _ _ _
   | exact sleuthlaw45_known.mono _
   | exact LeO.none _
   | refine LeO.ite ?_ ?_
   | refine LeO.bind ?_ (fun _ => ?_)
  ·intro y0 y1 y2 y3
   unfold sleuthlaw45_ChangepointLimits.j2
   repeat' first
   | (with_reducible exact ih0 _ _ _ _)
   | (with_reducible exact ih1 _ _ _ _)
   | (with_reducible exact ih2 _ _ _ _)
   | (with_reducible exact changepoint_Clusters.mono _ _ _)
   | (with_reducible exact sleuthlaw45_known.mono _)
   | (with_reducible exact LeO.refl _)
   | (with_reducible exact LeO.none _)
   | (with_reducible refine LeO.ite ?_ ?_)
   | (with_reducible refine LeO.bind ?_ (fun _ => ?_))
   | exact ih0 _ _ _ _
   | exact ih1 _ _ _ _
   | exact ih2 _ _ _ _
   | exact changepoint_Clusters.mono _ _ _
   | exact sleuthlaw45_known.mono _
   | exact LeO.none _
   | refine LeO.ite ?_ ?_
   | refine LeO.bind ?_ (fun _ => ?_)
theorem sleuthlaw45_ChangepointLimits.mono : ∀ a0 a1 k, LeO (sleuthlaw45_ChangepointLimits.f k a0 a1) (sleuthlaw45_ChangepointLimits.f (k + 1) a0 a1) := by
 intro a0 a1 k
 obtain ⟨ih0, ih1, ih2⟩ := sleuthlaw45_ChangepointLimits.mono_l k
 unfold sleuthlaw45_ChangepointLimits.f
 repeat' first
   | (with_reducible exact ih0 _ _ _ _)
   | (with_reducible exact ih1 _ _ _ _)
   | (with_reducible exact ih2 _ _ _ _)
   | (with_reducible exact changepoint_Clusters.mono _ _ _)
   | (with_reducible exact sleuthlaw45_known.mono _)
   | (with_reducible exact LeO.refl _)
   | (with_reducible exact LeO.none _)
   | (with_reducible refine LeO.ite ?_ ?_)
   | (with_reducible refine LeO.bind ?_ (fun _ => ?_))
   | exact ih0 _ _ _ _
   | exact ih1 _ _ _ _
   | exact ih2 _ _ _ _
   | exact changepoint_Clusters.mono _ _ _
   | exact sleuthlaw45_known.mono _
   | exact LeO.none _
   | refine LeO.ite ?_ ?_
   | refine LeO.bind ?_ (fun _ => ?_)
set_option maxHeartbeats 8000000 in
set_option maxRecDepth 100000 in
theorem sleuthlaw45_ChangepointLimits.calls (k : Nat) (a0 : Int) (a1 : Int) (r : Bool) (w : World) (h : sleuthlaw45_ChangepointLimits.f k a0 a1 = some r) :
  Calls Try.prog 11 #[.int .u16 a0, .int .u16 a1] w fun e w' => e = .returned (.bool r) ∧ Below w.heap.size w w' := by
 have hu41 := Try.underlying41
 have HB := Aside0.mk (Below.refl w.heap.size w)
 have H : ((sleuthlaw45_known.f k).bind fun t495 => (if t495 = true then (sleuthlaw45_ChangepointLimits.l0 k a0 a1 ([] : List (S41)) 0) else (some false))) = some r := h
 clear h
 replace H := Option.bind_eq_some_iff.mp H
 obtain ⟨t495, A30, H⟩ := H
 replace H : (if t495 = true then (sleuthlaw45_ChangepointLimits.l0 k a0 a1 ([] : List (S41)) 0) else (some false)) = some r := H
 have A3 := Aside0.mk A30
 clear A30
 by_cases c4 : t495 = true
 rotate_left
 ·replace c4 := Bool.eq_false_iff.mpr c4
  subst c4
  have H1 : (some false) = some r := by rw [if_neg (show ¬ (false = true) by decide)] at H; exact H
  clear H
  have H := H1
  clear H1
  obtain rfl := Option.some.inj H
  go_enter Try.func11, Try.ntmps11
  go_wp2_with (first | ((with_reducible refine gate_callee (f := 13) rfl ?_); refine goesL_ (some 13) rfl rfl Try.func13 (by kernel_rfl) rfl #[] rfl qgsleuthlaw45changepointlimits_4 ?_; (with_reducible refine (sleuthlaw45_known.calls k  false _ A3.out).mono ?_); rintro e w38 ⟨rfl, hb⟩; refine ⟨_, rfl, ?_⟩; have n0_ := Aside0.mk (below_step qgsleuthlaw45changepointlimits_0 hb); clear HB; have HB := n0_; clear n0_; (try clear hb); (try clear hb2); (try clear hk); (try clear hi)))
  go_ret
  exact ⟨qgsleuthlaw45changepointlimits_6, qgsleuthlaw45changepointlimits_0⟩
 subst c4
 have H1 : (sleuthlaw45_ChangepointLimits.l0 k a0 a1 ([] : List (S41)) 0) = some r := by rw [if_pos rfl] at H; exact H
 clear H
 have H := H1
 clear H1
 have H' := Aside0.mk H
 clear H
 go_enter Try.func11, Try.ntmps11
 go_wp2_with (first | ((with_reducible refine gate_callee (f := 13) rfl ?_); refine goesL_ (some 13) rfl rfl Try.func13 (by kernel_rfl) rfl #[] rfl qgsleuthlaw45changepointlimits_4 ?_; (with_reducible refine (sleuthlaw45_known.calls k  true _ A3.out).mono ?_); rintro e w5 ⟨rfl, hb⟩; refine ⟨_, rfl, ?_⟩; have n0_ := Aside0.mk (below_step qgsleuthlaw45changepointlimits_0 hb); clear HB; have HB := n0_; clear n0_; (try clear hb); (try clear hb2); (try clear hk); (try clear hi)))
 go_loopg [5, 6] k (fun kq v5 v6 w' => ∃ (x5_1 : List (S41)) (x6_1 : Int), v6 = .int .i64 x6_1 ∧ Aside0 (sleuthlaw45_ChangepointLimits.l0 kq a0 a1 x5_1 x6_1 = some r) ∧ Aside0 (kq ≤ k) ∧ Aside0 (Kd.R k41 41 w' w.heap.size (fun _ => True) v5 x5_1) ∧ Aside0 (Below w.heap.size w w'))
 case atStart => exact ⟨(([] : List (S41))), (0), qgsleuthlaw45changepointlimits_7, H', ⟨Nat.le_refl _⟩, ⟨by first | exact Kd.R_nil _ _ _ _ _ | exact Kd.N_nil _ _ _ _ _ | exact Kd.V_nil _ _ _ _ _ | exact Kd.Q_nil _ _ _ _ _ | exact Kd.S_nil _ _ _ _ _⟩, ⟨qgsleuthlaw45changepointlimits_0⟩⟩
 clear H'
 try clear c1
 try clear p2
 try clear c4
 obtain ⟨x5_1, x6_1, rfl, HA, HK1, HO_5, HB⟩ := hrel
 cases gk with
 | zero => exact absurd HA.out (by simp [sleuthlaw45_ChangepointLimits.l0])
 | succ k1 =>
  have H := HA.out
  clear HA
  simp only [sleuthlaw45_ChangepointLimits.l0] at H
  by_cases c6 : x6_1 < (wrap64 (Int.tmod a0 261))
  ·rw [if_pos c6] at H
   have c6b0 : decide (x6_1 < (wrap64 (Int.tmod a0 261))) = true := decide_eq_true c6
   clear c6
   by_cases c7 : x5_1.length < 5864062014805
   rotate_left
   ·rw [if_neg c7] at H
    exact absurd H (by simp)
   rw [if_pos c7] at H
   have LMc7 := Aside0.mk c7
   clear c7
   obtain ⟨y496, hy496⟩ : ∃ y_ : List (S41), y_ = (x5_1 ++ [(⟨wrap64 (2 * x6_1), 0, 1⟩ : S41)]) := ⟨_, rfl⟩
   replace H : (sleuthlaw45_ChangepointLimits.l0 k1 a0 a1 y496 (wrap64 (x6_1 + 1))) = some r := by first | (rw [hy496]; with_reducible exact H) | (have H2_ := (Option.bind_some _ _).symm.trans H; rw [hy496]; with_reducible exact H2_) | (have H2_ := (Option.bind_some _ _).symm.trans H; with_reducible exact H2_) | with_reducible exact H | (rw [hy496]; exact H) | exact H
   have Ny496 := Aside0.mk hy496
   clear hy496
   have H' := Aside0.mk H
   clear H
   go_wp2_with (first | ((with_reducible refine gate_builtin (b := .append) (xs := #[.tmp 22, .tmp 26]) rfl ?_); (try (refine gate_guard (by rfl) ?_; dsimp only)); at_builtin; refine Kd.R_append k41 (w0 := w) w.heap.size rfl (.tmp 22) (.tmp 26) 30 41 (.agg #[(.int .i64 0), (.int .i64 0), (.int .i64 0)]) 24 rfl Try.underlying30 info41 rfl (by decide) (by omega) u5 x5_1 (⟨wrap64 (2 * x6_1), 0, 1⟩ : S41) [.int .i64 (wrap64 (2 * x6_1)), .int .i64 0, .int .i64 1] (fun _ => True) (fun _ => False) rfl rfl ?aP (fun _ hk => hk.elim) ?aF ?aO ?aB ?aS ?aL ?_; (case aP => exact k41_mkM _ _ _ (⟨wrap64 (2 * x6_1), 0, 1⟩ : S41)); (case aB => exact qgsleuthlaw45changepointlimits_0); (case aF => exact (fun _ _ => trivial)); (case aO => exact qgsleuthlaw45changepointlimits_3); (case aS => exact (below_size qgsleuthlaw45changepointlimits_0)); (case aL => have := LMc7.out; omega); intro v497 w8 ho hb hg hat; rw [← Ny496.out] at ho; have n0_ := Aside0.mk (hb); have n1_ := Aside0.mk (ho); clear HB; clear HO_5; have HB := n0_; have HO498 := n1_; clear n0_ n1_; clear ho hb hg hat))
   go_roundg k1
   case measure => have := HK1.out; omega
   case rel => exact ⟨(y496), (wrap64 (x6_1 + 1)), qgsleuthlaw45changepointlimits_7, H', ⟨by have := HK1.out; omega⟩, ⟨by (with_reducible repeat (first | apply Kd.R_alloc | apply Kd.R_drewN | apply Kd.R_drew)); exact HO498.out⟩, ⟨qgsleuthlaw45changepointlimits_0⟩⟩
  rw [if_neg c6] at H
  have c6b0 : decide (x6_1 < (wrap64 (Int.tmod a0 261))) = false := decide_eq_false c6
  clear c6
  have H' := Aside0.mk H
  clear H
  go_wp2
  go_loopg [7, 8] k1 (fun kq v7 v8 w' => ∃ (x7_2 : List Int) (x8_2 : Int), v8 = .int .i64 x8_2 ∧ Aside0 (sleuthlaw45_ChangepointLimits.l1 kq a1 x5_1 x7_2 x8_2 = some r) ∧ Aside0 (kq ≤ k1) ∧ Aside0 (Kd.R k41 41 w' w.heap.size (fun _ => True) u5 x5_1) ∧ Aside0 (Kd.R (Kd.int .i64) 3 w' w.heap.size (fun _ => True) v7 x7_2) ∧ Aside0 (Below w.heap.size w w'))
  case atStart => exact ⟨(([] : List Int)), (0), qgsleuthlaw45changepointlimits_7, H', ⟨Nat.le_refl _⟩, ⟨qgsleuthlaw45changepointlimits_3⟩, ⟨by first | exact Kd.R_nil _ _ _ _ _ | exact Kd.N_nil _ _ _ _ _ | exact Kd.V_nil _ _ _ _ _ | exact Kd.Q_nil _ _ _ _ _ | exact Kd.S_nil _ _ _ _ _⟩, ⟨qgsleuthlaw45changepointlimits_0⟩⟩
  clear H'
  try clear c1
  try clear p2
  try clear c4
  try clear c6
  try clear c6b0
  try clear p6
  try clear c7
  try clear p2
  obtain ⟨x7_2, x8_2, rfl, HA, HK2, HO_5, HO_7, HB⟩ := hrel
  cases gk with
  | zero => exact absurd HA.out (by simp [sleuthlaw45_ChangepointLimits.l1])
  | succ k2 =>
   have H := HA.out
   clear HA
   simp only [sleuthlaw45_ChangepointLimits.l1] at H
   by_cases c9 : x8_2 < (wrap64 (Int.tmod a1 1031))
   ·rw [if_pos c9] at H
    have c9b0 : decide (x8_2 < (wrap64 (Int.tmod a1 1031))) = true := decide_eq_true c9
    clear c9
    by_cases c10 : x7_2.length < 17592186044416
    rotate_left
    ·rw [if_neg c10] at H
     exact absurd H (by simp)
    rw [if_pos c10] at H
    have LMc10 := Aside0.mk c10
    clear c10
    obtain ⟨y499, hy499⟩ : ∃ y_ : List Int, y_ = (x7_2 ++ [x8_2]) := ⟨_, rfl⟩
    replace H : (sleuthlaw45_ChangepointLimits.l1 k2 a1 x5_1 y499 (wrap64 (x8_2 + 1))) = some r := by first | (rw [hy499]; with_reducible exact H) | (have H2_ := (Option.bind_some _ _).symm.trans H; rw [hy499]; with_reducible exact H2_) | (have H2_ := (Option.bind_some _ _).symm.trans H; with_reducible exact H2_) | with_reducible exact H | (rw [hy499]; exact H) | exact H
    have Ny499 := Aside0.mk hy499
    clear hy499
    have H' := Aside0.mk H
    clear H
    go_wp2_with (first | ((with_reducible refine gate_builtin (b := .append) (xs := #[.tmp 35, .tmp 37]) rfl ?_); (try (refine gate_guard (by rfl) ?_; dsimp only)); at_builtin; refine Kd.R_append (Kd.int .i64) (w0 := w) w.heap.size rfl (.tmp 35) (.tmp 37) 26 3 (.int .i64 0) 8 rfl Try.underlying26 info3 rfl (by decide) (by omega) u7 x7_2 x8_2 [.int .i64 x8_2] (fun _ => True) (fun _ => False) rfl rfl ?aP (fun _ hk => hk.elim) ?aF ?aO ?aB ?aS ?aL ?_; (case aP => exact rfl); (case aB => exact qgsleuthlaw45changepointlimits_0); (case aF => exact (fun _ _ => trivial)); (case aO => exact qgsleuthlaw45changepointlimits_1); (case aS => exact (below_size qgsleuthlaw45changepointlimits_0)); (case aL => have := LMc10.out; omega); intro v500 w11 ho hb hg hat; rw [← Ny499.out] at ho; have n0_ := Aside0.mk (Kd.R_over' qgsleuthlaw45changepointlimits_3 (Kd.R_typed qgsleuthlaw45changepointlimits_1) (by decide) hg); have n1_ := Aside0.mk (hb); have n2_ := Aside0.mk (ho); clear HO_5; clear HB; clear HO_7; have HO_5 := n0_; have HB := n1_; have HO501 := n2_; clear n0_ n1_ n2_; clear ho hb hg hat))
    go_roundg k2
    case measure => have := HK1.out; have := HK2.out; omega
    case rel => exact ⟨(y499), (wrap64 (x8_2 + 1)), qgsleuthlaw45changepointlimits_7, H', ⟨by have := HK1.out; have := HK2.out; omega⟩, ⟨qgsleuthlaw45changepointlimits_3⟩, ⟨by (with_reducible repeat (first | apply Kd.R_alloc | apply Kd.R_drewN | apply Kd.R_drew)); exact HO501.out⟩, ⟨qgsleuthlaw45changepointlimits_0⟩⟩
   rw [if_neg c9] at H
   have c9b0 : decide (x8_2 < (wrap64 (Int.tmod a1 1031))) = false := decide_eq_false c9
   clear c9
   replace H := Option.bind_eq_some_iff.mp H
   obtain ⟨⟨t502, t503⟩, A120, H⟩ := H
   replace H : ((changepoint_Clusters.f k2 x7_2 1).bind fun bt506 => (if (x5_1.length : Int) > 256 then (if t503 = 6 then (if (t502.length : Int) > 0 then (sleuthlaw45_ChangepointLimits.j2 k2 x7_2 bt506.1 bt506.2 true) else (if (x5_1.length : Int) ≤ 256 then (if t503 = 0 then (sleuthlaw45_ChangepointLimits.j2 k2 x7_2 bt506.1 bt506.2 ((t502.length : Int) != (x5_1.length : Int))) else (sleuthlaw45_ChangepointLimits.j2 k2 x7_2 bt506.1 bt506.2 true)) else (sleuthlaw45_ChangepointLimits.j2 k2 x7_2 bt506.1 bt506.2 false))) else (sleuthlaw45_ChangepointLimits.j2 k2 x7_2 bt506.1 bt506.2 true)) else (if (x5_1.length : Int) ≤ 256 then (if t503 = 0 then (sleuthlaw45_ChangepointLimits.j2 k2 x7_2 bt506.1 bt506.2 ((t502.length : Int) != (x5_1.length : Int))) else (sleuthlaw45_ChangepointLimits.j2 k2 x7_2 bt506.1 bt506.2 true)) else (sleuthlaw45_ChangepointLimits.j2 k2 x7_2 bt506.1 bt506.2 false)))) = some r := H
   have A12 := Aside0.mk A120
   clear A120
   replace H := Option.bind_eq_some_iff.mp H
   obtain ⟨⟨t506, t507⟩, A130, H⟩ := H
   replace H : (if (x5_1.length : Int) > 256 then (if t503 = 6 then (if (t502.length : Int) > 0 then (sleuthlaw45_ChangepointLimits.j2 k2 x7_2 t506 t507 true) else (if (x5_1.length : Int) ≤ 256 then (if t503 = 0 then (sleuthlaw45_ChangepointLimits.j2 k2 x7_2 t506 t507 ((t502.length : Int) != (x5_1.length : Int))) else (sleuthlaw45_ChangepointLimits.j2 k2 x7_2 t506 t507 true)) else (sleuthlaw45_ChangepointLimits.j2 k2 x7_2 t506 t507 false))) else (sleuthlaw45_ChangepointLimits.j2 k2 x7_2 t506 t507 true)) else (if (x5_1.length : Int) ≤ 256 then (if t503 = 0 then (sleuthlaw45_ChangepointLimits.j2 k2 x7_2 t506 t507 ((t502.length : Int) != (x5_1.length : Int))) else (sleuthlaw45_ChangepointLimits.j2 k2 x7_2 t506 t507 true)) else (sleuthlaw45_ChangepointLimits.j2 k2 x7_2 t506 t507 false))) = some r := H
   have A13 := Aside0.mk A130
   clear A130
   have HC14 := Aside0.mk H
   clear H
   obtain ⟨Ao15, co15, eo15⟩ := Kd.R_slice HO_5.out
   subst eo15
   go_upto_region 15 with (first | ((with_reducible refine gate_callee (f := 23) rfl ?_); refine goesL_ (some 42) rfl rfl Try.func23 (by kernel_rfl) rfl #[.slice Ao15 x5_1.length co15, .slice Ao15 x5_1.length co15, .int .i64 1] rfl qgsleuthlaw45changepointlimits_4 ?_; (with_reducible refine (changepoint_Match.calls _ _ x5_1 _ _ x5_1 1 t502 t503 _ ?side1 ?side2 ?side3 ?side4 A12.out).mono ?_); (case side1 => repeat (first | exact (Kd.R_reads' HO_5.out).2.2 | (with_reducible refine Kd.C_alloc ?_ _) | (with_reducible refine Kd.C_drewN ?_ _) | (with_reducible refine Kd.C_drew ?_))); (case side2 => exact (Kd.R_reads' HO_5.out).2.1); (case side3 => repeat (first | exact (Kd.R_reads' HO_5.out).2.2 | (with_reducible refine Kd.C_alloc ?_ _) | (with_reducible refine Kd.C_drewN ?_ _) | (with_reducible refine Kd.C_drew ?_))); (case side4 => exact (Kd.R_reads' HO_5.out).2.1); rintro e w16 ⟨v504, rfl, ho0, hb⟩; refine ⟨_, rfl, ?_⟩; have n0_ := Aside0.mk (Kd.R_below qgsleuthlaw45changepointlimits_3 hb); have n1_ := Aside0.mk (Kd.R_below qgsleuthlaw45changepointlimits_1 hb); have n2_ := Aside0.mk (Kd.R_lower ho0 (below_size qgsleuthlaw45changepointlimits_0)); have n3_ := Aside0.mk (below_step qgsleuthlaw45changepointlimits_0 hb); clear HO_5; clear HO_7; clear HB; have HO_5 := n0_; have HO_7 := n1_; have HO505 := n2_; have HB := n3_; clear n0_ n1_ n2_ n3_; (try clear hb); (try clear hb2); (try clear hk); (try clear hi); (try clear ho0); obtain ⟨Ao17, co17, eo17⟩ := Kd.R_slice HO_7.out; subst eo17) | ((with_reducible refine gate_callee (f := 27) rfl ?_); refine goesL_ (some 47) rfl rfl Try.func27 (by kernel_rfl) rfl #[.slice Ao17 x7_2.length co17, .int .i64 1] rfl qgsleuthlaw45changepointlimits_4 ?_; (with_reducible refine (changepoint_Clusters.calls k2 _ _ x7_2 1 t506 t507 _ ?side1 ?side2 A13.out).mono ?_); (case side1 => repeat (first | exact (Kd.R_reads' HO_7.out).2.2 | (with_reducible refine Kd.C_alloc ?_ _) | (with_reducible refine Kd.C_drewN ?_ _) | (with_reducible refine Kd.C_drew ?_))); (case side2 => exact (Kd.R_reads' HO_7.out).2.1); rintro e w18 ⟨v508, rfl, ho0, hb⟩; refine ⟨_, rfl, ?_⟩; have n0_ := Aside0.mk (Kd.R_below qgsleuthlaw45changepointlimits_3 hb); have n1_ := Aside0.mk (Kd.R_below qgsleuthlaw45changepointlimits_1 hb); have n2_ := Aside0.mk (Kd.R_below (by (with_reducible repeat (first | apply Kd.R_alloc | apply Kd.R_drewN | apply Kd.R_drew)); exact HO505.out) hb); have n3_ := Aside0.mk (Kd.S_lower (Kd.S_new' ho0 (Kd.R_lt qgsleuthlaw45changepointlimits_1)) (below_size qgsleuthlaw45changepointlimits_0)); have n4_ := Aside0.mk (below_step qgsleuthlaw45changepointlimits_0 hb); clear HO_5; clear HO_7; clear HO505; clear HB; have HO_5 := n0_; have HO_7 := n1_; have HO505 := n2_; have HO509 := n3_; have HB := n4_; clear n0_ n1_ n2_ n3_ n4_; (try clear hb); (try clear hb2); (try clear hk); (try clear hi); (try clear ho0)))
   (try simp only [Act.put, List.setIfInBounds_toArray, List.set_cons_zero, List.set_cons_succ])
   go_cut [77] (fun v77 wc => ∃ (kq : Nat) (x77_13 : Bool), v77 = .bool x77_13 ∧ Aside0 (sleuthlaw45_ChangepointLimits.j2 kq x7_2 t506 t507 x77_13 = some r) ∧ Aside0 (kq ≤ k2) ∧ Aside0 (Kd.R (Kd.int .i64) 3 wc w.heap.size (fun _ => True) (.slice Ao17 x7_2.length co17) x7_2) ∧ Aside0 (Kd.S (Kd.slice 3 (Kd.int .i64)) 26 wc w.heap.size (fun k_ => some k_ ≠ ((.slice Ao17 x7_2.length co17) : Value).ownBlock) v508 t506) ∧ Aside0 (Below w.heap.size w wc))
   case first =>
    have H := HC14.out
    clear HC14
    by_cases c19 : (x5_1.length : Int) > 256
    rotate_left
    ·rw [if_neg c19] at H
     have c19b0 : decide (256 < (x5_1.length : Int)) = false := decide_eq_false c19
     have c19b1 : decide (256 < x5_1.length) = false := decide_eq_false (by omega)
     clear c19
     (first | rw [c19b0] | (simp only [i64_w, i32_w]; rw [c19b0]) | skip)
     by_cases c28 : (x5_1.length : Int) ≤ 256
     rotate_left
     ·rw [if_neg c28] at H
      have c28b0 : decide ((x5_1.length : Int) ≤ 256) = false := decide_eq_false c28
      have c28b1 : decide (x5_1.length ≤ 256) = false := decide_eq_false (by omega)
      clear c28
      have H' := Aside0.mk H
      clear H
      go_wp2
      go_meet
      case rel => exact ⟨_, (false), qgsleuthlaw45changepointlimits_7, H', ⟨qgsleuthlaw45changepointlimits_5⟩, ⟨qgsleuthlaw45changepointlimits_1⟩, ⟨qgsleuthlaw45changepointlimits_2⟩, ⟨qgsleuthlaw45changepointlimits_0⟩⟩
     rw [if_pos c28] at H
     have c28b0 : decide ((x5_1.length : Int) ≤ 256) = true := decide_eq_true c28
     have c28b1 : decide (x5_1.length ≤ 256) = true := decide_eq_true (by omega)
     clear c28
     by_cases c29 : t503 = 0
     rotate_left
     ·rw [if_neg c29] at H
      have c29b0 : (t503 == 0) = false := beq_eq_false_iff_ne.mpr c29
      have c29b1 : (t503 != 0) = true := bne_iff_ne.mpr c29
      have H' := Aside0.mk H
      clear H
      go_wp2
      go_meet
      case rel => exact ⟨_, (true), qgsleuthlaw45changepointlimits_7, H', ⟨qgsleuthlaw45changepointlimits_5⟩, ⟨qgsleuthlaw45changepointlimits_1⟩, ⟨qgsleuthlaw45changepointlimits_2⟩, ⟨qgsleuthlaw45changepointlimits_0⟩⟩
     rw [if_pos c29] at H
     have c29b0 : (t503 == 0) = true := beq_iff_eq.mpr c29
     have c29b1 : (t503 != 0) = false := bne_eq_false_iff_eq.mpr c29
     clear c29
     have H' := Aside0.mk H
     clear H
     obtain ⟨Ao30, co30, eo30⟩ := Kd.R_slice HO505.out
     subst eo30
     go_wp2
     go_meet
     case rel => exact ⟨_, (((t502.length : Int) != (x5_1.length : Int))), qgsleuthlaw45changepointlimits_7, H', ⟨qgsleuthlaw45changepointlimits_5⟩, ⟨qgsleuthlaw45changepointlimits_1⟩, ⟨qgsleuthlaw45changepointlimits_2⟩, ⟨qgsleuthlaw45changepointlimits_0⟩⟩
    rw [if_pos c19] at H
    have c19b0 : decide (256 < (x5_1.length : Int)) = true := decide_eq_true c19
    have c19b1 : decide (256 < x5_1.length) = true := decide_eq_true (by omega)
    clear c19
    (first | rw [c19b0] | (simp only [i64_w, i32_w]; rw [c19b0]) | skip)
    by_cases c20 : t503 = 6
    rotate_left
    ·rw [if_neg c20] at H
     have c20b0 : (t503 == 6) = false := beq_eq_false_iff_ne.mpr c20
     have c20b1 : (t503 != 6) = true := bne_iff_ne.mpr c20
     have H' := Aside0.mk H
     clear H
     go_wp2
     go_meet
     case rel => exact ⟨_, (true), qgsleuthlaw45changepointlimits_7, H', ⟨qgsleuthlaw45changepointlimits_5⟩, ⟨qgsleuthlaw45changepointlimits_1⟩, ⟨qgsleuthlaw45changepointlimits_2⟩, ⟨qgsleuthlaw45changepointlimits_0⟩⟩
    rw [if_pos c20] at H
    have c20b0 : (t503 == 6) = true := beq_iff_eq.mpr c20
    have c20b1 : (t503 != 6) = false := bne_eq_false_iff_eq.mpr c20
    clear c20
    by_cases c21 : (t502.length : Int) > 0
    ·rw [if_pos c21] at H
     have c21b0 : decide (0 < (t502.length : Int)) = true := decide_eq_true c21
     have c21b1 : decide (0 < t502.length) = true := decide_eq_true (by omega)
     clear c21
     have H' := Aside0.mk H
     clear H
     obtain ⟨Ao22, co22, eo22⟩ := Kd.R_slice HO505.out
     subst eo22
     go_wp2
     go_meet
     case rel => exact ⟨_, (true), qgsleuthlaw45changepointlimits_7, H', ⟨qgsleuthlaw45changepointlimits_5⟩, ⟨qgsleuthlaw45changepointlimits_1⟩, ⟨qgsleuthlaw45changepointlimits_2⟩, ⟨qgsleuthlaw45changepointlimits_0⟩⟩
    rw [if_neg c21] at H
    have c21b0 : decide (0 < (t502.length : Int)) = false := decide_eq_false c21
    have c21b1 : decide (0 < t502.length) = false := decide_eq_false (by omega)
    clear c21
    by_cases c23 : (x5_1.length : Int) ≤ 256
    rotate_left
    ·rw [if_neg c23] at H
     have c23b0 : decide ((x5_1.length : Int) ≤ 256) = false := decide_eq_false c23
     have c23b1 : decide (x5_1.length ≤ 256) = false := decide_eq_false (by omega)
     clear c23
     have H' := Aside0.mk H
     clear H
     obtain ⟨Ao27, co27, eo27⟩ := Kd.R_slice HO505.out
     subst eo27
     go_wp2
     go_meet
     case rel => exact ⟨_, (false), qgsleuthlaw45changepointlimits_7, H', ⟨qgsleuthlaw45changepointlimits_5⟩, ⟨qgsleuthlaw45changepointlimits_1⟩, ⟨qgsleuthlaw45changepointlimits_2⟩, ⟨qgsleuthlaw45changepointlimits_0⟩⟩
    rw [if_pos c23] at H
    have c23b0 : decide ((x5_1.length : Int) ≤ 256) = true := decide_eq_true c23
    have c23b1 : decide (x5_1.length ≤ 256) = true := decide_eq_true (by omega)
    clear c23
    by_cases c24 : t503 = 0
    rotate_left
    ·rw [if_neg c24] at H
     have c24b0 : (t503 == 0) = false := beq_eq_false_iff_ne.mpr c24
     have c24b1 : (t503 != 0) = true := bne_iff_ne.mpr c24
     have H' := Aside0.mk H
     clear H
     obtain ⟨Ao26, co26, eo26⟩ := Kd.R_slice HO505.out
     subst eo26
     go_wp2
     go_meet
     case rel => exact ⟨_, (true), qgsleuthlaw45changepointlimits_7, H', ⟨qgsleuthlaw45changepointlimits_5⟩, ⟨qgsleuthlaw45changepointlimits_1⟩, ⟨qgsleuthlaw45changepointlimits_2⟩, ⟨qgsleuthlaw45changepointlimits_0⟩⟩
    rw [if_pos c24] at H
    have c24b0 : (t503 == 0) = true := beq_iff_eq.mpr c24
    have c24b1 : (t503 != 0) = false := bne_eq_false_iff_eq.mpr c24
    clear c24
    have H' := Aside0.mk H
    clear H
    obtain ⟨Ao25, co25, eo25⟩ := Kd.R_slice HO505.out
    subst eo25
    go_wp2
    go_meet
    case rel => exact ⟨_, (((t502.length : Int) != (x5_1.length : Int))), qgsleuthlaw45changepointlimits_7, H', ⟨qgsleuthlaw45changepointlimits_5⟩, ⟨qgsleuthlaw45changepointlimits_1⟩, ⟨qgsleuthlaw45changepointlimits_2⟩, ⟨qgsleuthlaw45changepointlimits_0⟩⟩
   clear HC14
   try clear c1
   try clear c2
   try clear p2
   try clear c4
   try clear c6
   try clear c6b0
   try clear p6
   try clear c7
   try clear c9
   try clear c9b0
   try clear c10
   try clear c11
   try clear c13
   try clear c19
   try clear c19b0
   try clear c19b1
   try clear c20
   try clear c20b0
   try clear c20b1
   try clear c21
   try clear c21b0
   try clear c21b1
   try clear c23
   try clear c23b0
   try clear c23b1
   try clear c24
   try clear c24b0
   try clear c24b1
   try clear c27
   try clear c28
   try clear c28b0
   try clear c28b1
   try clear c29
   try clear c29b0
   try clear c29b1
   try clear p2
   try clear p6
   obtain ⟨kq, x77_13, rfl, HA, HJ13, HO_7, HO_11, HB⟩ := hcut
   cases kq with
   | zero => exact absurd HA.out (by simp [sleuthlaw45_ChangepointLimits.j2])
   | succ kj13 =>
    have H := HA.out
    clear HA
    simp only [sleuthlaw45_ChangepointLimits.j2] at H
    by_cases c31 : x77_13 = true
    ·subst c31
     have H1 : (some false) = some r := by rw [if_pos rfl] at H; exact H
     clear H
     have H := H1
     clear H1
     obtain rfl := Option.some.inj H
     go_wp2
     go_ret
     exact ⟨qgsleuthlaw45changepointlimits_6, qgsleuthlaw45changepointlimits_0⟩
    replace c31 := Bool.eq_false_iff.mpr c31
    subst c31
    have H1 : (if (x7_2.length : Int) > 1024 then (if t507 = 6 then (some ((t506.length : Int) == 0)) else (some false)) else (if t507 = 0 then (some ((t506.length : Int) == (mn (x7_2.length : Int) 1))) else (some false))) = some r := by rw [if_neg (show ¬ (false = true) by decide)] at H; exact H
    clear H
    have H := H1
    clear H1
    by_cases c32 : (x7_2.length : Int) > 1024
    ·rw [if_pos c32] at H
     have c32b0 : decide (1024 < (x7_2.length : Int)) = true := decide_eq_true c32
     have c32b1 : decide (1024 < x7_2.length) = true := decide_eq_true (by omega)
     clear c32
     by_cases c33 : t507 = 6
     rotate_left
     ·rw [if_neg c33] at H
      have c33b0 : (t507 == 6) = false := beq_eq_false_iff_ne.mpr c33
      have c33b1 : (t507 != 6) = true := bne_iff_ne.mpr c33
      obtain rfl := Option.some.inj H
      go_wp2
      go_ret
      exact ⟨qgsleuthlaw45changepointlimits_6, qgsleuthlaw45changepointlimits_0⟩
     rw [if_pos c33] at H
     have c33b0 : (t507 == 6) = true := beq_iff_eq.mpr c33
     have c33b1 : (t507 != 6) = false := bne_eq_false_iff_eq.mpr c33
     clear c33
     obtain rfl := Option.some.inj H
     obtain ⟨Ao34, co34, eo34⟩ := Kd.S_slice HO_11.out
     subst eo34
     go_wp2
     go_ret
     exact ⟨qgsleuthlaw45changepointlimits_6, qgsleuthlaw45changepointlimits_0⟩
    rw [if_neg c32] at H
    have c32b0 : decide (1024 < (x7_2.length : Int)) = false := decide_eq_false c32
    have c32b1 : decide (1024 < x7_2.length) = false := decide_eq_false (by omega)
    clear c32
    by_cases c35 : t507 = 0
    rotate_left
    ·rw [if_neg c35] at H
     have c35b0 : (t507 == 0) = false := beq_eq_false_iff_ne.mpr c35
     have c35b1 : (t507 != 0) = true := bne_iff_ne.mpr c35
     obtain rfl := Option.some.inj H
     go_wp2
     go_ret
     exact ⟨qgsleuthlaw45changepointlimits_6, qgsleuthlaw45changepointlimits_0⟩
    rw [if_pos c35] at H
    have c35b0 : (t507 == 0) = true := beq_iff_eq.mpr c35
    have c35b1 : (t507 != 0) = false := bne_eq_false_iff_eq.mpr c35
    clear c35
    obtain ⟨ji36, hji36⟩ : ∃ j_ : Int, (mn (x7_2.length : Int) 1) = j_ := ⟨_, rfl⟩
    replace H : (some ((t506.length : Int) == (ji36))) = some r := by first | (rw [hji36] at H; exact H) | (simp only [hji36] at H ⊢; exact H)
    have hji36_ : (if 1 < (x7_2.length : Int) then 1 else (x7_2.length : Int)) = ji36 := hji36
    obtain rfl := Option.some.inj H
    obtain ⟨Ao37, co37, eo37⟩ := Kd.S_slice HO_11.out
    subst eo37
    go_wp2
    go_ret
    exact ⟨by first | rfl | (simp [errW_none, errW_some] <;> rfl) | (simp only [← hji36]; first | rfl | (simp [errW_none, errW_some] <;> rfl)) | (simp [*, errW_none, errW_some] <;> rfl), qgsleuthlaw45changepointlimits_0⟩

/-- THE ONE PURE STATEMENT of sleuthlaw45_ChangepointLimits: yours. -/
def sleuthlaw45_ChangepointLimits.Pure : Prop := ∀ (a0 : Int) (a1 : Int), (Lit.int .u16 a0).wf = true → (Lit.int .u16 a1).wf = true → ∃ k, sleuthlaw45_ChangepointLimits.f k a0 a1 = some true
theorem sleuthlaw45_ChangepointLimits.walk (P : sleuthlaw45_ChangepointLimits.Pure) (a0 : Int) (a1 : Int) (w : World) (w0 : (Lit.int .u16 a0).wf = true) (w1 : (Lit.int .u16 a1).wf = true) :
  Calls Try.prog 11 #[.int .u16 a0, .int .u16 a1] w fun e w' => e = .returned (.bool true) ∧ Below w.heap.size w w' := by
 obtain ⟨k, h⟩ := P a0 a1 w0 w1
 refine (sleuthlaw45_ChangepointLimits.calls k a0 a1 true w h).mono ?_
 rintro e w' ⟨rfl, hd⟩
 exact ⟨rfl, hd⟩

end Go.Proofs.Ytcjgmofgfblmnaa.Q
