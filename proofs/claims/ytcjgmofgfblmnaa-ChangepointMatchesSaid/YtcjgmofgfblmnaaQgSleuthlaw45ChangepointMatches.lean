-- Laid by myprint.py (a program of this session's, over the kit's printer and with functions proved by hand)
import Derived.Test.YtcjgmofgfblmnaaTy
import Derived.Test.YtcjgmofgfblmnaaQgKnown
import Derived.Test.YtcjgmofgfblmnaaQgHlp
import Derived.Test.YtcjgmofgfblmnaaQgSleuthlaw45Match
namespace Go.Proofs.Ytcjgmofgfblmnaa.Q
open Go.RowKit Go.Proofs.YtcjgmofgfblmnaaW.PrintWords Go.Proofs.YtcjgmofgfblmnaaW.PrintLast Go.Proofs.YtcjgmofgfblmnaaW.PrintMore
attribute [local go_sem] max2_int min2_int max_two min_two max_three min_three max_four min_four   -- for this text's walks alone
set_option linter.unusedVariables false
set_option linter.unusedSimpArgs false

attribute [local go_sem high] eqA58
theorem qgsleuthlaw45changepointmatches_0 {p : Prop} (h : p := by repeat (first | (with_reducible first | exact HB.out | apply below_alloc | apply pw_below_drewN | apply below_drew1) | exact HB.out)) : p := h
theorem qgsleuthlaw45changepointmatches_1 {p : Prop} (h : p := by (with_reducible repeat (first | apply Kd.R_alloc | apply Kd.R_drewN | apply Kd.R_drew)); exact HO_9.out) : p := h
theorem qgsleuthlaw45changepointmatches_2 {p : Prop} (h : p := by (with_reducible repeat (first | apply Kd.R_alloc | apply Kd.R_drewN | apply Kd.R_drew)); exact HO554.out) : p := h
theorem qgsleuthlaw45changepointmatches_3 {p : Prop} (h : p := by (with_reducible repeat (first | apply Kd.R_alloc | apply Kd.R_drewN | apply Kd.R_drew)); exact HO_7.out) : p := h
theorem qgsleuthlaw45changepointmatches_4 {p : Prop} (h : p := by (with_reducible repeat (first | apply Kd.R_alloc | apply Kd.R_drewN | apply Kd.R_drew)); exact HO_8.out) : p := h
theorem qgsleuthlaw45changepointmatches_5 {p : Prop} (h : p := by first | rfl | (simp [errW_none, errW_some] <;> rfl) | (simp [*, errW_none, errW_some] <;> rfl)) : p := h
theorem qgsleuthlaw45changepointmatches_6 {p : Prop} (h : p := by repeat (first | exact (Kd.C_below HR0.out HB.out) | (with_reducible refine Kd.C_alloc ?_ _) | (with_reducible refine Kd.C_drewN ?_ _) | (with_reducible refine Kd.C_drew ?_))) : p := h
theorem qgsleuthlaw45changepointmatches_7 {p : Prop} (h : p := by repeat (first | exact (Kd.C_below HR1.out HB.out) | (with_reducible refine Kd.C_alloc ?_ _) | (with_reducible refine Kd.C_drewN ?_ _) | (with_reducible refine Kd.C_drew ?_))) : p := h
theorem qgsleuthlaw45changepointmatches_8 {p : Prop} (h : p := by repeat (first | exact (Kd.R_reads' HO554.out).2.2 | (with_reducible refine Kd.C_alloc ?_ _) | (with_reducible refine Kd.C_drewN ?_ _) | (with_reducible refine Kd.C_drew ?_))) : p := h
theorem qgsleuthlaw45changepointmatches_9 {p : Prop} (h : p := by repeat (first | exact (Kd.R_reads' HO557.out).2.2 | (with_reducible refine Kd.C_alloc ?_ _) | (with_reducible refine Kd.C_drewN ?_ _) | (with_reducible refine Kd.C_drew ?_))) : p := h
theorem qgsleuthlaw45changepointmatches_10 {p : Prop} (h : p := by repeat (first | exact (Kd.R_reads' HO_7.out).2.2 | (with_reducible refine Kd.C_alloc ?_ _) | (with_reducible refine Kd.C_drewN ?_ _) | (with_reducible refine Kd.C_drew ?_))) : p := h
theorem qgsleuthlaw45changepointmatches_11 {p : Prop} (h : p := by repeat (first | exact (Kd.R_reads' HO_8.out).2.2 | (with_reducible refine Kd.C_alloc ?_ _) | (with_reducible refine Kd.C_drewN ?_ _) | (with_reducible refine Kd.C_drew ?_))) : p := h
/-! ### sleuthlaw45_ChangepointMatches: function 7 -/
mutual
def sleuthlaw45_ChangepointMatches.j0 : Nat → Int → List (S41) → List (S41) → List (S58) → Int → Bool → Option (Bool)
 | 0, _, _, _, _, _, _ => none
 | k + 1, x2, x7, x8, x9, x10, x31 => if x31 = true then (if x10 = 2 then (some ((x9.length : Int) == 0)) else (some false)) else ((sleuthlaw45_match.f k x7 x8 x2 0 0 ([] : List (S58))).bind fun t562 => (if x10 = 0 then (sleuthlaw45_ChangepointMatches.j1 k x9 t562 ((x9.length : Int) != (t562.length : Int))) else (sleuthlaw45_ChangepointMatches.j1 k x9 t562 true)))
def sleuthlaw45_ChangepointMatches.j1 : Nat → List (S58) → List (S58) → Bool → Option (Bool)
 | 0, _, _, _ => none
 | k + 1, x9, x11, x51 => if x51 = true then (some false) else (sleuthlaw45_ChangepointMatches.l0 k x9 x11 0)
def sleuthlaw45_ChangepointMatches.l0 : Nat → List (S58) → List (S58) → Int → Option (Bool)
 | 0, _, _, _ => none
 | k + 1, x9, x11, x12 => if x12 < (x9.length : Int) then (if 0 ≤ x12 then (if x12 < (x11.length : Int) then (if (!(((rd_T58 x9 x12).f0) == ((rd_T58 x11 x12).f0)) || (!(((rd_T58 x9 x12).f1) == ((rd_T58 x11 x12).f1)))) = true then (some false) else (sleuthlaw45_ChangepointMatches.l0 k x9 x11 (wrap64 (x12 + 1)))) else (none)) else (none)) else (some true)
end
def sleuthlaw45_ChangepointMatches.f (k : Nat) (l0 : List (S92)) (l1 : List (S92)) (a2 : Int) : Option (Bool) := (sleuthlaw45_known.f k).bind fun t551 => (if t551 = true then ((sleuthlaw45_changes.f k l0).bind fun t552 => ((sleuthlaw45_changes.f k l1).bind fun t555 => ((changepoint_Match.f t552 t555 a2).bind fun bt558 => (if a2 < 0 then (sleuthlaw45_ChangepointMatches.j0 k a2 t552 t555 bt558.1 bt558.2 true) else (sleuthlaw45_ChangepointMatches.j0 k a2 t552 t555 bt558.1 bt558.2 (decide (a2 > 1048576))))))) else (some false))
theorem sleuthlaw45_ChangepointMatches.mono_l : ∀ k, (∀ y0 y1 y2 y3 y4 y5, LeO (sleuthlaw45_ChangepointMatches.j0 k y0 y1 y2 y3 y4 y5) (sleuthlaw45_ChangepointMatches.j0 (k + 1) y0 y1 y2 y3 y4 y5)) ∧ (∀ y0 y1 y2, LeO (sleuthlaw45_ChangepointMatches.j1 k y0 y1 y2) (sleuthlaw45_ChangepointMatches.j1 (k + 1) y0 y1 y2)) ∧ (∀ y0 y1 y2, LeO (sleuthlaw45_ChangepointMatches.l0 k y0 y1 y2) (sleuthlaw45_ChangepointMatches.l0 (k + 1) y0 y1 y2))
 | 0 => ⟨fun _ _ _ _ _ _ r h => by simp [sleuthlaw45_ChangepointMatches.j0] at h, fun _ _ _ r h => by simp [sleuthlaw45_ChangepointMatches.j1] at h, fun _ _ _ r h => by simp [sleuthlaw45_ChangepointMatches.l0] at h⟩
 | k + 1 => by
  obtain ⟨ih0, ih1, ih2⟩ := sleuthlaw45_ChangepointMatches.mono_l k
  refine ⟨?_, ?_, ?_⟩
  ·intro y0 y1 y2 y3 y4 y5
   unfold sleuthlaw45_ChangepointMatches.j0
   repeat' first
   | (with_reducible exact ih0 _ _ _ _ _ _)
   | (with_reducible exact ih1 _ _ _)
   | (with_reducible exact ih2 _ _ _)
   | (with_reducible exact sleuthlaw45_changes.mono _ _)
   | (with_reducible exact sleuthlaw45_known.mono _)
   | (with_reducible exact sleuthlaw45_match.mono _ _ _ _ _ _ _)
   | (with_reducible exact LeO.refl _)
   | (with_reducible exact LeO.none _)
   | (with_reducible refine LeO.ite ?_ ?_)
   | (with_reducible refine LeO.bind ?_ (fun _ => ?_))
   | exact ih0 _ _ _ _ _ _
   | exact ih1 _ _ _
   | exact ih2 _ _ _
   | exact sleuthlaw45_changes.mono _ _
   | exact sleuthlaw45_known.mono _
   | exact sleuthlaw45_match.mono _ _ _ _ _ _ _
   | exact LeO.none _
   | refine LeO.ite ?_ ?_
   | refine LeO.bind ?_ (fun _ => ?_)
  ·intro y0 y1 y2
   unfold sleuthlaw45_ChangepointMatches.j1
   repeat' first
   | (with_reducible exact ih0 _ _ _ _ _ _)
   | (with_reducible exact ih1 _ _ _)
   | (with_reducible exact ih2 _ _ _)
   | (with_reducible exact sleuthlaw45_changes.mono _ _)
   | (with_reducible exact sleuthlaw45_known.mono _)
   | (with_reducible exact sleuthlaw45_match.mono _ _ _ _ _ _ _)
   | (with_reducible exact LeO.refl _)
   | (with_reducible exact LeO.none _)
   | (with_reducible refine LeO.ite ?_ ?_)
   | (with_reducible refine LeO.bind ?_ (fun _ => ?_))
   | exact ih0 _ _ _ _ _ _
   | exact ih1 _ _ _
   | exact ih2 _ _ _
   | exact sleuthlaw45_changes.mono _ _
   | exact sleuthlaw45_known.mono _
   | exact sleuthlaw45_match.mono _ _ _ _ _ _ _
   | exact LeO.none _
   | refine LeO.ite ?_ ?_
   | refine LeO.bind ?_ (fun _ => ?_)
  ·intro y0 y1 y2
   unfold sleuthlaw45_ChangepointMatches.l0
   repeat' first
   | (with_reducible exact ih0 _ _ _ _ _ _)
   | (with_reducible exact ih1 _ _ _)
   | (with_reducible exact ih2 _ _ _)
   | (with_reducible exact sleuthlaw45_changes.mono _ _)
   | (with_reducible exact sleuthlaw45_known.mono _)
   | (with_reducible exact sleuthlaw45_match.mono _ _ _ _ _ _ _)
   | (with_reducible exact LeO.refl _)
   | (with_reducible exact LeO.none _)
   | (with_reducible refine LeO.ite ?_ ?_)
   | (with_reducible refine LeO.bind ?_ (fun _ => ?_))
   | exact ih0 _ _ _ _ _ _
   | exact ih1 _ _ _
   | exact ih2 _ _ _
   | exact sleuthlaw45_changes.mono _ _
   | exact sleuthlaw45_known.mono _
   | exact sleuthlaw45_match.mono _ _ _ _ _ _ _
   | exact LeO.none _
   | refine LeO.ite ?_ ?_
   | refine LeO.bind ?_ (fun _ => ?_)
theorem sleuthlaw45_ChangepointMatches.mono : ∀ a0 a1 a2 k, LeO (sleuthlaw45_ChangepointMatches.f k a0 a1 a2) (sleuthlaw45_ChangepointMatches.f (k + 1) a0 a1 a2) := by
 intro a0 a1 a2 k
 obtain ⟨ih0, ih1, ih2⟩ := sleuthlaw45_ChangepointMatches.mono_l k
 unfold sleuthlaw45_ChangepointMatches.f
 repeat' first
   | (with_reducible exact ih0 _ _ _ _ _ _)
   | (with_reducible exact ih1 _ _ _)
   | (with_reducible exact ih2 _ _ _)
   | (with_reducible exact sleuthlaw45_changes.mono _ _)
   | (with_reducible exact sleuthlaw45_known.mono _)
   | (with_reducible exact sleuthlaw45_match.mono _ _ _ _ _ _ _)
   | (with_reducible exact LeO.refl _)
   | (with_reducible exact LeO.none _)
   | (with_reducible refine LeO.ite ?_ ?_)
   | (with_reducible refine LeO.bind ?_ (fun _ => ?_))
   | exact ih0 _ _ _ _ _ _
   | exact ih1 _ _ _
   | exact ih2 _ _ _
   | exact sleuthlaw45_changes.mono _ _
   | exact sleuthlaw45_known.mono _
   | exact sleuthlaw45_match.mono _ _ _ _ _ _ _
   | exact LeO.none _
   | refine LeO.ite ?_ ?_
   | refine LeO.bind ?_ (fun _ => ?_)
set_option maxHeartbeats 8000000 in
set_option maxRecDepth 100000 in
theorem sleuthlaw45_ChangepointMatches.calls (k : Nat) (A0 : Option Addr) (c0 : Nat) (l0 : List (S92)) (A1 : Option Addr) (c1 : Nat) (l1 : List (S92)) (a2 : Int) (r : Bool) (w : World) (hr0 : Kd.C k92 w A0 l0.length l0) (hc0 : l0.length ≤ c0) (hr1 : Kd.C k92 w A1 l1.length l1) (hc1 : l1.length ≤ c1) (h : sleuthlaw45_ChangepointMatches.f k l0 l1 a2 = some r) :
  Calls Try.prog 7 #[.slice A0 l0.length c0, .slice A1 l1.length c1, .int .i64 a2] w fun e w' => e = .returned (.bool r) ∧ Below w.heap.size w w' := by
 have hu58 := Try.underlying58
 have HR0 := Aside0.mk hr0
 have HC0 := Aside0.mk hc0
 clear hr0 hc0
 have HR1 := Aside0.mk hr1
 have HC1 := Aside0.mk hc1
 clear hr1 hc1
 have HB := Aside0.mk (Below.refl w.heap.size w)
 have H : ((sleuthlaw45_known.f k).bind fun t551 => (if t551 = true then ((sleuthlaw45_changes.f k l0).bind fun t552 => ((sleuthlaw45_changes.f k l1).bind fun t555 => ((changepoint_Match.f t552 t555 a2).bind fun bt558 => (if a2 < 0 then (sleuthlaw45_ChangepointMatches.j0 k a2 t552 t555 bt558.1 bt558.2 true) else (sleuthlaw45_ChangepointMatches.j0 k a2 t552 t555 bt558.1 bt558.2 (decide (a2 > 1048576))))))) else (some false))) = some r := h
 clear h
 replace H := Option.bind_eq_some_iff.mp H
 obtain ⟨t551, A40, H⟩ := H
 replace H : (if t551 = true then ((sleuthlaw45_changes.f k l0).bind fun t552 => ((sleuthlaw45_changes.f k l1).bind fun t555 => ((changepoint_Match.f t552 t555 a2).bind fun bt558 => (if a2 < 0 then (sleuthlaw45_ChangepointMatches.j0 k a2 t552 t555 bt558.1 bt558.2 true) else (sleuthlaw45_ChangepointMatches.j0 k a2 t552 t555 bt558.1 bt558.2 (decide (a2 > 1048576))))))) else (some false)) = some r := H
 have A4 := Aside0.mk A40
 clear A40
 by_cases c5 : t551 = true
 ·subst c5
  have H1 : ((sleuthlaw45_changes.f k l0).bind fun t552 => ((sleuthlaw45_changes.f k l1).bind fun t555 => ((changepoint_Match.f t552 t555 a2).bind fun bt558 => (if a2 < 0 then (sleuthlaw45_ChangepointMatches.j0 k a2 t552 t555 bt558.1 bt558.2 true) else (sleuthlaw45_ChangepointMatches.j0 k a2 t552 t555 bt558.1 bt558.2 (decide (a2 > 1048576))))))) = some r := by rw [if_pos rfl] at H; exact H
  clear H
  have H := H1
  clear H1
  replace H := Option.bind_eq_some_iff.mp H
  obtain ⟨t552, A60, H⟩ := H
  replace H : ((sleuthlaw45_changes.f k l1).bind fun t555 => ((changepoint_Match.f t552 t555 a2).bind fun bt558 => (if a2 < 0 then (sleuthlaw45_ChangepointMatches.j0 k a2 t552 t555 bt558.1 bt558.2 true) else (sleuthlaw45_ChangepointMatches.j0 k a2 t552 t555 bt558.1 bt558.2 (decide (a2 > 1048576)))))) = some r := H
  have A6 := Aside0.mk A60
  clear A60
  replace H := Option.bind_eq_some_iff.mp H
  obtain ⟨t555, A70, H⟩ := H
  replace H : ((changepoint_Match.f t552 t555 a2).bind fun bt558 => (if a2 < 0 then (sleuthlaw45_ChangepointMatches.j0 k a2 t552 t555 bt558.1 bt558.2 true) else (sleuthlaw45_ChangepointMatches.j0 k a2 t552 t555 bt558.1 bt558.2 (decide (a2 > 1048576))))) = some r := H
  have A7 := Aside0.mk A70
  clear A70
  replace H := Option.bind_eq_some_iff.mp H
  obtain ⟨⟨t558, t559⟩, A80, H⟩ := H
  replace H : (if a2 < 0 then (sleuthlaw45_ChangepointMatches.j0 k a2 t552 t555 t558 t559 true) else (sleuthlaw45_ChangepointMatches.j0 k a2 t552 t555 t558 t559 (decide (a2 > 1048576)))) = some r := H
  have A8 := Aside0.mk A80
  clear A80
  have HC9 := Aside0.mk H
  clear H
  go_enter Try.func7, Try.ntmps7
  go_upto_region 5 with (first | (go_at_call 13; (with_reducible refine (sleuthlaw45_known.calls k  true _ A4.out).mono ?_); rintro e w10 ⟨rfl, hb⟩; have n0_ := Aside0.mk (below_step qgsleuthlaw45changepointmatches_0 hb); clear HB; have HB := n0_; clear n0_; (try clear hb); (try clear hb2); (try clear hk); (try clear hi)) | (go_at_call 22; (with_reducible refine (sleuthlaw45_changes.calls k _ _ l0 t552 _ ?side1 ?side2 A6.out).mono ?_); (case side1 => exact qgsleuthlaw45changepointmatches_6); (case side2 => exact HC0.out); rintro e w11 ⟨v553, rfl, ho0, hb⟩; have n0_ := Aside0.mk (Kd.R_lower ho0 (below_size qgsleuthlaw45changepointmatches_0)); have n1_ := Aside0.mk (below_step qgsleuthlaw45changepointmatches_0 hb); clear HB; have HO554 := n0_; have HB := n1_; clear n0_ n1_; (try clear hb); (try clear hb2); (try clear hk); (try clear hi); (try clear ho0)) | (go_at_call 22; (with_reducible refine (sleuthlaw45_changes.calls k _ _ l1 t555 _ ?side1 ?side2 A7.out).mono ?_); (case side1 => exact qgsleuthlaw45changepointmatches_7); (case side2 => exact HC1.out); rintro e w12 ⟨v556, rfl, ho0, hb⟩; have n0_ := Aside0.mk (Kd.R_elder' qgsleuthlaw45changepointmatches_2 (Kd.R_base ho0) hb); have n1_ := Aside0.mk (Kd.R_lower (Kd.R_new' ho0 (Kd.R_lt qgsleuthlaw45changepointmatches_2)) (below_size qgsleuthlaw45changepointmatches_0)); have n2_ := Aside0.mk (below_step qgsleuthlaw45changepointmatches_0 hb); clear HO554; clear HB; have HO554 := n0_; have HO557 := n1_; have HB := n2_; clear n0_ n1_ n2_; (try clear hb); (try clear hb2); (try clear hk); (try clear hi); (try clear ho0); obtain ⟨Ao13, co13, eo13⟩ := Kd.R_slice HO554.out; subst eo13; obtain ⟨Ao14, co14, eo14⟩ := Kd.R_slice HO557.out; subst eo14) | (go_at_call 23; (with_reducible refine (changepoint_Match.calls _ _ t552 _ _ t555 a2 t558 t559 _ ?side1 ?side2 ?side3 ?side4 A8.out).mono ?_); (case side1 => exact qgsleuthlaw45changepointmatches_8); (case side2 => exact (Kd.R_reads' HO554.out).2.1); (case side3 => exact qgsleuthlaw45changepointmatches_9); (case side4 => exact (Kd.R_reads' HO557.out).2.1); rintro e w15 ⟨v560, rfl, ho0, hb⟩; have n0_ := Aside0.mk (Kd.R_below qgsleuthlaw45changepointmatches_2 hb); have n1_ := Aside0.mk (Kd.R_below (by (with_reducible repeat (first | apply Kd.R_alloc | apply Kd.R_drewN | apply Kd.R_drew)); exact HO557.out) hb); have n2_ := Aside0.mk (Kd.R_lower ho0 (below_size qgsleuthlaw45changepointmatches_0)); have n3_ := Aside0.mk (below_step qgsleuthlaw45changepointmatches_0 hb); clear HO554; clear HO557; clear HB; have HO554 := n0_; have HO557 := n1_; have HO561 := n2_; have HB := n3_; clear n0_ n1_ n2_ n3_; (try clear hb); (try clear hb2); (try clear hk); (try clear hi); (try clear ho0)))
  repeat (go_quiet (first | (go_at_call 13; (with_reducible refine (sleuthlaw45_known.calls k  true _ A4.out).mono ?_); rintro e w10 ⟨rfl, hb⟩; have n0_ := Aside0.mk (below_step qgsleuthlaw45changepointmatches_0 hb); clear HB; have HB := n0_; clear n0_; (try clear hb); (try clear hb2); (try clear hk); (try clear hi)) | (go_at_call 22; (with_reducible refine (sleuthlaw45_changes.calls k _ _ l0 t552 _ ?side1 ?side2 A6.out).mono ?_); (case side1 => exact qgsleuthlaw45changepointmatches_6); (case side2 => exact HC0.out); rintro e w11 ⟨v553, rfl, ho0, hb⟩; have n0_ := Aside0.mk (Kd.R_lower ho0 (below_size qgsleuthlaw45changepointmatches_0)); have n1_ := Aside0.mk (below_step qgsleuthlaw45changepointmatches_0 hb); clear HB; have HO554 := n0_; have HB := n1_; clear n0_ n1_; (try clear hb); (try clear hb2); (try clear hk); (try clear hi); (try clear ho0)) | (go_at_call 22; (with_reducible refine (sleuthlaw45_changes.calls k _ _ l1 t555 _ ?side1 ?side2 A7.out).mono ?_); (case side1 => exact qgsleuthlaw45changepointmatches_7); (case side2 => exact HC1.out); rintro e w12 ⟨v556, rfl, ho0, hb⟩; have n0_ := Aside0.mk (Kd.R_elder' qgsleuthlaw45changepointmatches_2 (Kd.R_base ho0) hb); have n1_ := Aside0.mk (Kd.R_lower (Kd.R_new' ho0 (Kd.R_lt qgsleuthlaw45changepointmatches_2)) (below_size qgsleuthlaw45changepointmatches_0)); have n2_ := Aside0.mk (below_step qgsleuthlaw45changepointmatches_0 hb); clear HO554; clear HB; have HO554 := n0_; have HO557 := n1_; have HB := n2_; clear n0_ n1_ n2_; (try clear hb); (try clear hb2); (try clear hk); (try clear hi); (try clear ho0); obtain ⟨Ao13, co13, eo13⟩ := Kd.R_slice HO554.out; subst eo13; obtain ⟨Ao14, co14, eo14⟩ := Kd.R_slice HO557.out; subst eo14) | (go_at_call 23; (with_reducible refine (changepoint_Match.calls _ _ t552 _ _ t555 a2 t558 t559 _ ?side1 ?side2 ?side3 ?side4 A8.out).mono ?_); (case side1 => exact qgsleuthlaw45changepointmatches_8); (case side2 => exact (Kd.R_reads' HO554.out).2.1); (case side3 => exact qgsleuthlaw45changepointmatches_9); (case side4 => exact (Kd.R_reads' HO557.out).2.1); rintro e w15 ⟨v560, rfl, ho0, hb⟩; have n0_ := Aside0.mk (Kd.R_below qgsleuthlaw45changepointmatches_2 hb); have n1_ := Aside0.mk (Kd.R_below (by (with_reducible repeat (first | apply Kd.R_alloc | apply Kd.R_drewN | apply Kd.R_drew)); exact HO557.out) hb); have n2_ := Aside0.mk (Kd.R_lower ho0 (below_size qgsleuthlaw45changepointmatches_0)); have n3_ := Aside0.mk (below_step qgsleuthlaw45changepointmatches_0 hb); clear HO554; clear HO557; clear HB; have HO554 := n0_; have HO557 := n1_; have HO561 := n2_; have HB := n3_; clear n0_ n1_ n2_ n3_; (try clear hb); (try clear hb2); (try clear hk); (try clear hi); (try clear ho0))); go_upto_region 5 with (first | (go_at_call 13; (with_reducible refine (sleuthlaw45_known.calls k  true _ A4.out).mono ?_); rintro e w10 ⟨rfl, hb⟩; have n0_ := Aside0.mk (below_step qgsleuthlaw45changepointmatches_0 hb); clear HB; have HB := n0_; clear n0_; (try clear hb); (try clear hb2); (try clear hk); (try clear hi)) | (go_at_call 22; (with_reducible refine (sleuthlaw45_changes.calls k _ _ l0 t552 _ ?side1 ?side2 A6.out).mono ?_); (case side1 => exact qgsleuthlaw45changepointmatches_6); (case side2 => exact HC0.out); rintro e w11 ⟨v553, rfl, ho0, hb⟩; have n0_ := Aside0.mk (Kd.R_lower ho0 (below_size qgsleuthlaw45changepointmatches_0)); have n1_ := Aside0.mk (below_step qgsleuthlaw45changepointmatches_0 hb); clear HB; have HO554 := n0_; have HB := n1_; clear n0_ n1_; (try clear hb); (try clear hb2); (try clear hk); (try clear hi); (try clear ho0)) | (go_at_call 22; (with_reducible refine (sleuthlaw45_changes.calls k _ _ l1 t555 _ ?side1 ?side2 A7.out).mono ?_); (case side1 => exact qgsleuthlaw45changepointmatches_7); (case side2 => exact HC1.out); rintro e w12 ⟨v556, rfl, ho0, hb⟩; have n0_ := Aside0.mk (Kd.R_elder' qgsleuthlaw45changepointmatches_2 (Kd.R_base ho0) hb); have n1_ := Aside0.mk (Kd.R_lower (Kd.R_new' ho0 (Kd.R_lt qgsleuthlaw45changepointmatches_2)) (below_size qgsleuthlaw45changepointmatches_0)); have n2_ := Aside0.mk (below_step qgsleuthlaw45changepointmatches_0 hb); clear HO554; clear HB; have HO554 := n0_; have HO557 := n1_; have HB := n2_; clear n0_ n1_ n2_; (try clear hb); (try clear hb2); (try clear hk); (try clear hi); (try clear ho0); obtain ⟨Ao13, co13, eo13⟩ := Kd.R_slice HO554.out; subst eo13; obtain ⟨Ao14, co14, eo14⟩ := Kd.R_slice HO557.out; subst eo14) | (go_at_call 23; (with_reducible refine (changepoint_Match.calls _ _ t552 _ _ t555 a2 t558 t559 _ ?side1 ?side2 ?side3 ?side4 A8.out).mono ?_); (case side1 => exact qgsleuthlaw45changepointmatches_8); (case side2 => exact (Kd.R_reads' HO554.out).2.1); (case side3 => exact qgsleuthlaw45changepointmatches_9); (case side4 => exact (Kd.R_reads' HO557.out).2.1); rintro e w15 ⟨v560, rfl, ho0, hb⟩; have n0_ := Aside0.mk (Kd.R_below qgsleuthlaw45changepointmatches_2 hb); have n1_ := Aside0.mk (Kd.R_below (by (with_reducible repeat (first | apply Kd.R_alloc | apply Kd.R_drewN | apply Kd.R_drew)); exact HO557.out) hb); have n2_ := Aside0.mk (Kd.R_lower ho0 (below_size qgsleuthlaw45changepointmatches_0)); have n3_ := Aside0.mk (below_step qgsleuthlaw45changepointmatches_0 hb); clear HO554; clear HO557; clear HB; have HO554 := n0_; have HO557 := n1_; have HO561 := n2_; have HB := n3_; clear n0_ n1_ n2_ n3_; (try clear hb); (try clear hb2); (try clear hk); (try clear hi); (try clear ho0))))
  (try simp only [Act.put, List.setIfInBounds_toArray, List.set_cons_zero, List.set_cons_succ])
  go_cut [31] (fun v31 wc => ∃ (kq : Nat) (x31_8 : Bool), v31 = .bool x31_8 ∧ Aside0 (sleuthlaw45_ChangepointMatches.j0 kq a2 t552 t555 t558 t559 x31_8 = some r) ∧ Aside0 (kq ≤ k) ∧ Aside0 (Kd.R k41 41 wc w.heap.size (fun k_ => some k_ ≠ ((.slice Ao14 t555.length co14) : Value).ownBlock) (.slice Ao13 t552.length co13) t552) ∧ Aside0 (Kd.R k41 41 wc w.heap.size (fun k_ => some k_ ≠ ((.slice Ao13 t552.length co13) : Value).ownBlock) (.slice Ao14 t555.length co14) t555) ∧ Aside0 (Kd.R k58 58 wc w.heap.size (fun _ => True) v560 t558) ∧ Aside0 (Below w.heap.size w wc))
  case first =>
   have H := HC9.out
   clear HC9
   by_cases c16 : a2 < 0
   ·rw [if_pos c16] at H
    have c16b0 : decide (a2 < 0) = true := decide_eq_true c16
    clear c16
    (first | rw [c16b0] | (simp only [i64_w, i32_w]; rw [c16b0]) | skip)
    have H' := Aside0.mk H
    clear H
    go_wp2
    repeat (go_quiet (fail); try go_wp2)
    go_meet
    case rel => exact ⟨_, (true), (by first | rfl | (simp; done) | (simp [*]; done)), H', ⟨by first | omega | exact Nat.le_refl _⟩, ⟨by (with_reducible repeat (first | apply Kd.R_alloc | apply Kd.R_drewN | apply Kd.R_drew)); exact Kd.R_mono HO554.out (fun _ hk => hk.2)⟩, ⟨by (with_reducible repeat (first | apply Kd.R_alloc | apply Kd.R_drewN | apply Kd.R_drew)); exact Kd.R_mono HO557.out (fun _ hk => hk.2)⟩, ⟨by (with_reducible repeat (first | apply Kd.R_alloc | apply Kd.R_drewN | apply Kd.R_drew)); exact HO561.out⟩, ⟨qgsleuthlaw45changepointmatches_0⟩⟩
   ·rw [if_neg c16] at H
    have c16b0 : decide (a2 < 0) = false := decide_eq_false c16
    clear c16
    (first | rw [c16b0] | (simp only [i64_w, i32_w]; rw [c16b0]) | skip)
    have H' := Aside0.mk H
    clear H
    go_wp2
    repeat (go_quiet (fail); try go_wp2)
    go_meet
    case rel => exact ⟨_, (decide (a2 > 1048576)), (by first | rfl | (simp; done) | (simp [*]; done)), H', ⟨by first | omega | exact Nat.le_refl _⟩, ⟨by (with_reducible repeat (first | apply Kd.R_alloc | apply Kd.R_drewN | apply Kd.R_drew)); exact Kd.R_mono HO554.out (fun _ hk => hk.2)⟩, ⟨by (with_reducible repeat (first | apply Kd.R_alloc | apply Kd.R_drewN | apply Kd.R_drew)); exact Kd.R_mono HO557.out (fun _ hk => hk.2)⟩, ⟨by (with_reducible repeat (first | apply Kd.R_alloc | apply Kd.R_drewN | apply Kd.R_drew)); exact HO561.out⟩, ⟨qgsleuthlaw45changepointmatches_0⟩⟩
  case rest =>
   clear HC9
   try clear c1
   try clear p2
   try clear c5
   try clear c7
   try clear c16
   try clear c16b0
   obtain ⟨kq, x31_8, rfl, HA, HJ8, HO_7, HO_8, HO_9, HB⟩ := hcut
   cases kq with
   | zero => exact absurd HA.out (by simp [sleuthlaw45_ChangepointMatches.j0])
   | succ kj8 =>
    have H := HA.out
    clear HA
    simp only [sleuthlaw45_ChangepointMatches.j0] at H
    by_cases c17 : x31_8 = true
    ·subst c17
     have H1 : (if t559 = 2 then (some ((t558.length : Int) == 0)) else (some false)) = some r := by rw [if_pos rfl] at H; exact H
     clear H
     have H := H1
     clear H1
     by_cases c18 : t559 = 2
     ·rw [if_pos c18] at H
      have c18b0 : (t559 == 2) = true := beq_iff_eq.mpr c18
      have c18b1 : (t559 != 2) = false := bne_eq_false_iff_eq.mpr c18
      clear c18
      obtain rfl := Option.some.inj H
      obtain ⟨Ao19, co19, eo19⟩ := Kd.R_slice HO_9.out
      subst eo19
      go_wp2
      repeat (go_quiet (fail); try go_wp2)
      go_ret
      exact ⟨qgsleuthlaw45changepointmatches_5, qgsleuthlaw45changepointmatches_0⟩
     ·rw [if_neg c18] at H
      have c18b0 : (t559 == 2) = false := beq_eq_false_iff_ne.mpr c18
      have c18b1 : (t559 != 2) = true := bne_iff_ne.mpr c18
      obtain rfl := Option.some.inj H
      go_wp2
      repeat (go_quiet (fail); try go_wp2)
      go_ret
      exact ⟨qgsleuthlaw45changepointmatches_5, qgsleuthlaw45changepointmatches_0⟩
    ·replace c17 := Bool.eq_false_iff.mpr c17
     subst c17
     have H1 : ((sleuthlaw45_match.f kj8 t552 t555 a2 0 0 ([] : List (S58))).bind fun t562 => (if t559 = 0 then (sleuthlaw45_ChangepointMatches.j1 kj8 t558 t562 ((t558.length : Int) != (t562.length : Int))) else (sleuthlaw45_ChangepointMatches.j1 kj8 t558 t562 true))) = some r := by rw [if_neg (show ¬ (false = true) by decide)] at H; exact H
     clear H
     have H := H1
     clear H1
     replace H := Option.bind_eq_some_iff.mp H
     obtain ⟨t562, A200, H⟩ := H
     replace H : (if t559 = 0 then (sleuthlaw45_ChangepointMatches.j1 kj8 t558 t562 ((t558.length : Int) != (t562.length : Int))) else (sleuthlaw45_ChangepointMatches.j1 kj8 t558 t562 true)) = some r := H
     have A20 := Aside0.mk A200
     clear A200
     have HC21 := Aside0.mk H
     clear H
     go_upto_region 8 with (first | (go_at_call 24; (refine (sleuthlaw45_match.calls kj8 _ _ t552 _ _ t555 a2 0 0 (fun k_ => False) _ _ ([] : List (S58)) t562 _ ?side1 ?side2 ?side3 ?side4 ?side5 A20.out).mono ?_); (case side1 => exact qgsleuthlaw45changepointmatches_10); (case side2 => exact (Kd.R_reads' HO_7.out).2.1); (case side3 => exact qgsleuthlaw45changepointmatches_11); (case side4 => exact (Kd.R_reads' HO_8.out).2.1); (case side5 => exact Kd.V_nil _ _ _ _ _); rintro e w22 ⟨v563, rfl, ho0, hb⟩; have n0_ := Aside0.mk (Kd.R_below qgsleuthlaw45changepointmatches_3 hb); have n1_ := Aside0.mk (Kd.R_below qgsleuthlaw45changepointmatches_4 hb); have n2_ := Aside0.mk (Kd.R_below qgsleuthlaw45changepointmatches_1 hb); have n3_ := Aside0.mk (Kd.V_lower (Kd.V_mono (ok' := fun k_ => some k_ ≠ (.slice Ao13 t552.length co13 : Value).ownBlock ∧ some k_ ≠ (.slice Ao14 t555.length co14 : Value).ownBlock ∧ some k_ ≠ (v560 : Value).ownBlock) ho0 (fun k_ hk_ => ⟨Or.elim hk_ (fun hs_ => (hs_).elim) (fun hn_ => (Kd.fresh' (Kd.R_lt qgsleuthlaw45changepointmatches_3) k_ hn_)), Or.elim hk_ (fun hs_ => (hs_).elim) (fun hn_ => (Kd.fresh' (Kd.R_lt qgsleuthlaw45changepointmatches_4) k_ hn_)), Or.elim hk_ (fun hs_ => (hs_).elim) (fun hn_ => (Kd.fresh' (Kd.R_lt qgsleuthlaw45changepointmatches_1) k_ hn_))⟩)) (below_size qgsleuthlaw45changepointmatches_0)); have n4_ := Aside0.mk (below_step qgsleuthlaw45changepointmatches_0 hb); clear HO_7; clear HO_8; clear HO_9; clear HB; have HO_7 := n0_; have HO_8 := n1_; have HO_9 := n2_; have HO564 := n3_; have HB := n4_; clear n0_ n1_ n2_ n3_ n4_; (try clear hb); (try clear hb2); (try clear hk); (try clear hi); (try clear ho0)))
     repeat (go_quiet (first | (go_at_call 24; (refine (sleuthlaw45_match.calls kj8 _ _ t552 _ _ t555 a2 0 0 (fun k_ => False) _ _ ([] : List (S58)) t562 _ ?side1 ?side2 ?side3 ?side4 ?side5 A20.out).mono ?_); (case side1 => exact qgsleuthlaw45changepointmatches_10); (case side2 => exact (Kd.R_reads' HO_7.out).2.1); (case side3 => exact qgsleuthlaw45changepointmatches_11); (case side4 => exact (Kd.R_reads' HO_8.out).2.1); (case side5 => exact Kd.V_nil _ _ _ _ _); rintro e w22 ⟨v563, rfl, ho0, hb⟩; have n0_ := Aside0.mk (Kd.R_below qgsleuthlaw45changepointmatches_3 hb); have n1_ := Aside0.mk (Kd.R_below qgsleuthlaw45changepointmatches_4 hb); have n2_ := Aside0.mk (Kd.R_below qgsleuthlaw45changepointmatches_1 hb); have n3_ := Aside0.mk (Kd.V_lower (Kd.V_mono (ok' := fun k_ => some k_ ≠ (.slice Ao13 t552.length co13 : Value).ownBlock ∧ some k_ ≠ (.slice Ao14 t555.length co14 : Value).ownBlock ∧ some k_ ≠ (v560 : Value).ownBlock) ho0 (fun k_ hk_ => ⟨Or.elim hk_ (fun hs_ => (hs_).elim) (fun hn_ => (Kd.fresh' (Kd.R_lt qgsleuthlaw45changepointmatches_3) k_ hn_)), Or.elim hk_ (fun hs_ => (hs_).elim) (fun hn_ => (Kd.fresh' (Kd.R_lt qgsleuthlaw45changepointmatches_4) k_ hn_)), Or.elim hk_ (fun hs_ => (hs_).elim) (fun hn_ => (Kd.fresh' (Kd.R_lt qgsleuthlaw45changepointmatches_1) k_ hn_))⟩)) (below_size qgsleuthlaw45changepointmatches_0)); have n4_ := Aside0.mk (below_step qgsleuthlaw45changepointmatches_0 hb); clear HO_7; clear HO_8; clear HO_9; clear HB; have HO_7 := n0_; have HO_8 := n1_; have HO_9 := n2_; have HO564 := n3_; have HB := n4_; clear n0_ n1_ n2_ n3_ n4_; (try clear hb); (try clear hb2); (try clear hk); (try clear hi); (try clear ho0))); go_upto_region 8 with (first | (go_at_call 24; (refine (sleuthlaw45_match.calls kj8 _ _ t552 _ _ t555 a2 0 0 (fun k_ => False) _ _ ([] : List (S58)) t562 _ ?side1 ?side2 ?side3 ?side4 ?side5 A20.out).mono ?_); (case side1 => exact qgsleuthlaw45changepointmatches_10); (case side2 => exact (Kd.R_reads' HO_7.out).2.1); (case side3 => exact qgsleuthlaw45changepointmatches_11); (case side4 => exact (Kd.R_reads' HO_8.out).2.1); (case side5 => exact Kd.V_nil _ _ _ _ _); rintro e w22 ⟨v563, rfl, ho0, hb⟩; have n0_ := Aside0.mk (Kd.R_below qgsleuthlaw45changepointmatches_3 hb); have n1_ := Aside0.mk (Kd.R_below qgsleuthlaw45changepointmatches_4 hb); have n2_ := Aside0.mk (Kd.R_below qgsleuthlaw45changepointmatches_1 hb); have n3_ := Aside0.mk (Kd.V_lower (Kd.V_mono (ok' := fun k_ => some k_ ≠ (.slice Ao13 t552.length co13 : Value).ownBlock ∧ some k_ ≠ (.slice Ao14 t555.length co14 : Value).ownBlock ∧ some k_ ≠ (v560 : Value).ownBlock) ho0 (fun k_ hk_ => ⟨Or.elim hk_ (fun hs_ => (hs_).elim) (fun hn_ => (Kd.fresh' (Kd.R_lt qgsleuthlaw45changepointmatches_3) k_ hn_)), Or.elim hk_ (fun hs_ => (hs_).elim) (fun hn_ => (Kd.fresh' (Kd.R_lt qgsleuthlaw45changepointmatches_4) k_ hn_)), Or.elim hk_ (fun hs_ => (hs_).elim) (fun hn_ => (Kd.fresh' (Kd.R_lt qgsleuthlaw45changepointmatches_1) k_ hn_))⟩)) (below_size qgsleuthlaw45changepointmatches_0)); have n4_ := Aside0.mk (below_step qgsleuthlaw45changepointmatches_0 hb); clear HO_7; clear HO_8; clear HO_9; clear HB; have HO_7 := n0_; have HO_8 := n1_; have HO_9 := n2_; have HO564 := n3_; have HB := n4_; clear n0_ n1_ n2_ n3_ n4_; (try clear hb); (try clear hb2); (try clear hk); (try clear hi); (try clear ho0))))
     (try simp only [Act.put, List.setIfInBounds_toArray, List.set_cons_zero, List.set_cons_succ])
     go_cut [51] (fun v51 wc => ∃ (kq : Nat) (x51_20 : Bool), v51 = .bool x51_20 ∧ Aside0 (sleuthlaw45_ChangepointMatches.j1 kq t558 t562 x51_20 = some r) ∧ Aside0 (kq ≤ kj8) ∧ Aside0 (Kd.R k58 58 wc w.heap.size (fun _ => True) v560 t558) ∧ Aside0 (Kd.V k58 58 wc w.heap.size (fun k_ => some k_ ≠ (v560 : Value).ownBlock) v563 t562) ∧ Aside0 (Below w.heap.size w wc))
     case first =>
      have H := HC21.out
      clear HC21
      by_cases c23 : t559 = 0
      ·rw [if_pos c23] at H
       have c23b0 : (t559 == 0) = true := beq_iff_eq.mpr c23
       have c23b1 : (t559 != 0) = false := bne_eq_false_iff_eq.mpr c23
       clear c23
       (first | rw [c23b0] | (simp only [i64_w, i32_w]; rw [c23b0]) | skip)
       have H' := Aside0.mk H
       clear H
       obtain ⟨Ao24, co24, eo24⟩ := Kd.R_slice HO_9.out
       subst eo24
       obtain ⟨Ao25, co25, eo25⟩ := Kd.V_slice HO564.out
       subst eo25
       go_wp2
       repeat (go_quiet (fail); try go_wp2)
       go_meet
       case rel => exact ⟨_, (((t558.length : Int) != (t562.length : Int))), (by first | rfl | (simp; done) | (simp [*]; done)), H', ⟨by have := HJ8.out; first | omega | exact Nat.le_refl _⟩, ⟨qgsleuthlaw45changepointmatches_1⟩, ⟨by (with_reducible repeat (first | apply Kd.V_alloc | apply Kd.V_drewN | apply Kd.V_drew)); exact Kd.V_mono HO564.out (fun _ hk => hk.2.2)⟩, ⟨qgsleuthlaw45changepointmatches_0⟩⟩
      ·rw [if_neg c23] at H
       have c23b0 : (t559 == 0) = false := beq_eq_false_iff_ne.mpr c23
       have c23b1 : (t559 != 0) = true := bne_iff_ne.mpr c23
       (first | rw [c23b0] | (simp only [i64_w, i32_w]; rw [c23b0]) | skip)
       have H' := Aside0.mk H
       clear H
       go_wp2
       repeat (go_quiet (fail); try go_wp2)
       go_meet
       case rel => exact ⟨_, (true), (by first | rfl | (simp; done) | (simp [*]; done)), H', ⟨by have := HJ8.out; first | omega | exact Nat.le_refl _⟩, ⟨qgsleuthlaw45changepointmatches_1⟩, ⟨by (with_reducible repeat (first | apply Kd.V_alloc | apply Kd.V_drewN | apply Kd.V_drew)); exact Kd.V_mono HO564.out (fun _ hk => hk.2.2)⟩, ⟨qgsleuthlaw45changepointmatches_0⟩⟩
     case rest =>
      clear HC21
      try clear c1
      try clear c2
      try clear p2
      try clear c5
      try clear c7
      try clear c16
      try clear c16b0
      try clear c17
      try clear c18
      try clear c18b0
      try clear c18b1
      try clear c23
      try clear c23b0
      try clear c23b1
      try clear p2
      obtain ⟨kq, x51_20, rfl, HA, HJ20, HO_9, HO_11, HB⟩ := hcut
      cases kq with
      | zero => exact absurd HA.out (by simp [sleuthlaw45_ChangepointMatches.j1])
      | succ kj20 =>
       have H := HA.out
       clear HA
       simp only [sleuthlaw45_ChangepointMatches.j1] at H
       by_cases c26 : x51_20 = true
       ·subst c26
        have H1 : (some false) = some r := by rw [if_pos rfl] at H; exact H
        clear H
        have H := H1
        clear H1
        obtain rfl := Option.some.inj H
        go_wp2
        repeat (go_quiet (fail); try go_wp2)
        go_ret
        exact ⟨qgsleuthlaw45changepointmatches_5, qgsleuthlaw45changepointmatches_0⟩
       ·replace c26 := Bool.eq_false_iff.mpr c26
        subst c26
        have H1 : (sleuthlaw45_ChangepointMatches.l0 kj20 t558 t562 0) = some r := by rw [if_neg (show ¬ (false = true) by decide)] at H; exact H
        clear H
        have H := H1
        clear H1
        have H' := Aside0.mk H
        clear H
        go_wp2
        repeat (go_quiet (fail); try go_wp2)
        go_loopg [12] kj20 (fun kq v12 w' => ∃ (x12_3 : Int), v12 = .int .i64 x12_3 ∧ Aside0 (sleuthlaw45_ChangepointMatches.l0 kq t558 t562 x12_3 = some r) ∧ Aside0 (kq ≤ kj20) ∧ Aside0 (Kd.R k58 58 w' w.heap.size (fun _ => True) v560 t558) ∧ Aside0 (Kd.V k58 58 w' w.heap.size (fun k_ => some k_ ≠ (v560 : Value).ownBlock) v563 t562) ∧ Aside0 (Below w.heap.size w w'))
        case atStart => exact ⟨(0), (by first | rfl | (simp; done) | (simp [*]; done)), H', ⟨Nat.le_refl _⟩, ⟨qgsleuthlaw45changepointmatches_1⟩, ⟨by (with_reducible repeat (first | apply Kd.V_alloc | apply Kd.V_drewN | apply Kd.V_drew)); exact HO_11.out⟩, ⟨qgsleuthlaw45changepointmatches_0⟩⟩
        case round =>
         clear H'
         try clear c1
         try clear c2
         try clear p2
         try clear c5
         try clear c7
         try clear c16
         try clear c16b0
         try clear c17
         try clear c18
         try clear c18b0
         try clear c18b1
         try clear c23
         try clear c23b0
         try clear c23b1
         try clear c26
         try clear p2
         obtain ⟨x12_3, rfl, HA, HK3, HO_9, HO_11, HB⟩ := hrel
         cases gk with
         | zero => exact absurd HA.out (by simp [sleuthlaw45_ChangepointMatches.l0])
         | succ k3 =>
          have H := HA.out
          clear HA
          simp only [sleuthlaw45_ChangepointMatches.l0] at H
          by_cases c27 : x12_3 < (t558.length : Int)
          ·rw [if_pos c27] at H
           have c27b0 : decide (x12_3 < (t558.length : Int)) = true := decide_eq_true c27
           clear c27
           by_cases c28 : 0 ≤ x12_3
           ·rw [if_pos c28] at H
            have c28b0 : decide (0 ≤ x12_3) = true := decide_eq_true c28
            clear c28
            by_cases c29 : x12_3 < (t562.length : Int)
            ·rw [if_pos c29] at H
             have c29b0 : decide (x12_3 < (t562.length : Int)) = true := decide_eq_true c29
             clear c29
             by_cases c30 : (!(((rd_T58 t558 x12_3).f0) == ((rd_T58 t562 x12_3).f0)) || (!(((rd_T58 t558 x12_3).f1) == ((rd_T58 t562 x12_3).f1)))) = true
             ·rw [if_pos c30] at H
              have c30b0 : (!(((rd_T58 t558 x12_3).f0) == ((rd_T58 t562 x12_3).f0)) || (!(((rd_T58 t558 x12_3).f1) == ((rd_T58 t562 x12_3).f1)))) = true := c30
              clear c30
              obtain rfl := Option.some.inj H
              obtain ⟨Ao31, co31, eo31⟩ := Kd.R_slice HO_9.out
              subst eo31
              have p565 : 0 ≤ (x12_3 : Int) := of_decide_eq_true (by first | (with_reducible assumption) | assumption)
              have q565 : x12_3 < (t558.length : Int) := of_decide_eq_true (by first | (with_reducible assumption) | assumption)
              obtain ⟨ad565, e565, hx565_0, hx565_1⟩ := at_T58 (Kd.R_reads' HO_9.out).2.2 x12_3 p565 q565
              cases e565
              replace p565 := eq_true p565
              replace q565 := eq_true q565
              obtain ⟨Ao32, co32, eo32⟩ := Kd.V_slice HO_11.out
              subst eo32
              have p566 : 0 ≤ (x12_3 : Int) := of_decide_eq_true (by first | (with_reducible assumption) | assumption)
              have q566 : x12_3 < (t562.length : Int) := of_decide_eq_true (by first | (with_reducible assumption) | assumption)
              obtain ⟨ad566, e566, hx566_0, hx566_1⟩ := at_T58 (Kd.V_reads' HO_11.out).2.2 x12_3 p566 q566
              cases e566
              replace p566 := eq_true p566
              replace q566 := eq_true q566
              go_wp2
              repeat (go_quiet (fail); try go_wp2)
              go_ret
              exact ⟨qgsleuthlaw45changepointmatches_5, qgsleuthlaw45changepointmatches_0⟩
             ·rw [if_neg c30] at H
              have c30b0 : (!(((rd_T58 t558 x12_3).f0) == ((rd_T58 t562 x12_3).f0)) || (!(((rd_T58 t558 x12_3).f1) == ((rd_T58 t562 x12_3).f1)))) = false := by simpa using c30
              clear c30
              have H' := Aside0.mk H
              clear H
              obtain ⟨Ao33, co33, eo33⟩ := Kd.R_slice HO_9.out
              subst eo33
              have p565 : 0 ≤ (x12_3 : Int) := of_decide_eq_true (by first | (with_reducible assumption) | assumption)
              have q565 : x12_3 < (t558.length : Int) := of_decide_eq_true (by first | (with_reducible assumption) | assumption)
              obtain ⟨ad565, e565, hx565_0, hx565_1⟩ := at_T58 (Kd.R_reads' HO_9.out).2.2 x12_3 p565 q565
              cases e565
              replace p565 := eq_true p565
              replace q565 := eq_true q565
              obtain ⟨Ao34, co34, eo34⟩ := Kd.V_slice HO_11.out
              subst eo34
              have p566 : 0 ≤ (x12_3 : Int) := of_decide_eq_true (by first | (with_reducible assumption) | assumption)
              have q566 : x12_3 < (t562.length : Int) := of_decide_eq_true (by first | (with_reducible assumption) | assumption)
              obtain ⟨ad566, e566, hx566_0, hx566_1⟩ := at_T58 (Kd.V_reads' HO_11.out).2.2 x12_3 p566 q566
              cases e566
              replace p566 := eq_true p566
              replace q566 := eq_true q566
              go_wp2
              repeat (go_quiet (fail); try go_wp2)
              go_roundg k3
              case measure => have := HJ8.out; have := HJ20.out; have := HK3.out; omega
              case rel => exact ⟨(wrap64 (x12_3 + 1)), (by first | rfl | (simp; done) | (simp [*]; done)), H', ⟨by have := HJ8.out; have := HJ20.out; have := HK3.out; omega⟩, ⟨qgsleuthlaw45changepointmatches_1⟩, ⟨by (with_reducible repeat (first | apply Kd.V_alloc | apply Kd.V_drewN | apply Kd.V_drew)); exact HO_11.out⟩, ⟨qgsleuthlaw45changepointmatches_0⟩⟩
            ·rw [if_neg c29] at H
             exact absurd H (by simp)
           ·rw [if_neg c28] at H
            exact absurd H (by simp)
          ·rw [if_neg c27] at H
           have c27b0 : decide (x12_3 < (t558.length : Int)) = false := decide_eq_false c27
           clear c27
           obtain rfl := Option.some.inj H
           obtain ⟨Ao35, co35, eo35⟩ := Kd.R_slice HO_9.out
           subst eo35
           go_wp2
           repeat (go_quiet (fail); try go_wp2)
           go_ret
           exact ⟨qgsleuthlaw45changepointmatches_5, qgsleuthlaw45changepointmatches_0⟩
 ·replace c5 := Bool.eq_false_iff.mpr c5
  subst c5
  have H1 : (some false) = some r := by rw [if_neg (show ¬ (false = true) by decide)] at H; exact H
  clear H
  have H := H1
  clear H1
  obtain rfl := Option.some.inj H
  go_enter Try.func7, Try.ntmps7
  go_wp2_with (first | (go_at_call 13; (with_reducible refine (sleuthlaw45_known.calls k  false _ A4.out).mono ?_); rintro e w36 ⟨rfl, hb⟩; have n0_ := Aside0.mk (below_step qgsleuthlaw45changepointmatches_0 hb); clear HB; have HB := n0_; clear n0_; (try clear hb); (try clear hb2); (try clear hk); (try clear hi)))
  repeat (go_quiet (first | (go_at_call 13; (with_reducible refine (sleuthlaw45_known.calls k  false _ A4.out).mono ?_); rintro e w36 ⟨rfl, hb⟩; have n0_ := Aside0.mk (below_step qgsleuthlaw45changepointmatches_0 hb); clear HB; have HB := n0_; clear n0_; (try clear hb); (try clear hb2); (try clear hk); (try clear hi))); try go_wp2_with (first | (go_at_call 13; (with_reducible refine (sleuthlaw45_known.calls k  false _ A4.out).mono ?_); rintro e w36 ⟨rfl, hb⟩; have n0_ := Aside0.mk (below_step qgsleuthlaw45changepointmatches_0 hb); clear HB; have HB := n0_; clear n0_; (try clear hb); (try clear hb2); (try clear hk); (try clear hi))))
  go_ret
  exact ⟨qgsleuthlaw45changepointmatches_5, qgsleuthlaw45changepointmatches_0⟩

end Go.Proofs.Ytcjgmofgfblmnaa.Q
