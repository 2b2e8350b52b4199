-- Laid by myprint.py (a program of this session's, over the kit's printer and with functions proved by hand)
import Derived.Test.YtcjgmofgfblmnaaTy
import Derived.Test.YtcjgmofgfblmnaaHandL
import Derived.Test.YtcjgmofgfblmnaaHandE
namespace Go.Proofs.Ytcjgmofgfblmnaa.Q
open Go.RowKit Go.Proofs.YtcjgmofgfblmnaaW.PrintWords Go.Proofs.YtcjgmofgfblmnaaW.PrintLast Go.Proofs.YtcjgmofgfblmnaaW.PrintMore
attribute [local go_sem] max2_int min2_int max_two min_two max_three min_three max_four min_four   -- for this text's walks alone
set_option linter.unusedVariables false
set_option linter.unusedSimpArgs false

/-! ### changepoint_Latest: function 32 -/
def changepoint_Latest.f (l0 : List S41) (a1 : Int) : Option (Int × Int × Int × Bool) := if l0.length ≤ 1000000 then some ((HandL.latF l0 a1).1.f0, (HandL.latF l0 a1).1.f1, (HandL.latF l0 a1).1.f2, (HandL.latF l0 a1).2) else none
theorem changepoint_Latest.calls (A0 : Option Addr) (c0 : Nat) (l0 : List S41) (a1 : Int) (r1 : Int) (r2 : Int) (r3 : Int) (r4 : Bool) (w : World) (hr0 : Kd.C k41 w A0 l0.length l0) (hc0 : l0.length ≤ c0) (h : changepoint_Latest.f l0 a1 = some (r1, r2, r3, r4)) :
  Calls Try.prog 32 #[.slice A0 l0.length c0, .int .i64 a1] w fun e w' => e = .returned (.tuple #[.agg #[.int .i64 r1, .int .i64 r2, .int .i64 r3], .bool r4]) ∧ Below w.heap.size w w' := by
 unfold changepoint_Latest.f at h
 split at h
 ·cases h
  exact HandL.latest_calls A0 c0 l0 a1 w hr0 (by assumption)
 ·cases h

/-! ### changepoint_Change_55: function 55 -/
def changepoint_Change_55.f (l0 : List S41) : Option (List S41) := if l0.length < 5864062014805 then some l0 else none
theorem changepoint_Change_55.calls (A0 : Option Addr) (c0 : Nat) (l0 : List S41) (r : List S41) (w : World) (hr0 : Kd.C k41 w A0 l0.length l0) (hc0 : l0.length ≤ c0) (h : changepoint_Change_55.f l0 = some r) :
  Calls Try.prog 55 #[.slice A0 l0.length c0] w fun e w' => ∃ v0_ : Value, e = .returned (v0_) ∧ Kd.R k41 41 w' w.heap.size (fun _ => True) v0_ r ∧ Below w.heap.size w w' := by
 unfold changepoint_Change_55.f at h
 split at h
 ·cases h
  exact HandE.clone_calls A0 c0 l0 w hr0 hc0 (by assumption)
 ·cases h

/-! ### changepoint_Change_56: function 56 -/
def changepoint_Change_56.f (l0 : List S41) : Option (List S41) := if l0.length ≤ 12 then some (HandE.insS HandE.cfA l0) else none
theorem changepoint_Change_56.len {l0 r : List S41} (h : changepoint_Change_56.f l0 = some r) : r.length = l0.length := by
 unfold changepoint_Change_56.f at h
 split at h
 ·cases h
  exact HandE.insS_len _ _
 ·cases h
theorem changepoint_Change_56.calls (P0_ : Nat → Prop) (u9000_ : Value) (l0 : List S41) (r : List S41) (w0 w : World) (hB : Below w0.heap.size w0 w) (ho0 : Kd.R k41 41 w w0.heap.size P0_ u9000_ l0) (h : changepoint_Change_56.f l0 = some r) :
  Calls Try.prog 56 #[u9000_, .func (.func 57) #[] #[]] w fun e w' => e = .returned (.tuple #[]) ∧ Kd.R k41 41 w' w0.heap.size (fun k_ => (P0_ k_ ∨ w.heap.size ≤ k_)) u9000_ r ∧ Below w0.heap.size w0 w' ∧ Kept w w' (fun k_ => P0_ k_) := by
 unfold changepoint_Change_56.f at h
 split at h
 ·cases h
  exact HandE.stableFunc_calls 57 HandE.cfA (enters_of Try.func57 (by kernel_rfl) rfl) HandE.cfA_ok P0_ u9000_ l0 w0 w hB ho0 (by assumption)
 ·cases h

/-! ### changepoint_Change_58: function 58 -/
def changepoint_Change_58.f (l0 : List S41) : Option (List S41) := if l0.length ≤ 12 then some (HandE.insS HandE.cfB l0) else none
theorem changepoint_Change_58.calls (P0_ : Nat → Prop) (u9000_ : Value) (l0 : List S41) (r : List S41) (w0 w : World) (hB : Below w0.heap.size w0 w) (ho0 : Kd.R k41 41 w w0.heap.size P0_ u9000_ l0) (h : changepoint_Change_58.f l0 = some r) :
  Calls Try.prog 58 #[u9000_, .func (.func 59) #[] #[]] w fun e w' => e = .returned (.tuple #[]) ∧ Kd.R k41 41 w' w0.heap.size (fun k_ => (P0_ k_ ∨ w.heap.size ≤ k_)) u9000_ r ∧ Below w0.heap.size w0 w' ∧ Kept w w' (fun k_ => P0_ k_) := by
 unfold changepoint_Change_58.f at h
 split at h
 ·cases h
  exact HandE.sortFunc_calls 59 HandE.cfB (enters_of Try.func59 (by kernel_rfl) rfl) HandE.cfB_ok P0_ u9000_ l0 w0 w hB ho0 (by assumption)
 ·cases h

/-! ### changepoint_Largest: function 33 -/
def changepoint_Largest.f (l0 : List (S41)) (a1 : Int) : Option ((List (S41))) := (changepoint_Change_55.f l0).bind fun t684 => ((changepoint_Change_56.f t684).bind fun t687 => (if 0 ≤ (mx 0 (mn a1 (t684.length : Int))) then (if (mx 0 (mn a1 (t684.length : Int))) ≤ (t684.length : Int) then ((changepoint_Change_58.f (t687.take ((mx 0 (mn a1 (t684.length : Int))) : Int).toNat)).bind fun t691 => (some t691)) else (none)) else (none)))
set_option maxHeartbeats 8000000 in
set_option maxRecDepth 100000 in
theorem changepoint_Largest.calls (A0 : Option Addr) (c0 : Nat) (l0 : List (S41)) (a1 : Int) (r : List (S41)) (w : World) (hr0 : Kd.C k41 w A0 l0.length l0) (hc0 : l0.length ≤ c0) (h : changepoint_Largest.f l0 a1 = some r) :
  Calls Try.prog 33 #[.slice A0 l0.length c0, .int .i64 a1] w fun e w' => ∃ v0_ : Value, e = .returned (v0_) ∧ Kd.R k41 41 w' w.heap.size (fun _ => True) v0_ r ∧ Below w.heap.size w w' := by
 have HR0 := Aside0.mk hr0
 have HC0 := Aside0.mk hc0
 clear hr0 hc0
 have HB := Aside0.mk (Below.refl w.heap.size w)
 have H : ((changepoint_Change_55.f l0).bind fun t684 => ((changepoint_Change_56.f t684).bind fun t687 => (if 0 ≤ (mx 0 (mn a1 (t684.length : Int))) then (if (mx 0 (mn a1 (t684.length : Int))) ≤ (t684.length : Int) then ((changepoint_Change_58.f (t687.take ((mx 0 (mn a1 (t684.length : Int))) : Int).toNat)).bind fun t691 => (some t691)) else (none)) else (none)))) = some r := h
 clear h
 replace H := Option.bind_eq_some_iff.mp H
 obtain ⟨t684, A30, H⟩ := H
 replace H : ((changepoint_Change_56.f t684).bind fun t687 => (if 0 ≤ (mx 0 (mn a1 (t684.length : Int))) then (if (mx 0 (mn a1 (t684.length : Int))) ≤ (t684.length : Int) then ((changepoint_Change_58.f (t687.take ((mx 0 (mn a1 (t684.length : Int))) : Int).toNat)).bind fun t691 => (some t691)) else (none)) else (none))) = some r := H
 have A3 := Aside0.mk A30
 clear A30
 replace H := Option.bind_eq_some_iff.mp H
 obtain ⟨t687, A40, H⟩ := H
 replace H : (if 0 ≤ (mx 0 (mn a1 (t684.length : Int))) then (if (mx 0 (mn a1 (t684.length : Int))) ≤ (t684.length : Int) then ((changepoint_Change_58.f (t687.take ((mx 0 (mn a1 (t684.length : Int))) : Int).toNat)).bind fun t691 => (some t691)) else (none)) else (none)) = some r := H
 have A4 := Aside0.mk A40
 clear A40
 obtain ⟨ji5, hji5⟩ : ∃ j_ : Int, (mn a1 (t684.length : Int)) = j_ := ⟨_, rfl⟩
 replace H : (if 0 ≤ (mx 0 (ji5)) then (if (mx 0 (ji5)) ≤ (t684.length : Int) then ((changepoint_Change_58.f (t687.take ((mx 0 (ji5)) : Int).toNat)).bind fun t691 => (some t691)) else (none)) else (none)) = some r := by first | (rw [hji5] at H; exact H) | (simp only [hji5] at H ⊢; exact H)
 (try rw [hji5] at A3)
 (try rw [hji5] at A4)
 have hji5_ : (if (t684.length : Int) < a1 then (t684.length : Int) else a1) = ji5 := hji5
 obtain ⟨ji6, hji6⟩ : ∃ j_ : Int, (mx 0 (ji5)) = j_ := ⟨_, rfl⟩
 replace H : (if 0 ≤ (ji6) then (if (ji6) ≤ (t684.length : Int) then ((changepoint_Change_58.f (t687.take ((ji6) : Int).toNat)).bind fun t691 => (some t691)) else (none)) else (none)) = some r := by first | (rw [hji6] at H; exact H) | (simp only [hji6] at H ⊢; exact H)
 (try rw [hji6] at A3)
 (try rw [hji6] at A4)
 have hji6_ : (if 0 < (ji5) then (ji5) else 0) = ji6 := hji6
 by_cases c7 : 0 ≤ (ji6)
 rotate_left
 ·rw [if_neg c7] at H
  exact absurd H (by simp)
 rw [if_pos c7] at H
 have c7b0 := eq_true c7
 have c7b1 : decide (0 ≤ (ji6)) = true := decide_eq_true c7
 clear c7
 by_cases c8 : (ji6) ≤ (t684.length : Int)
 rotate_left
 ·rw [if_neg c8] at H
  exact absurd H (by simp)
 rw [if_pos c8] at H
 have c8b0 := eq_true c8
 have c8b1 : decide ((ji6) ≤ (t684.length : Int)) = true := decide_eq_true c8
 clear c8
 obtain ⟨y688, hy688⟩ : ∃ y_ : List (S41), y_ = (t687.take ((ji6) : Int).toNat) := ⟨_, rfl⟩
 replace H : ((changepoint_Change_58.f y688).bind fun t691 => (some t691)) = some r := by first | (rw [hy688]; with_reducible exact H) | (have H2_ := (Option.bind_some _ _).symm.trans H; rw [hy688]; with_reducible exact H2_) | (have H2_ := (Option.bind_some _ _).symm.trans H; with_reducible exact H2_) | with_reducible exact H | (rw [hy688]; exact H) | exact H
 have Ny688 := Aside0.mk hy688
 clear hy688
 replace H := Option.bind_eq_some_iff.mp H
 obtain ⟨t691, A90, H⟩ := H
 replace H : (some t691) = some r := H
 have A9 := Aside0.mk A90
 clear A90
 obtain rfl := Option.some.inj H
 go_enter Try.func33, Try.ntmps33
 go_wp2_with (first | ((with_reducible refine gate_callee (f := 55) rfl ?_); refine goesL_ (some 7) rfl rfl Try.func55 (by kernel_rfl) rfl #[.slice A0 l0.length c0] rfl (by (try simp only [List.map_toArray, List.map_cons, List.map_nil]); first | done | rfl | (simp only [List.length_drop, List.length_take]; rfl)) ?_; (with_reducible refine (changepoint_Change_55.calls _ _ l0 t684 _ ?side1 ?side2 A3.out).mono ?_); (case side1 => repeat (first | exact HR0.out | (with_reducible refine Kd.C_alloc ?_ _) | (with_reducible refine Kd.C_drewN ?_ _) | (with_reducible refine Kd.C_drew ?_))); (case side2 => exact HC0.out); rintro e w10 ⟨v685, rfl, ho0, hb⟩; refine ⟨_, rfl, ?_⟩; have n0_ := Aside0.mk (Kd.R_lower ho0 (below_size (by repeat (first | (with_reducible first | exact HB.out | apply below_alloc | apply pw_below_drewN | apply below_drew1) | exact HB.out)))); have n1_ := Aside0.mk (below_step (by repeat (first | (with_reducible first | exact HB.out | apply below_alloc | apply pw_below_drewN | apply below_drew1) | exact HB.out)) hb); clear HB; have HO686 := n0_; have HB := n1_; clear n0_ n1_; (try clear hb); (try clear hb2); (try clear hk); (try clear hi); (try clear ho0); obtain ⟨Ao11, co11, eo11⟩ := Kd.R_slice HO686.out; subst eo11) | ((with_reducible refine gate_callee (f := 56) rfl ?_); refine goesL_ (some 9) rfl rfl Try.func56 (by kernel_rfl) rfl #[.slice Ao11 t684.length co11, .func (.func 57) #[] #[]] rfl (by (try simp only [List.map_toArray, List.map_cons, List.map_nil]); first | done | rfl | (simp only [List.length_drop, List.length_take]; rfl)) ?_; (with_reducible refine (changepoint_Change_56.calls (fun k_ => some k_ = (.slice Ao11 t684.length co11 : Value).ownBlock) (.slice Ao11 t684.length co11) t684 t687 w _ ?side1 ?side2 A4.out).mono ?_); (case side1 => repeat (first | (with_reducible first | exact HB.out | apply below_alloc | apply pw_below_drewN | apply below_drew1) | exact HB.out)); (case side2 => exact Kd.R_tight rfl HO686.out); rintro e w12 ⟨rfl, hy0, hb, hkp⟩; refine ⟨_, rfl, ?_⟩; have n0_ := Aside0.mk (Kd.R_reok rfl hy0 (fun k_ e_ => HO686.out.1 k_ e_)); have n1_ := Aside0.mk (hb); clear HO686; clear HB; have HO686 := n0_; have HB := n1_; clear n0_ n1_; (try clear hb); (try clear hkp); (try clear hy0); have q13 : ((ji6) : Int) ≤ ((t684.length : Int) : Int) := of_decide_eq_true (by first | (with_reducible assumption) | assumption); obtain ⟨i013, hi013, _, hsz13, _⟩ := info_parts info41; have hcut13 := cut_to (P := Try.prog) 30 41 .i64 Try.underlying30 hi013 Ao11 t684.length co11 (ji6) (of_decide_eq_true (by first | (with_reducible assumption) | assumption)) q13 (Kd.R_reads' HO686.out).2.1; have e13 : t687.length = t684.length := changepoint_Change_56.len A4.out; have h13 := HO686.out; rw [← e13] at h13; have hr13 := Kd.R_take (m := ((ji6) : Int).toNat) h13 (by omega); clear h13; have hy13 : y688.length = ((ji6) : Int).toNat := (by rw [Ny688.out, List.length_take]; omega); rw [← Ny688.out] at hr13; rw [← hy13] at hr13 hcut13; clear hy13 hi013 hsz13 HO686; have HO690 := Aside0.mk hr13; clear hr13; replace q13 := eq_true q13) | ((with_reducible refine gate_callee (f := 58) rfl ?_); refine goesL_ (some 18) rfl rfl Try.func58 (by kernel_rfl) rfl #[.slice Ao11 y688.length co11, .func (.func 59) #[] #[]] rfl (by (try simp only [List.map_toArray, List.map_cons, List.map_nil]); first | done | rfl | (simp only [List.length_drop, List.length_take]; rfl)) ?_; (with_reducible refine (changepoint_Change_58.calls (fun k_ => some k_ = (.slice Ao11 y688.length co11 : Value).ownBlock) (.slice Ao11 y688.length co11) y688 t691 w _ ?side1 ?side2 A9.out).mono ?_); (case side1 => repeat (first | (with_reducible first | exact HB.out | apply below_alloc | apply pw_below_drewN | apply below_drew1) | exact HB.out)); (case side2 => exact Kd.R_tight rfl HO690.out); rintro e w14 ⟨rfl, hy0, hb, hkp⟩; refine ⟨_, rfl, ?_⟩; have n0_ := Aside0.mk (Kd.R_reok rfl hy0 (fun k_ e_ => HO690.out.1 k_ e_)); have n1_ := Aside0.mk (hb); clear HO690; clear HB; have HO690 := n0_; have HB := n1_; clear n0_ n1_; (try clear hb); (try clear hkp); (try clear hy0)))
 go_ret
 exact ⟨_, by first | rfl | (simp [errW_none, errW_some] <;> rfl) | (simp only [← hji5, ← hji6]; first | rfl | (simp [errW_none, errW_some] <;> rfl)) | (simp [*, errW_none, errW_some] <;> rfl), by (with_reducible repeat (first | apply Kd.R_alloc | apply Kd.R_drewN | apply Kd.R_drew)); exact HO690.out, by repeat (first | (with_reducible first | exact HB.out | apply below_alloc | apply pw_below_drewN | apply below_drew1) | exact HB.out)⟩

end Go.Proofs.Ytcjgmofgfblmnaa.Q
