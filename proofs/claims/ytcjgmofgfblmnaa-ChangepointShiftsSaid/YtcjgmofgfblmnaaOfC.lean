/- Plain law: ChangepointShifts. -/
import Derived.Test.YtcjgmofgfblmnaaSg
import Derived.Test.YtcjgmofgfblmnaaQgSleuthlaw45ChangepointShifts
namespace Go.Proofs.Ytcjgmofgfblmnaa.Seg
open Go.RowKit Go.Proofs.YtcjgmofgfblmnaaW.PrintWords Go.Proofs.YtcjgmofgfblmnaaW.PrintLast Go.Proofs.YtcjgmofgfblmnaaW.PrintMore Go.Proofs.Ytcjgmofgfblmnaa.Q
set_option linter.unusedVariables false
set_option linter.unusedSimpArgs false
set_option linter.unusedSimpArgs false
theorem shift_eq (a x : Int) : wrap64 (wrap64 (wrap64 a + x) - wrap64 a) = wrap64 x := by unfold wrap64; omega
theorem shifts_loop (b0 b1 : Int) (lev c : List Int) (hl : lev.length = c.length + 1) (hc : c.length ≤ 1024) : ∀ (d i : Nat), c.length - i = d → i ≤ c.length →
    Ev (fun k => sleuthlaw45_ChangepointShifts.l0 k (mkCh (wrap64 b0) c lev) (mkCh (wrap64 b1) c lev) (i : Int) b0 b1) true := by
  intro d
  induction d with
  | zero =>
    intro i hd hi
    refine Ev.step (f := fun _ => some true) (fun k => ?_) (Ev.now _)
    simp only [sleuthlaw45_ChangepointShifts.l0]
    rw [if_neg (by rw [mkCh_length]; omega)]
  | succ d ih =>
    intro i hd hi
    have hlt : i < c.length := by omega
    refine Ev.step (fun k => ?_) (ih (i + 1) (by omega) (by omega))
    have hw : wrap64 ((i : Int) + 1) = ((i + 1 : Nat) : Int) := by rw [w64 (by omega) (by omega)]; omega
    simp only [sleuthlaw45_ChangepointShifts.l0]
    rw [hw, if_pos (by rw [mkCh_length]; omega), if_pos (by omega), if_pos (by rw [mkCh_length]; omega), mkCh_get (wrap64 b0) c lev i hlt, mkCh_get (wrap64 b1) c lev i hlt]
    simp only
    rw [shift_eq, shift_eq]
    simp only [if_true]
theorem lawShifts (l0 : List Int) (a1 b0 b1 : Int) (h0 : ∀ x ∈ l0, 0 ≤ x ∧ x ≤ 255) (h1 : 0 ≤ a1 ∧ a1 ≤ 255) (hb0 : 0 ≤ b0 ∧ b0 ≤ 255) (hb1 : 0 ≤ b1 ∧ b1 ≤ 255) : Ev (fun k => sleuthlaw45_ChangepointShifts.f k l0 a1 b0 b1) true := by
  unfold sleuthlaw45_ChangepointShifts.f
  refine Ev.bind known_ev ?_
  simp only [if_true]
  by_cases he : l0.length = 0
  · refine Ev.step (f := fun k => (sleuthlaw45_known.f k).bind fun t => some t) (fun k => ?_) (Ev.bind known_ev (Ev.now true))
    simp only [sleuthlaw45_ChangepointShifts.j0]
    rw [if_pos (by simp [he])]
  · obtain ⟨p1, p2⟩ := ptv_ok l0 h0
    have e0 : wrap64 b0 = b0 := w64 (by omega) (by omega)
    have e1 : wrap64 b1 = b1 := w64 (by omega) (by omega)
    have ea : wrap64 a1 = a1 := w64 (by omega) (by omega)
    have s0 := series_points (wrap64 b0) (ptv l0) (by omega) (by omega) p1 p2
    have s1 := series_points (wrap64 b1) (ptv l0) (by omega) (by omega) p1 p2
    have hne : ptv l0 ≠ [] := by
      intro e
      have h2 : (ptv l0).length = min l0.length 14 := by unfold ptv; rw [List.length_map, List.length_take]; omega
      rw [e] at h2
      simp at h2
      omega
    have hk : chk (ptv l0) (wrap64 a1) = 0 := chk_mk ⟨by omega, fun x hx => by have := p2 x hx; omega⟩ hne (by omega) (by omega)
    obtain ⟨n, c, lev, eb, ev, hl, hc⟩ := found (ptv l0) (wrap64 a1) hk
    have o0 := of_ok s0 hk eb ev hl hc
    have o1 := of_ok s1 hk eb ev hl hc
    refine Ev.step (f := fun k => (sleuthlaw45_points.f k b0 l0).bind fun bt608 => ((changepoint_Of.f k bt608.1 bt608.2.1 bt608.2.2.1 bt608.2.2.2.1 bt608.2.2.2.2.1 bt608.2.2.2.2.2.1 bt608.2.2.2.2.2.2 (wrap64 (a1))).bind fun bt617 => ((sleuthlaw45_points.f k b1 l0).bind fun bt621 => ((changepoint_Of.f k bt621.1 bt621.2.1 bt621.2.2.1 bt621.2.2.2.1 bt621.2.2.2.2.1 bt621.2.2.2.2.2.1 bt621.2.2.2.2.2.2 (wrap64 (a1))).bind fun bt630 => (if bt617.2 = 0 then (if bt630.2 = 0 then (sleuthlaw45_ChangepointShifts.j1 k bt617.1 bt630.1 ((bt617.1.length : Int) != (bt630.1.length : Int)) b0 b1) else (sleuthlaw45_ChangepointShifts.j1 k bt617.1 bt630.1 true b0 b1)) else (sleuthlaw45_ChangepointShifts.j1 k bt617.1 bt630.1 true b0 b1)))))) (fun k => ?_) ?_
    · simp only [sleuthlaw45_ChangepointShifts.j0]
      rw [if_neg (by simp; exact fun e => he (by rw [e]; rfl))]
    · refine Ev.bind (points_ev b0 l0) ?_
      refine Ev.bind o0 ?_
      refine Ev.bind (points_ev b1 l0) ?_
      refine Ev.bind o1 ?_
      simp only [if_true]
      refine Ev.step (f := fun k => sleuthlaw45_ChangepointShifts.l0 k (mkCh (wrap64 b0) c lev) (mkCh (wrap64 b1) c lev) 0 b0 b1) (fun k => ?_) (shifts_loop b0 b1 lev c hl hc _ 0 rfl (Nat.zero_le _))
      simp only [sleuthlaw45_ChangepointShifts.j1]
      rw [if_neg (by rw [mkCh_length, mkCh_length]; simp)]
end Go.Proofs.Ytcjgmofgfblmnaa.Seg
