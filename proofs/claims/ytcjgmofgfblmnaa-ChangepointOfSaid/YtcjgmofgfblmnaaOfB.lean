/- Plain law: ChangepointOf. -/
import Derived.Test.YtcjgmofgfblmnaaSg
import Derived.Test.YtcjgmofgfblmnaaQgSleuthlaw45ChangepointOf
namespace Go.Proofs.Ytcjgmofgfblmnaa.Seg
open Go.RowKit Go.Proofs.YtcjgmofgfblmnaaW.PrintWords Go.Proofs.YtcjgmofgfblmnaaW.PrintLast Go.Proofs.YtcjgmofgfblmnaaW.PrintMore Go.Proofs.Ytcjgmofgfblmnaa.Q
set_option linter.unusedVariables false
set_option linter.unusedSimpArgs false
set_option linter.unusedSimpArgs false
theorem of_law_loop (a0 : Int) (l : List S41) (lev c : List Int) (n : Int) (hlc : l = mkCh (wrap64 a0) c lev) (hl : lev.length = c.length + 1) (hc : c.length ≤ 1024) : ∀ (d i : Nat), c.length - i = d → i ≤ c.length →
    Ev (fun k => sleuthlaw45_ChangepointOf.l0 k a0 l lev (i : Int) c n) true := by
  have hll : l.length = c.length := by rw [hlc, mkCh_length]
  intro d
  induction d with
  | zero =>
    intro i hd hi
    refine Ev.step (f := fun _ => some true) (fun k => ?_) (Ev.now _)
    simp only [sleuthlaw45_ChangepointOf.l0]
    rw [if_neg (by omega)]
  | succ d ih =>
    intro i hd hi
    have hlt : i < c.length := by omega
    refine Ev.step (fun k => ?_) (ih (i + 1) (by omega) (by omega))
    have hw : wrap64 ((i : Int) + 1) = ((i + 1 : Nat) : Int) := by rw [w64 (by omega) (by omega)]; omega
    have e := mkCh_get (wrap64 a0) c lev i hlt
    rw [← hlc] at e
    simp only [sleuthlaw45_ChangepointOf.l0]
    rw [hw, if_pos (by omega), if_neg (by omega), if_pos (by omega), if_pos (by omega), if_pos (by omega), if_pos (by omega), if_pos (by omega), e]
    rw [if_neg]
    show ¬ ((!((wrap64 (wrap64 a0 + c.getD i 0)) == wrap64 (wrap64 a0 + rd c (i : Int))) || (!(lev.getD i 0 == rd lev (i : Int)) || !(lev.getD (i + 1) 0 == rd lev ((i + 1 : Nat) : Int)))) = true)
    rw [rdn, rdn, rdn]
    simp
theorem lawOf (a0 : Int) (l1 : List Int) (a2 : Int) (h0 : 0 ≤ a0 ∧ a0 ≤ 255) (h1 : ∀ x ∈ l1, 0 ≤ x ∧ x ≤ 255) : Ev (fun k => sleuthlaw45_ChangepointOf.f k a0 l1 a2) true := by
  have hp := points_ev a0 l1
  have hw : wrap64 a0 = a0 := w64 (by omega) (by omega)
  obtain ⟨p1, p2⟩ := ptv_ok l1 h1
  have hs := series_points (wrap64 a0) (ptv l1) (by omega) (by omega) p1 p2
  unfold sleuthlaw45_ChangepointOf.f
  refine Ev.bind known_ev ?_
  simp only [if_true]
  refine Ev.bind hp ?_
  simp only
  by_cases h : chk (ptv l1) a2 = 0
  · obtain ⟨n, c, lev, eb, ev, hl, hc⟩ := found (ptv l1) a2 h
    refine Ev.bind (of_ok hs h eb ev hl hc) ?_
    refine Ev.bind eb ?_
    refine Ev.bind ev ?_
    simp only [if_true]
    refine Ev.step (f := fun k => sleuthlaw45_ChangepointOf.l0 k a0 (mkCh (wrap64 a0) c lev) lev 0 c n) (fun k => ?_) (of_law_loop a0 _ lev c n rfl hl hc _ 0 rfl (Nat.zero_le _))
    simp only [sleuthlaw45_ChangepointOf.j0]
    rw [if_neg (by rw [mkCh_length]; simp)]
  · obtain ⟨r, er⟩ := levels_nil (ptv l1)
    refine Ev.bind (of_bad2 hs h) ?_
    refine Ev.bind (best_err (ptv l1) a2 h) ?_
    refine Ev.bind er ?_
    simp only [if_true]
    refine Ev.step (f := fun k => sleuthlaw45_ChangepointOf.l0 k a0 [] r.1 0 [] 0) (fun k => ?_) ?_
    · simp only [sleuthlaw45_ChangepointOf.j0]
      rw [if_neg (by simp)]
    · refine Ev.step (f := fun _ => some true) (fun k => ?_) (Ev.now _)
      simp only [sleuthlaw45_ChangepointOf.l0]
      rw [if_neg (by simp)]
end Go.Proofs.Ytcjgmofgfblmnaa.Seg
