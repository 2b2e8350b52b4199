/- The law Best: the plain side. -/
import Derived.Test.YtiimanpmidnffaaSegJ
import Derived.Test.YtiimanpmidnffaaQx10
namespace Go.Proofs.Ytiimanpmidnffaa.Seg
open Go.RowKit Go.Proofs.YtiimanpmidnffaaW.PrintWords Go.Proofs.YtiimanpmidnffaaW.PrintLast Go.Proofs.YtiimanpmidnffaaW.PrintMore Go.Proofs.Ytiimanpmidnffaa.Q
set_option linter.unusedVariables false
set_option linter.unusedSimpArgs false
theorem u8_bd {x : Int} (h : (Lit.int .u8 x).wf = true) : 0 ≤ x ∧ x ≤ 255 := by
  simp only [Lit.wf, IntKind.min, IntKind.max, IntKind.signed, IntKind.bits, Bool.and_eq_true, decide_eq_true_eq] at h
  simpa using h
theorem pen_eq {a : Int} (h : 0 ≤ a ∧ a ≤ 255) : wrap64 (Int.tmod a 64) = a % 64 := by
  rw [Int.tmod_eq_emod_of_nonneg h.1, w64 (by omega) (by omega)]
theorem chk_pnts (l : List Int) {p : Int} (h0 : 0 ≤ p) (h1 : p ≤ 1099511627776) : chk (pnts l) p = 0 := chk_mk (pnts_Pts l) (pnts_ok l).1 h0 h1
theorem same_true (a : List Int) (h : a.length ≤ 1099511627776) : Ev (fun k => sleuthlaw44_same.f k a a) true := by
  have := same_ev a a h
  rw [decide_eq_true rfl] at this
  exact this
theorem lawBest (l0 : List Int) (a1 : Int) (h0 : ∀ x ∈ l0, 0 ≤ x ∧ x ≤ 255) (h1 : 0 ≤ a1 ∧ a1 ≤ 255) : Ev (fun k => sleuthlaw44_SegmentationBest.f k l0 a1) true := by
  have hp := pen_eq h1
  have hc := chk_pnts l0 (p := a1 % 64) (by omega) (by omega)
  have hP := points_ev l0 h0
  obtain ⟨n, c, hB, hb⟩ := best_ev _ _ hc
  have hlen := (pnts_ok l0).2.1
  have hr := rbest_all _ _ hc (Nat.le_trans hlen (by decide)) hB
  have hs := same_true c (by have := hB.cut.len; omega)
  unfold sleuthlaw44_SegmentationBest.f
  rw [hp]
  refine Ev.bind known_ev ?_
  simp only [if_true]
  refine Ev.bind hP (Ev.bind hb (Ev.bind hr ?_))
  simp only [if_true]
  refine Ev.bind hs ?_
  simp only [if_true, beq_self_eq_true]
  exact Ev.now true
end Go.Proofs.Ytiimanpmidnffaa.Seg
