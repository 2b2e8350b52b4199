/- The law Checks: the plain side. -/
import Derived.Test.YtiimanpmidnffaaKnown
import Derived.Test.YtiimanpmidnffaaSegT
import Derived.Test.YtiimanpmidnffaaQyd
namespace Go.Proofs.Ytiimanpmidnffaa.Seg
open Go.RowKit Go.Proofs.YtiimanpmidnffaaW.PrintWords Go.Proofs.YtiimanpmidnffaaW.PrintLast Go.Proofs.YtiimanpmidnffaaW.PrintMore Go.Proofs.Ytiimanpmidnffaa.Q
set_option linter.unusedVariables false
set_option linter.unusedSimpArgs false
theorem vcheck_loop (l : List Int) (p : Int) (hl : l.length ≤ 1024) : ∀ (d i : Nat), l.length - i = d → i ≤ l.length →
    Ev (fun k => sleuthlaw44_check.l0 k l p (i : Int)) (if (l.drop i).any bad then 2 else if p < 0 then 2 else if p > 1099511627776 then 2 else 0) := by
  intro d
  induction d with
  | zero =>
    intro i hd hi
    refine Ev.step (f := fun _ => some _) (fun k => ?_) (Ev.now _)
    simp only [sleuthlaw44_check.l0]
    rw [if_neg (by omega), List.drop_eq_nil_of_le (by omega)]
    simp only [List.any_nil, Bool.false_eq_true, if_false]
    split
    · rfl
    · split <;> rfl
  | succ d ih =>
    intro i hd hi
    have h := ih (i + 1) (by omega) (by omega)
    rw [drop_any l i (by omega)]
    by_cases h1 : l.getD i 0 < -1099511627776
    · refine Ev.step (f := fun _ => some _) (fun k => ?_) (Ev.now _)
      simp only [sleuthlaw44_check.l0]
      rw [if_pos (by omega), if_pos (by omega), rdn, if_pos h1]
      have : bad (l.getD i 0) = true := by unfold bad; rw [decide_eq_true h1]; rfl
      rw [this]
      simp
    · by_cases h2 : l.getD i 0 > 1099511627776
      · refine Ev.step (f := fun _ => some _) (fun k => ?_) (Ev.now _)
        simp only [sleuthlaw44_check.l0]
        rw [if_pos (by omega), if_pos (by omega), rdn, if_neg h1, if_pos h2]
        have : bad (l.getD i 0) = true := by unfold bad; rw [decide_eq_true h2, Bool.or_true]
        rw [this]
        simp
      · have e : bad (l.getD i 0) = false := by unfold bad; rw [decide_eq_false h1, decide_eq_false h2]; rfl
        rw [e, Bool.false_or]
        refine Ev.step (fun k => ?_) h
        simp only [sleuthlaw44_check.l0]
        rw [if_pos (by omega), if_pos (by omega), rdn, if_neg h1, if_neg h2, w64 (by omega) (by omega)]
        rfl
theorem vcheck_ev (l : List Int) (p : Int) : Ev (fun k => sleuthlaw44_check.f k l p) (chk l p) := by
  unfold sleuthlaw44_check.f chk
  by_cases h1 : l.length = 0
  · refine Ev.congr (fun k => ?_) (Ev.now _)
    rw [if_pos (by omega), if_pos h1]
  · by_cases h2 : 1024 < l.length
    · refine Ev.congr (fun k => ?_) (Ev.now _)
      rw [if_neg (by omega), if_pos (by omega), if_neg h1, if_pos h2]
    · have := vcheck_loop l p (by omega) _ 0 rfl (Nat.zero_le _)
      rw [List.drop_zero] at this
      rw [if_neg h1, if_neg h2]
      refine Ev.congr (fun k => ?_) this
      rw [if_neg (by omega), if_neg (by omega)]
      rfl
theorem vpart_ok (l : List Int) (a b : Int) (h : chk l 0 = 0) (h0 : 0 ≤ a) (h1 : a < b) (h2 : b ≤ l.length) : Ev (fun k => segmentation_checkPart.f k l a b) 0 := by
  have hc := check_ev l 0
  rw [h] at hc
  unfold segmentation_checkPart.f
  refine Ev.bind hc ?_
  refine Ev.congr (fun k => ?_) (Ev.now _)
  rw [if_pos rfl, if_neg (by omega), if_neg (by omega), if_neg (by omega)]
def vseg (l : List Int) (a b : Int) : List Int := (l.take b.toNat).drop a.toNat
theorem vseg_ok {l : List Int} {a b : Int} (hP : Pts l) (h0 : 0 ≤ a) (h1 : a < b) (h2 : b ≤ l.length) : Pts (vseg l a b) ∧ vseg l a b ≠ [] := by
  have hll := hP.1
  refine ⟨⟨?_, fun x hx => hP.2 x (List.mem_of_mem_take (List.mem_of_mem_drop hx))⟩, fun e => ?_⟩
  · unfold vseg; rw [List.length_drop, List.length_take]; omega
  · have := congrArg List.length e
    unfold vseg at this
    rw [List.length_drop, List.length_take, List.length_nil] at this
    omega
theorem vMedian_ok (l : List Int) (a b : Int) (h : chk l 0 = 0) (h0 : 0 ≤ a) (h1 : a < b) (h2 : b ≤ l.length) : Ev (fun k => segmentation_Median.f k l a b) (med (vseg l a b), 0) := by
  obtain ⟨g1, g2⟩ := vseg_ok (chk_ok h).1 h0 h1 h2
  unfold segmentation_Median.f
  refine Ev.bind (vpart_ok l a b h h0 h1 h2) ?_
  refine Ev.congr (fun k => ?_) (Ev.now _)
  have e := median_eq _ g2 g1.1
  unfold vseg at e ⊢
  rw [if_pos rfl, if_pos (by omega), if_pos (by omega), if_pos (by omega), e]
  rfl
theorem pruned_err (l : List Int) (p : Int) (h : chk l p ≠ 0) : Ev (fun k => segmentation_Pruned.f k l p) ([], 0, 0, chk l p) := by
  have hc := check_ev l p
  unfold segmentation_Pruned.f
  refine Ev.bind hc ?_
  exact Ev.congr (fun k => by rw [if_neg h]) (Ev.now _)
theorem any_rep (n : Nat) : (List.replicate n (0 : Int)).any bad = false := by
  induction n with
  | zero => rfl
  | succ n ih => rw [List.replicate_succ, List.any_cons, ih]; rfl
theorem chk_long : chk (List.replicate 1025 0) 0 = 6 := by
  unfold chk
  rw [List.length_replicate, if_neg (by decide), if_pos (by decide)]
theorem chk_full : chk (List.replicate 1024 0) 0 = 0 := by
  unfold chk
  rw [List.length_replicate, if_neg (by decide), if_neg (by decide), any_rep]
  decide
theorem median_first (l : List Int) : ∃ m, Ev (fun k => segmentation_Median.f k l 0 1) (m, chk l 0) := by
  by_cases h : chk l 0 = 0
  · obtain ⟨hP, hne, _, _⟩ := chk_ok h
    have hpos : 0 < l.length := List.length_pos_iff.2 hne
    have := vMedian_ok l 0 1 h (by decide) (by decide) (by omega)
    rw [h]
    exact ⟨_, this⟩
  · refine ⟨0, ?_⟩
    have hc := check_ev l 0
    have hp : Ev (fun k => segmentation_checkPart.f k l 0 1) (chk l 0) := by
      unfold segmentation_checkPart.f
      refine Ev.bind hc ?_
      exact Ev.congr (fun k => by rw [if_neg h]) (Ev.now _)
    unfold segmentation_Median.f
    refine Ev.bind hp ?_
    exact Ev.congr (fun k => by rw [if_neg h]) (Ev.now _)
theorem counts_first (l : List Int) : ∃ out, Ev (fun k => segmentation_Counts.f k l 0) (out, chk l 0) := by
  by_cases h : chk l 0 = 0
  · obtain ⟨out, _, _, hev⟩ := counts_ev l 0 h (by decide)
    rw [h]
    exact ⟨out, hev⟩
  · exact ⟨[], counts_err l 0 h⟩
theorem lawChecks (l : List Int) (p : Int) : Ev (fun k => sleuthlaw44_SegmentationChecks.f k l p) true := by
  unfold sleuthlaw44_SegmentationChecks.f
  refine Ev.bind known_ev ?_
  simp only [if_true]
  by_cases h1 : (l.length : Int) > 40
  · rw [decide_eq_true h1]
    refine Ev.step (fun k => ?_) (Ev.bind (f := fun _ (t483 : Bool) => some t483) known_ev (Ev.now true))
    simp only [sleuthlaw44_SegmentationChecks.j0]
    rw [if_pos trivial]
  · rw [decide_eq_false h1]
    have hc := check_ev l p
    have c1 := check_ev (List.replicate 1025 0) 0
    have c2 := check_ev (List.replicate 1024 0) 0
    rw [chk_long] at c1
    rw [chk_full] at c2
    have hj : Ev (fun k => sleuthlaw44_SegmentationChecks.j1 k l p (chk l p) false) true := by
      by_cases hz : chk l p = 0
      · refine Ev.step (f := fun _ => some true) (fun k => ?_) (Ev.now true)
        simp only [sleuthlaw44_SegmentationChecks.j1]
        rw [if_neg (by decide), if_pos hz]
      · have hT := total_ev l p [] (by decide)
        rw [if_neg hz] at hT
        obtain ⟨m, hM⟩ := median_first l
        obtain ⟨out, hC⟩ := counts_first l
        have hV := verify_err l p [] [] 0 (by decide) (chk l p) hz (by rw [if_neg hz])
        refine Ev.step (f := fun k => (segmentation_Total.f k l p ([] : List Int)).bind fun bt368 => ((segmentation_Best.f k l p).bind fun bt370 => ((segmentation_Pruned.f k l p).bind fun bt376 => ((segmentation_Potentials.f k l p).bind fun bt383 => ((sleuthlaw44_check.f k l 0).bind fun t387 => ((segmentation_Median.f k l 0 1).bind fun bt388 => ((segmentation_Counts.f k l 0).bind fun bt390 => (if bt368.2 = chk l p then (if bt370.2.2 = chk l p then (if bt376.2.2.2 = chk l p then (if bt383.2 = chk l p then ((segmentation_Verify.f k l p ([] : List Int) ([] : List Int) 0).bind fun t394 => (if t394 = chk l p then (if bt388.2 = t387 then (sleuthlaw44_SegmentationChecks.j2 k (bt390.2 == t387)) else (sleuthlaw44_SegmentationChecks.j2 k false)) else (sleuthlaw44_SegmentationChecks.j2 k false))) else (sleuthlaw44_SegmentationChecks.j2 k false)) else (sleuthlaw44_SegmentationChecks.j2 k false)) else (sleuthlaw44_SegmentationChecks.j2 k false)) else (sleuthlaw44_SegmentationChecks.j2 k false))))))))) (fun k => ?_) ?_
        · simp only [sleuthlaw44_SegmentationChecks.j1]
          rw [if_neg (by decide), if_neg hz]
        · refine Ev.bind hT (Ev.bind (best_err l p hz) (Ev.bind (pruned_err l p hz) (Ev.bind (pot_err l p hz) (Ev.bind (vcheck_ev l 0) (Ev.bind hM (Ev.bind hC ?_))))))
          simp only [if_true]
          refine Ev.bind hV ?_
          simp only [if_true]
          refine Ev.step (f := fun _ => some true) (fun k => ?_) (Ev.now true)
          simp only [sleuthlaw44_SegmentationChecks.j2]
          simp
    refine Ev.step (f := fun k => (sleuthlaw44_check.f k l p).bind fun t358 => ((segmentation_Check.f k l p).bind fun t359 => (if t359 = t358 then (if 1025 ≤ 35184372088832 then ((segmentation_Check.f k (List.replicate 1025 0) 0).bind fun t363 => (if t363 = 6 then (if 1024 ≤ 35184372088832 then ((segmentation_Check.f k (List.replicate 1024 0) 0).bind fun t367 => (sleuthlaw44_SegmentationChecks.j1 k l p t358 (t367 != 0))) else (none)) else (sleuthlaw44_SegmentationChecks.j1 k l p t358 true))) else (none)) else (sleuthlaw44_SegmentationChecks.j1 k l p t358 true)))) (fun k => ?_) ?_
    · simp only [sleuthlaw44_SegmentationChecks.j0]
      rw [if_neg (by decide)]
    · refine Ev.bind (vcheck_ev l p) (Ev.bind hc ?_)
      refine Ev.congr (fun k => by rw [if_pos rfl, if_pos (by decide)]) ?_
      refine Ev.bind c1 ?_
      refine Ev.congr (fun k => by rw [if_pos rfl, if_pos (by decide)]) ?_
      exact Ev.bind (f := fun k (t367 : Int) => sleuthlaw44_SegmentationChecks.j1 k l p (chk l p) (t367 != 0)) c2 hj
end Go.Proofs.Ytiimanpmidnffaa.Seg
