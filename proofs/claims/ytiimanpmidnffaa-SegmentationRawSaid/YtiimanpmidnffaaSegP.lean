/- The law Costs: the plain side. -/
import Derived.Test.YtiimanpmidnffaaKnown
import Derived.Test.YtiimanpmidnffaaQy5
import Derived.Test.YtiimanpmidnffaaQy8
import Derived.Test.YtiimanpmidnffaaQy9
namespace Go.Proofs.Ytiimanpmidnffaa.Seg
open Go.RowKit Go.Proofs.YtiimanpmidnffaaW.PrintWords Go.Proofs.YtiimanpmidnffaaW.PrintLast Go.Proofs.YtiimanpmidnffaaW.PrintMore Go.Proofs.Ytiimanpmidnffaa.Q
set_option linter.unusedVariables false
set_option linter.unusedSimpArgs false
theorem pcheck_loop (l : List Int) (p : Int) (hl : l.length ≤ 1024) : ∀ (d i : Nat), l.length - i = d → i ≤ l.length →
    Ev (fun k => sleuthlaw44_check.l0 k l p (i : Int)) (if (l.drop i).any bad then 2 else if p < 0 then 2 else if p > 1099511627776 then 2 else 0) := by
  intro d
  induction d with
  | zero =>
    intro i hd hi
    refine Ev.step (f := fun _ => some _) (fun k => ?_) (Ev.now _)
    simp only [sleuthlaw44_check.l0]
    rw [if_neg (by omega), List.drop_eq_nil_of_le (by omega)]
    simp only [List.any_nil, Bool.false_eq_true, if_false]
    split
    · rfl
    · split <;> rfl
  | succ d ih =>
    intro i hd hi
    have h := ih (i + 1) (by omega) (by omega)
    rw [drop_any l i (by omega)]
    by_cases h1 : l.getD i 0 < -1099511627776
    · refine Ev.step (f := fun _ => some _) (fun k => ?_) (Ev.now _)
      simp only [sleuthlaw44_check.l0]
      rw [if_pos (by omega), if_pos (by omega), rdn, if_pos h1]
      have : bad (l.getD i 0) = true := by unfold bad; rw [decide_eq_true h1]; rfl
      rw [this]
      simp
    · by_cases h2 : l.getD i 0 > 1099511627776
      · refine Ev.step (f := fun _ => some _) (fun k => ?_) (Ev.now _)
        simp only [sleuthlaw44_check.l0]
        rw [if_pos (by omega), if_pos (by omega), rdn, if_neg h1, if_pos h2]
        have : bad (l.getD i 0) = true := by unfold bad; rw [decide_eq_true h2, Bool.or_true]
        rw [this]
        simp
      · have e : bad (l.getD i 0) = false := by unfold bad; rw [decide_eq_false h1, decide_eq_false h2]; rfl
        rw [e, Bool.false_or]
        refine Ev.step (fun k => ?_) h
        simp only [sleuthlaw44_check.l0]
        rw [if_pos (by omega), if_pos (by omega), rdn, if_neg h1, if_neg h2, w64 (by omega) (by omega)]
        rfl
theorem pcheck_ev (l : List Int) (p : Int) : Ev (fun k => sleuthlaw44_check.f k l p) (chk l p) := by
  unfold sleuthlaw44_check.f chk
  by_cases h1 : l.length = 0
  · refine Ev.congr (fun k => ?_) (Ev.now _)
    rw [if_pos (by omega), if_pos h1]
  · by_cases h2 : 1024 < l.length
    · refine Ev.congr (fun k => ?_) (Ev.now _)
      rw [if_neg (by omega), if_pos (by omega), if_neg h1, if_pos h2]
    · have := pcheck_loop l p (by omega) _ 0 rfl (Nat.zero_le _)
      rw [List.drop_zero] at this
      rw [if_neg h1, if_neg h2]
      refine Ev.congr (fun k => ?_) this
      rw [if_neg (by omega), if_neg (by omega)]
      rfl
theorem mx_wide (x m : Int) (hx : -1099511627776 ≤ x ∧ x ≤ 1099511627776) (hm : -2199023255552 < m ∧ m < 2199023255552) : mx (wrap64 (x - m)) (wrap64 (m - x)) = max (x - m) (m - x) := by
  rw [w64 (x := x - m) (by omega) (by omega), w64 (x := m - x) (by omega) (by omega)]
  unfold mx
  split <;> omega
theorem wdev_loop (l : List Int) (hP : Pts l) (m : Int) (hm : -2199023255552 < m ∧ m < 2199023255552) : ∀ (d i : Nat) (acc : Int), l.length - i = d → i ≤ l.length → 0 ≤ acc → acc ≤ 4398046511104 * (i : Int) →
    Ev (fun k => sleuthlaw44_deviation.l0 k l m acc (i : Int)) (acc + dev (l.drop i) m) := by
  have hll := hP.1
  intro d
  induction d with
  | zero =>
    intro i acc hd hi _ _
    refine Ev.step (f := fun _ => some _) (fun k => ?_) (Ev.now _)
    simp only [sleuthlaw44_deviation.l0]
    rw [if_neg (by omega), List.drop_eq_nil_of_le (by omega)]
    simp [dev]
  | succ d ih =>
    intro i acc hd hi ha hb
    have hx := hP.2 _ (getD_mem (xs := l) (i := i) (by omega))
    have := ih (i + 1) (acc + max (l.getD i 0 - m) (m - l.getD i 0)) (by omega) (by omega) (by omega) (by omega)
    rw [dev_drop l m i (by omega), ← Int.add_assoc]
    refine Ev.step (fun k => ?_) this
    simp only [sleuthlaw44_deviation.l0]
    rw [if_pos (by omega), if_pos (by omega), rdn, mx_wide _ _ hx hm, w64 (x := acc + _) (by omega) (by omega), w64 (x := (i : Int) + 1) (by omega) (by omega)]
    rfl
theorem wdev_ev (l : List Int) (hP : Pts l) (m : Int) (hm : -2199023255552 < m ∧ m < 2199023255552) : Ev (fun k => sleuthlaw44_deviation.f k l m) (dev l m) := by
  have := wdev_loop l hP m hm (l.length - 0) 0 0 rfl (Nat.zero_le _) (by omega) (by omega)
  rw [List.drop_zero, Int.zero_add] at this
  exact this
theorem part_ok (l : List Int) (a b : Int) (h : chk l 0 = 0) (h0 : 0 ≤ a) (h1 : a < b) (h2 : b ≤ l.length) : Ev (fun k => segmentation_checkPart.f k l a b) 0 := by
  have hc := check_ev l 0
  rw [h] at hc
  unfold segmentation_checkPart.f
  refine Ev.bind hc ?_
  refine Ev.congr (fun k => ?_) (Ev.now _)
  rw [if_pos rfl, if_neg (by omega), if_neg (by omega), if_neg (by omega)]
theorem part_bad (l : List Int) (a b : Int) (h : chk l 0 = 0) (hb : a < 0 ∨ b ≤ a ∨ (l.length : Int) < b) : Ev (fun k => segmentation_checkPart.f k l a b) 2 := by
  have hc := check_ev l 0
  rw [h] at hc
  unfold segmentation_checkPart.f
  refine Ev.bind hc ?_
  refine Ev.congr (fun k => ?_) (Ev.now _)
  rw [if_pos rfl]
  by_cases c1 : a < 0
  · rw [if_pos c1]
  · rw [if_neg c1]
    by_cases c2 : a ≥ b
    · rw [if_pos c2]
    · rw [if_neg c2, if_pos (by omega)]
def seg (l : List Int) (a b : Int) : List Int := (l.take b.toNat).drop a.toNat
theorem seg_ok {l : List Int} {a b : Int} (hP : Pts l) (h0 : 0 ≤ a) (h1 : a < b) (h2 : b ≤ l.length) : Pts (seg l a b) ∧ seg l a b ≠ [] := by
  have hll := hP.1
  refine ⟨⟨?_, fun x hx => hP.2 x (List.mem_of_mem_take (List.mem_of_mem_drop hx))⟩, fun e => ?_⟩
  · unfold seg; rw [List.length_drop, List.length_take]; omega
  · have := congrArg List.length e
    unfold seg at this
    rw [List.length_drop, List.length_take, List.length_nil] at this
    omega
theorem Median_ok (l : List Int) (a b : Int) (h : chk l 0 = 0) (h0 : 0 ≤ a) (h1 : a < b) (h2 : b ≤ l.length) : Ev (fun k => segmentation_Median.f k l a b) (med (seg l a b), 0) := by
  obtain ⟨g1, g2⟩ := seg_ok (chk_ok h).1 h0 h1 h2
  unfold segmentation_Median.f
  refine Ev.bind (part_ok l a b h h0 h1 h2) ?_
  refine Ev.congr (fun k => ?_) (Ev.now _)
  have e := median_eq _ g2 g1.1
  unfold seg at e ⊢
  rw [if_pos rfl, if_pos (by omega), if_pos (by omega), if_pos (by omega), e]
  rfl
theorem Median_bad (l : List Int) (a b : Int) (h : chk l 0 = 0) (hb : a < 0 ∨ b ≤ a ∨ (l.length : Int) < b) : Ev (fun k => segmentation_Median.f k l a b) (0, 2) := by
  unfold segmentation_Median.f
  refine Ev.bind (part_bad l a b h hb) ?_
  exact Ev.congr (fun k => by rw [if_neg (by decide)]) (Ev.now _)
theorem Cost_ok (l : List Int) (a b : Int) (h : chk l 0 = 0) (h0 : 0 ≤ a) (h1 : a < b) (h2 : b ≤ l.length) : Ev (fun k => segmentation_Cost.f k l a b) (cst (seg l a b), 0) := by
  obtain ⟨g1, g2⟩ := seg_ok (chk_ok h).1 h0 h1 h2
  unfold segmentation_Cost.f
  refine Ev.bind (part_ok l a b h h0 h1 h2) ?_
  have e := cost_ev _ g1 g2
  refine Ev.congr (fun k => ?_) (Ev.bind (f := fun _ (t : Int) => some (t, (0 : Int))) e (Ev.now _))
  rw [if_pos rfl, if_pos (by omega), if_pos (by omega), if_pos (by omega)]
  rfl
theorem Cost_bad (l : List Int) (a b : Int) (h : chk l 0 = 0) (hb : a < 0 ∨ b ≤ a ∨ (l.length : Int) < b) : Ev (fun k => segmentation_Cost.f k l a b) (0, 2) := by
  unfold segmentation_Cost.f
  refine Ev.bind (part_bad l a b h hb) ?_
  exact Ev.congr (fun k => by rw [if_neg (by decide)]) (Ev.now _)
theorem lawCosts (l0 : List Int) (a b c : Int) : Ev (fun k => sleuthlaw44_SegmentationCosts.f k l0 a b c) true := by
  have hj : Ev (fun k => sleuthlaw44_SegmentationCosts.j0 k l0 c true a b) true := by
    refine Ev.step (fun k => ?_) (Ev.bind (f := fun _ (t483 : Bool) => some t483) known_ev (Ev.now true))
    simp only [sleuthlaw44_SegmentationCosts.j0]
    rw [if_pos trivial]
  unfold sleuthlaw44_SegmentationCosts.f
  refine Ev.bind known_ev ?_
  simp only [if_true]
  by_cases h1 : (l0.length : Int) > 40
  · exact Ev.congr (fun k => if_pos h1) hj
  · refine Ev.congr (fun k => by rw [if_neg h1]) (Ev.bind (f := fun (k : Nat) (t316 : Int) => sleuthlaw44_SegmentationCosts.j0 k l0 c (t316 != 0) a b) (pcheck_ev l0 0) ?_)
    by_cases hc : chk l0 0 = 0
    · rw [hc]
      obtain ⟨hP, hl, _, _⟩ := chk_ok hc
      refine Ev.step (f := fun k => (segmentation_Median.f k l0 a b).bind fun bt318 => ((segmentation_Cost.f k l0 a b).bind fun bt320 => (if a < 0 then (sleuthlaw44_SegmentationCosts.j1 k l0 c a b bt318.1 bt318.2 bt320.1 bt320.2 true) else (if a ≥ b then (sleuthlaw44_SegmentationCosts.j1 k l0 c a b bt318.1 bt318.2 bt320.1 bt320.2 true) else (sleuthlaw44_SegmentationCosts.j1 k l0 c a b bt318.1 bt318.2 bt320.1 bt320.2 (decide (b > (l0.length : Int)))))))) (fun k => ?_) ?_
      · simp only [sleuthlaw44_SegmentationCosts.j0]
        rw [if_neg (by decide)]
      · by_cases hg : 0 ≤ a ∧ a < b ∧ b ≤ (l0.length : Int)
        · obtain ⟨g0, g1, g2⟩ := hg
          refine Ev.bind (Median_ok l0 a b hc g0 g1 g2) (Ev.bind (Cost_ok l0 a b hc g0 g1 g2) ?_)
          obtain ⟨s1, s2⟩ := seg_ok hP g0 g1 g2
          have hend : Ev (fun k => sleuthlaw44_SegmentationCosts.j2 k l0 a b (med (seg l0 a b)) 0 (cst (seg l0 a b)) 0 false) true := by
            refine Ev.step (fun k => ?_) (Ev.bind (f := fun (k : Nat) (t325 : Int) => if med (seg l0 a b) = t325 then ((sleuthlaw44_cost.f k (seg l0 a b)).bind fun t327 => some (cst (seg l0 a b) == t327)) else some false) (rmed_ev (seg l0 a b) s1.1 s2) (Ev.congr (fun k => ?_) (Ev.bind (f := fun _ (t327 : Int) => some (cst (seg l0 a b) == t327)) (rcost_ev (seg l0 a b) s1 s2) (Ev.congr (fun k => ?_) (Ev.now true)))))
            · simp only [sleuthlaw44_SegmentationCosts.j2]
              rw [if_neg (by decide), if_pos (by decide), if_pos (by omega), if_pos (by omega), if_pos (by omega)]
              rfl
            · rw [if_pos rfl]
            · simp
          refine Ev.congr (f := fun k => sleuthlaw44_SegmentationCosts.j1 k l0 c a b (med (seg l0 a b)) 0 (cst (seg l0 a b)) 0 false) (fun k => ?_) ?_
          · have : decide (b > (l0.length : Int)) = false := decide_eq_false (by omega)
            rw [if_neg (by omega), if_neg (by omega), this]
          · by_cases c1 : c > -2199023255552
            · by_cases c2 : c < 2199023255552
              · refine Ev.step (fun k => ?_) (Ev.bind (f := fun (k : Nat) (t323 : Int) => sleuthlaw44_SegmentationCosts.j2 k l0 a b (med (seg l0 a b)) 0 (cst (seg l0 a b)) 0 (decide (t323 < cst (seg l0 a b)))) (wdev_ev (seg l0 a b) s1 c ⟨by omega, c2⟩) ?_)
                · simp only [sleuthlaw44_SegmentationCosts.j1]
                  rw [if_neg (by decide), if_pos c1, if_pos c2, if_pos (by omega), if_pos (by omega), if_pos (by omega)]
                  rfl
                · have : decide (dev (seg l0 a b) c < cst (seg l0 a b)) = false := decide_eq_false (by have := cst_min (seg l0 a b) c; omega)
                  rw [this]
                  exact hend
              · refine Ev.step (fun k => ?_) hend
                simp only [sleuthlaw44_SegmentationCosts.j1]
                rw [if_neg (by decide), if_pos c1, if_neg c2]
            · refine Ev.step (fun k => ?_) hend
              simp only [sleuthlaw44_SegmentationCosts.j1]
              rw [if_neg (by decide), if_neg c1]
        · have hb : a < 0 ∨ b ≤ a ∨ (l0.length : Int) < b := by omega
          refine Ev.bind (Median_bad l0 a b hc hb) (Ev.bind (Cost_bad l0 a b hc hb) ?_)
          have hend : Ev (fun k => sleuthlaw44_SegmentationCosts.j1 k l0 c a b 0 2 0 2 true) true := by
            refine Ev.step (f := fun _ => some true) (fun k => ?_) (Ev.now _)
            simp only [sleuthlaw44_SegmentationCosts.j1]
            rfl
          refine Ev.congr (fun k => ?_) hend
          by_cases c1 : a < 0
          · rw [if_pos c1]
          · rw [if_neg c1]
            by_cases c2 : a ≥ b
            · rw [if_pos c2]
            · rw [if_neg c2]
              have : decide (b > (l0.length : Int)) = true := decide_eq_true (by omega)
              rw [this]
    · have : (chk l0 0 != 0) = true := by simp [hc]
      rw [this]
      exact hj
end Go.Proofs.Ytiimanpmidnffaa.Seg
