/- The law Totals: the plain side. -/
import Derived.Test.YtiimanpmidnffaaKnown
import Derived.Test.YtiimanpmidnffaaQy5
import Derived.Test.YtiimanpmidnffaaQy7
namespace Go.Proofs.Ytiimanpmidnffaa.Seg
open Go.RowKit Go.Proofs.YtiimanpmidnffaaW.PrintWords Go.Proofs.YtiimanpmidnffaaW.PrintLast Go.Proofs.YtiimanpmidnffaaW.PrintMore Go.Proofs.Ytiimanpmidnffaa.Q
set_option linter.unusedVariables false
set_option linter.unusedSimpArgs false
theorem rcheck_loop (l : List Int) (p : Int) (hl : l.length ≤ 1024) : ∀ (d i : Nat), l.length - i = d → i ≤ l.length →
    Ev (fun k => sleuthlaw44_check.l0 k l p (i : Int)) (if (l.drop i).any bad then 2 else if p < 0 then 2 else if p > 1099511627776 then 2 else 0) := by
  intro d
  induction d with
  | zero =>
    intro i hd hi
    refine Ev.step (f := fun _ => some _) (fun k => ?_) (Ev.now _)
    simp only [sleuthlaw44_check.l0]
    rw [if_neg (by omega), List.drop_eq_nil_of_le (by omega)]
    simp only [List.any_nil, Bool.false_eq_true, if_false]
    split
    · rfl
    · split <;> rfl
  | succ d ih =>
    intro i hd hi
    have h := ih (i + 1) (by omega) (by omega)
    rw [drop_any l i (by omega)]
    by_cases h1 : l.getD i 0 < -1099511627776
    · refine Ev.step (f := fun _ => some _) (fun k => ?_) (Ev.now _)
      simp only [sleuthlaw44_check.l0]
      rw [if_pos (by omega), if_pos (by omega), rdn, if_pos h1]
      have : bad (l.getD i 0) = true := by unfold bad; rw [decide_eq_true h1]; rfl
      rw [this]
      simp
    · by_cases h2 : l.getD i 0 > 1099511627776
      · refine Ev.step (f := fun _ => some _) (fun k => ?_) (Ev.now _)
        simp only [sleuthlaw44_check.l0]
        rw [if_pos (by omega), if_pos (by omega), rdn, if_neg h1, if_pos h2]
        have : bad (l.getD i 0) = true := by unfold bad; rw [decide_eq_true h2, Bool.or_true]
        rw [this]
        simp
      · have e : bad (l.getD i 0) = false := by unfold bad; rw [decide_eq_false h1, decide_eq_false h2]; rfl
        rw [e, Bool.false_or]
        refine Ev.step (fun k => ?_) h
        simp only [sleuthlaw44_check.l0]
        rw [if_pos (by omega), if_pos (by omega), rdn, if_neg h1, if_neg h2, w64 (by omega) (by omega)]
        rfl
theorem rcheck_ev (l : List Int) (p : Int) : Ev (fun k => sleuthlaw44_check.f k l p) (chk l p) := by
  unfold sleuthlaw44_check.f chk
  by_cases h1 : l.length = 0
  · refine Ev.congr (fun k => ?_) (Ev.now _)
    rw [if_pos (by omega), if_pos h1]
  · by_cases h2 : 1024 < l.length
    · refine Ev.congr (fun k => ?_) (Ev.now _)
      rw [if_neg (by omega), if_pos (by omega), if_neg h1, if_pos h2]
    · have := rcheck_loop l p (by omega) _ 0 rfl (Nat.zero_le _)
      rw [List.drop_zero] at this
      rw [if_neg h1, if_neg h2]
      refine Ev.congr (fun k => ?_) this
      rw [if_neg (by omega), if_neg (by omega)]
      rfl
theorem levels_loop (r : List (List Int)) (hr : GoodParts r) (hl : r.length ≤ 2048) : ∀ (d i : Nat) (out : List Int), r.length - i = d → i ≤ r.length → out.length = i →
    Ev (fun k => segmentation_Levels.l0 k out r (r.length : Int) (i : Int)) (out ++ (r.drop i).map med, 0) := by
  intro d
  induction d with
  | zero =>
    intro i out hd hi ho
    refine Ev.step (f := fun _ => some _) (fun k => ?_) (Ev.now _)
    simp only [segmentation_Levels.l0]
    rw [if_neg (by omega), List.drop_eq_nil_of_le (by omega)]
    simp
  | succ d ih =>
    intro i out hd hi ho
    have hlt : i < r.length := by omega
    obtain ⟨g1, g2⟩ := hr _ (memL r i hlt)
    rw [dropL_cons r i hlt, List.map_cons]
    have := ih (i + 1) (out ++ [med (r.getD i [])]) (by omega) (by omega) (by simp [ho])
    rw [List.append_assoc] at this
    refine Ev.step (fun k => ?_) this
    have e : segmentation_median.f (rd_L1 r (i : Int)) = some (med (r.getD i [])) := median_eq _ g1 g2.1
    simp only [segmentation_Levels.l0]
    rw [if_pos (by omega), if_pos (by omega), if_pos (by omega), e, Option.bind_some, if_pos (by omega), w64 (x := (i : Int) + 1) (by omega) (by omega)]
    rfl
theorem levels_ev (l cuts : List Int) (p : Int) (h : chk l p = 0) (hc : cuts.length ≤ 1024) : Ev (fun k => segmentation_Levels.f k l cuts) (if cutErr l.length 0 cuts = 0 then ((prt l 0 cuts).map med, 0) else ([], cutErr l.length 0 cuts)) := by
  obtain ⟨hP, hl, h0, h1⟩ := chk_ok h
  have h00 : chk l 0 = 0 := chk_mk hP hl (by decide) (by decide)
  have hk := check_ev l 0
  rw [h00] at hk
  have he := cuts_ev l cuts hP.1 (by omega)
  unfold segmentation_Levels.f
  refine Ev.bind hk ?_
  simp only [if_true]
  refine Ev.bind he ?_
  by_cases e : cutErr l.length 0 cuts = 0
  · rw [if_pos e]
    obtain ⟨g1, g2⟩ := good_prt hP hl e
    have hpl := prt_length l cuts 0
    have := levels_loop (prt l 0 cuts) g1 (by omega) _ 0 [] rfl (Nat.zero_le _) rfl
    rw [List.drop_zero, List.nil_append] at this
    have hpe := parts_ev l cuts hP.1 hc e
    refine Ev.congr (fun k => if_pos e) ?_
    exact Ev.bind hpe this
  · rw [if_neg e]
    exact Ev.congr (fun k => if_neg e) (Ev.now _)
theorem tl0_loop (r : List (List Int)) (hr : GoodParts r) (hl : r.length ≤ 2048) (n : Int) : ∀ (d i : Nat), r.length - i = d → i ≤ r.length →
    Ev (fun k => sleuthlaw44_SegmentationTotals.l0 k n 0 (r.map med) 0 n r (i : Int)) true := by
  intro d
  induction d with
  | zero =>
    intro i hd hi
    refine Ev.step (f := fun _ => some _) (fun k => ?_) (Ev.now _)
    simp only [sleuthlaw44_SegmentationTotals.l0]
    rw [if_neg (by omega), if_pos trivial]
    rfl
  | succ d ih =>
    intro i hd hi
    have hlt : i < r.length := by omega
    obtain ⟨g1, g2⟩ := hr _ (memL r i hlt)
    have e : (r.map med).getD i 0 = med (r.getD i []) := by
      rw [List.getD_eq_getElem?_getD, List.getD_eq_getElem?_getD, List.getElem?_map, List.getElem?_eq_getElem hlt]; rfl
    have n1 := ih (i + 1) (by omega) (by omega)
    have hlm : (r.map med).length = r.length := List.length_map _
    refine Ev.step (fun k => ?_) (Ev.bind (f := fun (k : Nat) (t498 : Int) => if (rd (r.map med) (i : Int)) = t498 then (sleuthlaw44_SegmentationTotals.l0 k n 0 (r.map med) 0 n r (((i + 1 : Nat) : Int))) else (some false)) (rmed_ev (r.getD i []) g2.1 g1) (Ev.congr (fun k => ?_) n1))
    · simp only [sleuthlaw44_SegmentationTotals.l0]
      rw [if_pos (by omega), if_pos (by omega), if_pos (by omega), w64 (x := (i : Int) + 1) (by omega) (by omega)]
      rfl
    · rw [rdn, e, if_pos rfl]
theorem lawTotals (l0 : List Int) (a1 : Int) (l2 : List Int) : Ev (fun k => sleuthlaw44_SegmentationTotals.f k l0 a1 l2) true := by
  have hj : Ev (fun k => sleuthlaw44_SegmentationTotals.j0 k l0 a1 l2 true) true := by
    refine Ev.step (fun k => ?_) (Ev.bind (f := fun _ (t483 : Bool) => some t483) known_ev (Ev.now true))
    simp only [sleuthlaw44_SegmentationTotals.j0]
    rw [if_pos trivial]
  unfold sleuthlaw44_SegmentationTotals.f
  refine Ev.bind known_ev ?_
  simp only [if_true]
  by_cases h1 : (l0.length : Int) > 40
  · exact Ev.congr (fun k => if_pos h1) hj
  · by_cases h2 : (l2.length : Int) > 40
    · exact Ev.congr (fun k => by rw [if_neg h1, if_pos h2]) hj
    · refine Ev.congr (fun k => by rw [if_neg h1, if_neg h2]) (Ev.bind (f := fun (k : Nat) (t482 : Int) => sleuthlaw44_SegmentationTotals.j0 k l0 a1 l2 (t482 != 0)) (rcheck_ev l0 a1) ?_)
      by_cases hc : chk l0 a1 = 0
      · rw [hc]
        obtain ⟨hP, hl, _, _⟩ := chk_ok hc
        have hT := total_ev l0 a1 l2 (by omega)
        rw [if_pos hc] at hT
        have hL := levels_ev l0 l2 a1 hc (by omega)
        have hR := rtotal_ev l0 a1 l2 hc (by omega)
        have hD := div_ev l0 l2 hP.1 (by omega)
        refine Ev.step (f := fun k => (segmentation_Total.f k l0 a1 l2).bind fun bt484 => ((segmentation_Levels.f k l0 l2).bind fun bt486 => ((sleuthlaw44_total.f k l0 a1 l2).bind fun bt490 => (if bt490.2 = 0 then ((sleuthlaw44_divided.f k l0 l2).bind fun bt492 => (if (bt486.1.length : Int) = (bt492.1.length : Int) then (sleuthlaw44_SegmentationTotals.l0 k bt484.1 bt484.2 bt486.1 bt486.2 bt490.1 bt492.1 0) else (some false))) else (if bt484.1 = 0 then (if bt484.2 = bt490.2 then (if (bt486.1.length : Int) = 0 then (some (bt486.2 == bt490.2)) else (some false)) else (some false)) else (some false)))))) (fun k => ?_) ?_
        · simp only [sleuthlaw44_SegmentationTotals.j0]
          rw [if_neg (by decide)]
        · refine Ev.bind hT (Ev.bind hL (Ev.bind hR ?_))
          by_cases e : cutErr l0.length 0 l2 = 0
          · obtain ⟨g1, g2⟩ := good_prt hP hl e
            have hpl := prt_length l0 l2 0
            simp only [e, if_true] at hD ⊢
            refine Ev.bind hD ?_
            have := tl0_loop (prt l0 0 l2) g1 (by omega) (tot l0 a1 l2) _ 0 rfl (Nat.zero_le _)
            refine Ev.congr (fun k => if_pos (by simp)) this
          · simp only [e, if_false, if_true, List.length_nil]
            exact Ev.congr (fun k => by simp) (Ev.now true)
      · have : (chk l0 a1 != 0) = true := by simp [hc]
        rw [this]
        exact hj
end Go.Proofs.Ytiimanpmidnffaa.Seg
