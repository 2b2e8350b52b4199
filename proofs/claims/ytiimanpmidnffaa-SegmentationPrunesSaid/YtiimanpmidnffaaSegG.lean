/- What the printed functions of segmentation compute, part G: Check, Best, Potentials, Total, Levels, Verify. -/
import Derived.Test.YtiimanpmidnffaaSegE
import Derived.Test.YtiimanpmidnffaaSegF
import Derived.Test.YtiimanpmidnffaaQx5
import Derived.Test.YtiimanpmidnffaaQx6
import Derived.Test.YtiimanpmidnffaaQx7
namespace Go.Proofs.Ytiimanpmidnffaa.Seg
open Go.RowKit Go.Proofs.YtiimanpmidnffaaW.PrintWords Go.Proofs.YtiimanpmidnffaaW.PrintLast Go.Proofs.YtiimanpmidnffaaW.PrintMore Go.Proofs.Ytiimanpmidnffaa.Q
set_option linter.unusedVariables false
set_option linter.unusedSimpArgs false
def bad (x : Int) : Bool := decide (x < -1099511627776) || decide (x > 1099511627776)
/-- The error of points and a penalty. -/
def chk (l : List Int) (p : Int) : Int := if l.length = 0 then 7 else if 1024 < l.length then 6 else if l.any bad then 2 else if p < 0 then 2 else if p > 1099511627776 then 2 else 0
theorem drop_any (l : List Int) (i : Nat) (h : i < l.length) : (l.drop i).any bad = (bad (l.getD i 0) || (l.drop (i + 1)).any bad) := by
  rw [List.drop_eq_getElem_cons h, List.any_cons, List.getD_eq_getElem?_getD, List.getElem?_eq_getElem h]
  rfl
theorem check_loop (l : List Int) (p : Int) (hl : l.length ≤ 1024) : ∀ (d i : Nat), l.length - i = d → i ≤ l.length →
    Ev (fun k => segmentation_Check.l0 k p l (l.length : Int) (i : Int)) (if (l.drop i).any bad then 2 else if p < 0 then 2 else if p > 1099511627776 then 2 else 0) := by
  intro d
  induction d with
  | zero =>
    intro i hd hi
    refine Ev.step (f := fun _ => some _) (fun k => ?_) (Ev.now _)
    simp only [segmentation_Check.l0]
    rw [if_neg (by omega), List.drop_eq_nil_of_le (by omega)]
    simp only [List.any_nil, Bool.false_eq_true, if_false]
    split
    · rfl
    · split <;> rfl
  | succ d ih =>
    intro i hd hi
    have h := ih (i + 1) (by omega) (by omega)
    rw [drop_any l i (by omega)]
    by_cases h1 : l.getD i 0 < -1099511627776
    · refine Ev.step (f := fun _ => some _) (fun k => ?_) (Ev.now _)
      simp only [segmentation_Check.l0]
      rw [if_pos (by omega), if_pos (by omega), if_pos (by omega), rdn, if_pos h1]
      have : bad (l.getD i 0) = true := by unfold bad; rw [decide_eq_true h1]; rfl
      rw [this]
      simp
    · by_cases h2 : l.getD i 0 > 1099511627776
      · refine Ev.step (f := fun _ => some _) (fun k => ?_) (Ev.now _)
        simp only [segmentation_Check.l0]
        rw [if_pos (by omega), if_pos (by omega), if_pos (by omega), rdn, if_neg h1, if_pos h2]
        have : bad (l.getD i 0) = true := by unfold bad; rw [decide_eq_true h2, Bool.or_true]
        rw [this]
        simp
      · have e : bad (l.getD i 0) = false := by unfold bad; rw [decide_eq_false h1, decide_eq_false h2]; rfl
        rw [e, Bool.false_or]
        refine Ev.step (fun k => ?_) h
        simp only [segmentation_Check.l0]
        rw [if_pos (by omega), if_pos (by omega), if_pos (by omega), rdn, if_neg h1, if_neg h2, w64 (by omega) (by omega)]
        rfl
theorem check_ev (l : List Int) (p : Int) : Ev (fun k => segmentation_Check.f k l p) (chk l p) := by
  unfold chk
  by_cases h0 : l.length = 0
  · refine Ev.congr (fun k => ?_) (Ev.now _)
    unfold segmentation_Check.f
    rw [if_pos (by omega), if_pos h0]
  · by_cases h1 : 1024 < l.length
    · refine Ev.congr (fun k => ?_) (Ev.now _)
      unfold segmentation_Check.f
      rw [if_neg (by omega), if_pos (by omega), if_neg h0, if_pos h1]
    · rw [if_neg h0, if_neg h1]
      refine Ev.congr (fun k => ?_) (check_loop l p (by omega) (l.length - 0) 0 rfl (Nat.zero_le _))
      unfold segmentation_Check.f
      rw [if_neg (by omega), if_neg (by omega)]
      rfl
theorem chk_ok {l : List Int} {p : Int} (h : chk l p = 0) : Pts l ∧ l ≠ [] ∧ 0 ≤ p ∧ p ≤ 1099511627776 := by
  unfold chk at h
  split at h
  · omega
  · split at h
    · omega
    · split at h
      · omega
      · rename_i h3
        split at h
        · omega
        · split at h
          · omega
          · refine ⟨⟨by omega, fun x hx => ?_⟩, by intro e; subst e; simp at *, by omega, by omega⟩
            have := fun hb => h3 (List.any_eq_true.2 ⟨x, hx, hb⟩)
            unfold bad at this
            simp at this
            omega
theorem chk_mk {l : List Int} {p : Int} (h : Pts l) (hl : l ≠ []) (h0 : 0 ≤ p) (h1 : p ≤ 1099511627776) : chk l p = 0 := by
  have h2 := List.length_pos_iff.2 hl
  have h3 := h.1
  unfold chk
  rw [if_neg (by omega), if_neg (by omega), if_neg, if_neg (by omega), if_neg (by omega)]
  intro h4
  obtain ⟨x, hx, hb⟩ := List.any_eq_true.1 h4
  have := h.2 x hx
  unfold bad at hb
  simp at hb
  omega
theorem segm_eq (all : List S74) (h : all ≠ []) (hl : all.length ≤ 1025) (hc : (all.getD (all.length - 1) z74).f1.length ≤ 1024) :
    segmentation_segmentation.f all = some ((all.getD (all.length - 1) z74).f1, (all.getD (all.length - 1) z74).f0) := by
  have h1 := List.length_pos_iff.2 h
  have e : wrap64 ((all.length : Int) - 1) = ((all.length - 1 : Nat) : Int) := by rw [w64 (by omega) (by omega)]; omega
  have ea : rd_T74 all ((all.length - 1 : Nat) : Int) = all.getD (all.length - 1) z74 := rfl
  unfold segmentation_segmentation.f slices_Clone_int_int.f
  rw [e, if_pos (by omega), if_pos (by omega), ea, if_pos (by omega)]
  rfl
/-- Best. -/
theorem best_ev (l : List Int) (p : Int) (h : chk l p = 0) : ∃ n c, Best l p l.length n c ∧ Ev (fun k => segmentation_Best.f k l p) (c, n, 0) := by
  obtain ⟨hP, hl, h0, h1⟩ := chk_ok h
  have hll := hP.1
  obtain ⟨all, asked, hev, h2, h3⟩ := solve_ev l p hP h0 h1
  have h4 : Row l p l.length (all.getD l.length z74).f0 (all.getD l.length z74).f1 := h3 l.length (by omega)
  rcases h4 with ⟨e, _, _⟩ | h4
  · exact absurd (List.length_eq_zero_iff.1 e) hl
  · have h5 := h4.cut.len
    refine ⟨_, _, h4, ?_⟩
    have e : all.length - 1 = l.length := by omega
    have := Ev.bind (f := fun k bt208 => (segmentation_segmentation.f bt208.1).bind fun bt212 => some (bt212.1, bt212.2, (0 : Int))) hev
      (Ev.congr (fun k => by simp only []; rw [segm_eq all (by intro e; subst e; simp at h2) (by omega) (by rw [e]; omega), e]; rfl) (Ev.now ((all.getD l.length z74).f1, (all.getD l.length z74).f0, (0 : Int))))
    have hc := check_ev l p
    rw [h] at hc
    refine Ev.congr (fun k => ?_) (Ev.bind (f := fun k t207 => if t207 = 0 then ((segmentation_solve.f k l p false).bind fun bt208 => ((segmentation_segmentation.f bt208.1).bind fun bt212 => (some (bt212.1, bt212.2, (0 : Int))))) else (some (([] : List Int), 0, t207))) hc (Ev.congr (fun k => if_pos rfl) this))
    rfl
theorem best_err (l : List Int) (p : Int) (h : chk l p ≠ 0) : Ev (fun k => segmentation_Best.f k l p) ([], 0, chk l p) := by
  refine Ev.congr (fun k => ?_) (Ev.bind (f := fun k t207 => if t207 = 0 then ((segmentation_solve.f k l p false).bind fun bt208 => ((segmentation_segmentation.f bt208.1).bind fun bt212 => (some (bt212.1, bt212.2, (0 : Int))))) else (some (([] : List Int), 0, t207))) (check_ev l p) (Ev.congr (fun k => if_neg h) (Ev.now _)))
  rfl
/-- Potentials. -/
theorem pot_loop (all : List S74) (hl : all.length ≤ 1025) : ∀ (d i : Nat) (out : List Int), all.length - i = d → i ≤ all.length → out.length = all.length → (∀ j, j < i → out.getD j 0 = (all.getD j z74).f0) →
    Ev (fun k => segmentation_Potentials.l0 k out all (all.length : Int) (i : Int)) (all.map S74.f0, 0) := by
  intro d
  induction d with
  | zero =>
    intro i out hd hi ho hinv
    have e : out = all.map S74.f0 := by
      apply List.ext_getElem?
      intro j
      rcases Nat.lt_or_ge j all.length with hj | hj
      · have := hinv j (by omega)
        rw [List.getD_eq_getElem?_getD, List.getD_eq_getElem?_getD, List.getElem?_eq_getElem (by omega), List.getElem?_eq_getElem hj] at this
        rw [List.getElem?_eq_getElem (by omega), List.getElem?_map, List.getElem?_eq_getElem hj]
        simpa using this
      · rw [List.getElem?_eq_none (by omega), List.getElem?_eq_none (by simp; omega)]
    refine Ev.step (f := fun _ => some _) (fun k => ?_) (Ev.now _)
    simp only [segmentation_Potentials.l0]
    rw [if_neg (by omega), e]
  | succ d ih =>
    intro i out hd hi ho hinv
    have := ih (i + 1) (out.set i (all.getD i z74).f0) (by omega) (by omega) (by simpa using ho) (fun j hj => by
      rcases Nat.eq_or_lt_of_le (show j ≤ i by omega) with e | e
      · subst e
        rw [List.getD_eq_getElem?_getD, List.getElem?_set_self (by omega)]
        rfl
      · rw [List.getD_eq_getElem?_getD, List.getElem?_set_ne (by omega), ← List.getD_eq_getElem?_getD]
        exact hinv j e)
    refine Ev.step (fun k => ?_) this
    simp only [segmentation_Potentials.l0]
    rw [if_pos (by omega), if_pos (by omega), if_pos (by omega), if_pos (by omega), w64 (by omega) (by omega)]
    rfl
/-- What potentials are. -/
def IsPot (l : List Int) (p : Int) (f : List Int) : Prop := f.length = l.length + 1 ∧ f.getD 0 0 = -p ∧ ∀ t, 1 ≤ t → t ≤ l.length → ∃ c, Best l p t (f.getD t 0) c
theorem pot_ev (l : List Int) (p : Int) (h : chk l p = 0) : ∃ f, IsPot l p f ∧ Ev (fun k => segmentation_Potentials.f k l p) (f, 0) := by
  obtain ⟨hP, hl, h0, h1⟩ := chk_ok h
  have hll := hP.1
  obtain ⟨all, asked, hev, h2, h3⟩ := solve_ev l p hP h0 h1
  have hg : ∀ t, t < all.length → (all.map S74.f0).getD t 0 = (all.getD t z74).f0 := by
    intro t ht
    rw [List.getD_eq_getElem?_getD, List.getD_eq_getElem?_getD, List.getElem?_map, List.getElem?_eq_getElem ht]
    rfl
  refine ⟨all.map S74.f0, ⟨by rw [List.length_map, h2], ?_, fun t h4 h5 => ?_⟩, ?_⟩
  · rw [hg 0 (by omega)]
    rcases h3 0 (by omega) with ⟨_, e, _⟩ | hb
    · exact e
    · exact absurd hb.cut.pos (by omega)
  · rcases h3 t (by omega) with ⟨e, _, _⟩ | hb
    · omega
    · exact ⟨_, by rw [hg t (by omega)]; exact hb⟩
  · have hloop := pot_loop all (by omega) (all.length - 0) 0 (List.replicate all.length 0) rfl (Nat.zero_le _) (by simp) (fun j hj => by omega)
    have hc := check_ev l p
    rw [h] at hc
    refine Ev.congr (fun k => ?_) (Ev.bind (f := fun k t218 => if t218 = 0 then ((segmentation_solve.f k l p false).bind fun bt219 => (if 0 ≤ (bt219.1.length : Int) then (if ((bt219.1.length : Int) : Int).toNat ≤ 35184372088832 then (segmentation_Potentials.l0 k (List.replicate ((bt219.1.length : Int) : Int).toNat 0) bt219.1 (bt219.1.length : Int) 0) else (none)) else (none))) else (some (([] : List Int), t218))) hc (Ev.congr (fun k => if_pos rfl) (Ev.bind (f := fun k bt219 => if 0 ≤ (bt219.1.length : Int) then (if ((bt219.1.length : Int) : Int).toNat ≤ 35184372088832 then (segmentation_Potentials.l0 k (List.replicate ((bt219.1.length : Int) : Int).toNat 0) bt219.1 (bt219.1.length : Int) 0) else (none)) else (none)) hev (Ev.congr (fun k => ?_) hloop))))
    · rfl
    · simp only []
      rw [if_pos (by omega), if_pos (by rw [Int.toNat_natCast]; omega), Int.toNat_natCast]
      rfl
theorem pot_err (l : List Int) (p : Int) (h : chk l p ≠ 0) : Ev (fun k => segmentation_Potentials.f k l p) ([], chk l p) := by
  refine Ev.congr (fun k => ?_) (Ev.bind (f := fun k t218 => if t218 = 0 then ((segmentation_solve.f k l p false).bind fun bt219 => (if 0 ≤ (bt219.1.length : Int) then (if ((bt219.1.length : Int) : Int).toNat ≤ 35184372088832 then (segmentation_Potentials.l0 k (List.replicate ((bt219.1.length : Int) : Int).toNat 0) bt219.1 (bt219.1.length : Int) 0) else (none)) else (none))) else (some (([] : List Int), t218))) (check_ev l p) (Ev.congr (fun k => if_neg h) (Ev.now _)))
  rfl
/-- median and cost. -/
theorem median_eq (l : List Int) (hl : l ≠ []) (hb : l.length ≤ 1024) : segmentation_median.f l = some (med l) := by
  have h1 := List.length_pos_iff.2 hl
  have e : wrap64 (Int.tdiv (wrap64 ((l.length : Int) - 1)) 2) = (((l.length - 1) / 2 : Nat) : Int) := by
    have e1 : wrap64 ((l.length : Int) - 1) = ((l.length - 1 : Nat) : Int) := by rw [w64 (by omega) (by omega)]; omega
    rw [e1]
    have e2 : Int.tdiv ((l.length - 1 : Nat) : Int) 2 = (((l.length - 1) / 2 : Nat) : Int) := by
      rw [Int.tdiv_eq_ediv_of_nonneg (by omega)]; omega
    rw [e2, w64 (by omega) (by omega)]
  unfold segmentation_median.f slices_Clone_int_int.f slices_Sort_int_int.f
  rw [if_pos (by omega)]
  simp only [Option.bind_some]
  rw [if_pos (by omega)]
  simp only [Option.bind_some]
  rw [e, if_pos (by omega), if_pos (by omega)]
  rfl
theorem mx_eq (x m : Int) (hx : -1099511627776 ≤ x ∧ x ≤ 1099511627776) (hm : -1099511627776 ≤ m ∧ m ≤ 1099511627776) : mx (wrap64 (x - m)) (wrap64 (m - x)) = max (x - m) (m - x) := by
  rw [w64 (x := x - m) (by omega) (by omega), w64 (x := m - x) (by omega) (by omega)]
  unfold mx
  split <;> omega
theorem dev_bd (l : List Int) (m : Int) (h : ∀ x ∈ l, -1099511627776 ≤ x ∧ x ≤ 1099511627776) (hm : -1099511627776 ≤ m ∧ m ≤ 1099511627776) : dev l m ≤ 2199023255552 * (l.length : Int) := by
  induction l with
  | nil => simp [dev]
  | cons x l ih =>
    have hx := h x List.mem_cons_self
    have := ih (fun y hy => h y (List.mem_cons_of_mem _ hy))
    simp only [dev, List.length_cons]
    push_cast
    rw [Int.mul_add]
    omega
theorem dev_drop (l : List Int) (m : Int) (i : Nat) (h : i < l.length) : dev (l.drop i) m = max (l.getD i 0 - m) (m - l.getD i 0) + dev (l.drop (i + 1)) m := by
  rw [List.drop_eq_getElem_cons h, List.getD_eq_getElem?_getD, List.getElem?_eq_getElem h]
  rfl
theorem cost_loop (l : List Int) (hP : Pts l) (m : Int) (hm : -1099511627776 ≤ m ∧ m ≤ 1099511627776) : ∀ (d i : Nat) (acc : Int), l.length - i = d → i ≤ l.length → 0 ≤ acc → acc ≤ 2199023255552 * (i : Int) →
    Ev (fun k => segmentation_cost.l0 k m acc l (l.length : Int) (i : Int)) (acc + dev (l.drop i) m) := by
  have hll := hP.1
  intro d
  induction d with
  | zero =>
    intro i acc hd hi _ _
    refine Ev.step (f := fun _ => some _) (fun k => ?_) (Ev.now _)
    simp only [segmentation_cost.l0]
    rw [if_neg (by omega), List.drop_eq_nil_of_le (by omega)]
    simp [dev]
  | succ d ih =>
    intro i acc hd hi ha hb
    have hx := hP.2 _ (getD_mem (xs := l) (i := i) (by omega))
    have := ih (i + 1) (acc + max (l.getD i 0 - m) (m - l.getD i 0)) (by omega) (by omega) (by omega) (by omega)
    rw [dev_drop l m i (by omega), ← Int.add_assoc]
    refine Ev.step (fun k => ?_) this
    simp only [segmentation_cost.l0]
    rw [if_pos (by omega), if_pos (by omega), if_pos (by omega), rdn, mx_eq _ _ hx hm, w64 (x := acc + _) (by omega) (by omega), w64 (x := (i : Int) + 1) (by omega) (by omega)]
    rfl
theorem med_bd {l : List Int} (hP : Pts l) (hl : l ≠ []) : -1099511627776 ≤ med l ∧ med l ≤ 1099511627776 := hP.2 _ (med_mem l hl)
theorem cost_ev (l : List Int) (hP : Pts l) (hl : l ≠ []) : Ev (fun k => segmentation_cost.f k l) (cst l) := by
  have h := cost_loop l hP (med l) (med_bd hP hl) (l.length - 0) 0 0 rfl (Nat.zero_le _) (by omega) (by omega)
  have e : (0 : Int) + dev (l.drop 0) (med l) = cst l := by rw [List.drop_zero]; unfold cst; omega
  rw [e] at h
  refine Ev.congr (fun k => ?_) h
  unfold segmentation_cost.f
  rw [median_eq l hl hP.1]
  rfl
end Go.Proofs.Ytiimanpmidnffaa.Seg
