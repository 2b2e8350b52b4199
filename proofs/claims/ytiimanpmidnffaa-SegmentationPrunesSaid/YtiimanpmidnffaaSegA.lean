/- Plain mathematics of segmentation, part A: medians and deviations. -/
namespace Go.Proofs.Ytiimanpmidnffaa.Seg
set_option linter.unusedVariables false
set_option linter.unusedSimpArgs false
/-- The sum of a list. -/
def sm : List Int → Int
  | [] => 0
  | x :: l => x + sm l
theorem sm_append (a b : List Int) : sm (a ++ b) = sm a + sm b := by
  induction a with
  | nil => simp [sm]
  | cons x a ih => simp only [List.cons_append, sm, ih]; omega
theorem sm_perm {a b : List Int} (h : a.Perm b) : sm a = sm b := by
  induction h with
  | nil => rfl
  | cons x _ ih => simp only [sm, ih]
  | swap x y l => simp only [sm]; omega
  | trans _ _ h1 h2 => exact h1.trans h2
/-- The sum of the deviations from m. -/
def dev : List Int → Int → Int
  | [], _ => 0
  | x :: l, m => max (x - m) (m - x) + dev l m
def le (m : Int) (l : List Int) : Nat := (l.filter fun x => decide (x ≤ m)).length
def lt (m : Int) (l : List Int) : Nat := (l.filter fun x => decide (x < m)).length
theorem dev_append (a b : List Int) (m : Int) : dev (a ++ b) m = dev a m + dev b m := by
  induction a with
  | nil => simp [dev]
  | cons x a ih => simp only [List.cons_append, dev, ih]; omega
theorem dev_perm {a b : List Int} (h : a.Perm b) (m : Int) : dev a m = dev b m := by
  induction h with
  | nil => rfl
  | cons x _ ih => simp only [dev, ih]
  | swap x y l => simp only [dev]; omega
  | trans _ _ h1 h2 => exact h1.trans h2
theorem dev_nonneg (l : List Int) (m : Int) : 0 ≤ dev l m := by
  induction l with
  | nil => simp [dev]
  | cons x l ih => simp only [dev]; omega
theorem le_cons (m x : Int) (l : List Int) : le m (x :: l) = (if x ≤ m then 1 else 0) + le m l := by
  unfold le
  by_cases h : x ≤ m <;> simp [List.filter_cons, h] <;> omega
theorem lt_cons (m x : Int) (l : List Int) : lt m (x :: l) = (if x < m then 1 else 0) + lt m l := by
  unfold lt
  by_cases h : x < m <;> simp [List.filter_cons, h] <;> omega
theorem le_perm {a b : List Int} (h : a.Perm b) (m : Int) : le m a = le m b := (h.filter _).length_eq
theorem lt_perm {a b : List Int} (h : a.Perm b) (m : Int) : lt m a = lt m b := (h.filter _).length_eq
theorem le_append (m : Int) (a b : List Int) : le m (a ++ b) = le m a + le m b := by simp [le]
theorem lt_append (m : Int) (a b : List Int) : lt m (a ++ b) = lt m a + lt m b := by simp [lt]
theorem le_le (m : Int) (l : List Int) : le m l ≤ l.length := List.length_filter_le _ _
theorem lt_le (m : Int) (l : List Int) : lt m l ≤ le m l := by
  induction l with
  | nil => simp [lt, le]
  | cons x l ih => rw [lt_cons, le_cons]; split <;> split <;> omega
theorem le_le_lt (l : List Int) {y m : Int} (h : y < m) : le y l ≤ lt m l := by
  induction l with
  | nil => simp [le]
  | cons x l ih => rw [lt_cons, le_cons]; split <;> split <;> omega
/-- m is a median of l. -/
def IsMed (l : List Int) (m : Int) : Prop := l.length ≤ 2 * le m l ∧ 2 * lt m l ≤ l.length
theorem dev_up (l : List Int) (m x : Int) (h : m ≤ x) : dev l m + (x - m) * (2 * (le m l : Int) - l.length) ≤ dev l x := by
  induction l with
  | nil => simp [dev, le]
  | cons y l ih =>
    rw [le_cons]
    simp only [dev, List.length_cons]
    have e : (x - m) * (2 * (((if y ≤ m then 1 else 0) + le m l : Nat) : Int) - ((l.length + 1 : Nat) : Int)) = (x - m) * (2 * (le m l : Int) - l.length) + (x - m) * (2 * ((if y ≤ m then 1 else 0 : Nat) : Int) - 1) := by
      rw [← Int.mul_add]; congr 1; push_cast; omega
    rw [e]
    split <;> simp <;> omega
theorem dev_down (l : List Int) (m x : Int) (h : x ≤ m) : dev l m + (m - x) * ((l.length : Int) - 2 * (lt m l : Int)) ≤ dev l x := by
  induction l with
  | nil => simp [dev, lt]
  | cons y l ih =>
    rw [lt_cons]
    simp only [dev, List.length_cons]
    have e : (m - x) * (((l.length + 1 : Nat) : Int) - 2 * (((if y < m then 1 else 0) + lt m l : Nat) : Int)) = (m - x) * ((l.length : Int) - 2 * (lt m l : Int)) + (m - x) * (1 - 2 * ((if y < m then 1 else 0 : Nat) : Int)) := by
      rw [← Int.mul_add]; congr 1; push_cast; omega
    rw [e]
    split <;> simp <;> omega
theorem IsMed.min {l : List Int} {m : Int} (h : IsMed l m) (x : Int) : dev l m ≤ dev l x := by
  rcases Int.le_total m x with hx | hx
  · have := dev_up l m x hx
    have h2 : 0 ≤ (x - m) * (2 * (le m l : Int) - l.length) := Int.mul_nonneg (by omega) (by have := h.1; omega)
    omega
  · have := dev_down l m x hx
    have h2 : 0 ≤ (m - x) * ((l.length : Int) - 2 * (lt m l : Int)) := Int.mul_nonneg (by omega) (by have := h.2; omega)
    omega
theorem IsMed.dev_eq {l : List Int} {m m' : Int} (h : IsMed l m) (h' : IsMed l m') : dev l m = dev l m' := Int.le_antisymm (h.min m') (h'.min m)
theorem IsMed.perm {a b : List Int} {m : Int} (h : IsMed a m) (p : a.Perm b) : IsMed b m := by
  unfold IsMed
  rw [← le_perm p, ← lt_perm p, ← p.length_eq]
  exact h
/-- The lower median. -/
def med (l : List Int) : Int := (l.mergeSort fun x y => decide (x ≤ y)).getD ((l.length - 1) / 2) 0
/-- The cost of a segment. -/
def cst (l : List Int) : Int := dev l (med l)
theorem sorted_sort (l : List Int) : (l.mergeSort fun x y => decide (x ≤ y)).Pairwise (· ≤ ·) := by
  have := List.pairwise_mergeSort (le := fun x y : Int => decide (x ≤ y)) (fun a b c h1 h2 => by simp at *; omega) (fun a b => by simp; omega) l
  simpa using this
theorem le_take (s : List Int) (hs : s.Pairwise (· ≤ ·)) (i : Nat) (hi : i < s.length) : i + 1 ≤ le (s.getD i 0) s := by
  induction s generalizing i with
  | nil => simp at hi
  | cons x s ih =>
    rw [List.pairwise_cons] at hs
    cases i with
    | zero => simp [le_cons]
    | succ i =>
      have hi' : i < s.length := by simpa using hi
      have := ih hs.2 i hi'
      simp only [List.getD_cons_succ]
      rw [le_cons, if_pos]
      · omega
      · have e : s.getD i 0 = s[i] := by simp [List.getD, hi']
        rw [e]
        exact hs.1 _ (List.getElem_mem hi')
theorem lt_take (s : List Int) (hs : s.Pairwise (· ≤ ·)) (i : Nat) (hi : i < s.length) (y : Int) (hy : y ≤ s.getD i 0) : lt y s ≤ i := by
  induction s generalizing i with
  | nil => simp [lt]
  | cons x s ih =>
    rw [List.pairwise_cons] at hs
    cases i with
    | zero =>
      have h0 : ∀ z ∈ x :: s, ¬ z < y := by
        intro z hz
        simp at hy
        rcases List.mem_cons.1 hz with rfl | hz
        · omega
        · have := hs.1 z hz; omega
      have : (x :: s).filter (fun z => decide (z < y)) = [] := List.filter_eq_nil_iff.2 (by simpa using h0)
      unfold lt
      rw [this]
      simp
    | succ i =>
      rw [lt_cons]
      have := ih hs.2 i (by simpa using hi) (by simpa using hy)
      split <;> omega
theorem med_isMed (l : List Int) (h : l ≠ []) : IsMed l (med l) := by
  have hp : (l.mergeSort fun x y => decide (x ≤ y)).Perm l := List.mergeSort_perm _ _
  have hl : 0 < l.length := List.length_pos_iff.2 h
  refine IsMed.perm ?_ hp
  have hs := sorted_sort l
  have hlen := hp.length_eq
  constructor
  · have := le_take _ hs ((l.length - 1) / 2) (by rw [hlen]; omega)
    unfold med
    rw [hlen]; omega
  · have := lt_take _ hs ((l.length - 1) / 2) (by rw [hlen]; omega) (med l) (Int.le_refl _)
    rw [hlen]; omega
theorem med_mem (l : List Int) (h : l ≠ []) : med l ∈ l := by
  have hp : (l.mergeSort fun x y => decide (x ≤ y)).Perm l := List.mergeSort_perm _ _
  have hl : 0 < l.length := List.length_pos_iff.2 h
  have hi : (l.length - 1) / 2 < (l.mergeSort fun x y => decide (x ≤ y)).length := by rw [hp.length_eq]; omega
  have e : med l = (l.mergeSort fun x y => decide (x ≤ y))[(l.length - 1) / 2] := by
    unfold med
    rw [List.getD_eq_getElem?_getD, List.getElem?_eq_getElem hi]
    rfl
  rw [e]
  exact hp.mem_iff.1 (List.getElem_mem hi)
/-- The lower median is the least element that half of the points do not exceed. -/
theorem med_least (l : List Int) (y : Int) (hy : l.length ≤ 2 * le y l) (h : l ≠ []) : med l ≤ y := by
  have hp : (l.mergeSort fun x y => decide (x ≤ y)).Perm l := List.mergeSort_perm _ _
  have hl : 0 < l.length := List.length_pos_iff.2 h
  rcases Int.lt_or_le y (med l) with h1 | h1
  · exfalso
    have := lt_take _ (sorted_sort l) ((l.length - 1) / 2) (by rw [hp.length_eq]; omega) (med l) (Int.le_refl _)
    rw [lt_perm hp] at this
    have h2 : le y l ≤ lt (med l) l := le_le_lt l h1
    omega
  · exact h1
theorem cst_nonneg (l : List Int) : 0 ≤ cst l := dev_nonneg _ _
theorem cst_min (l : List Int) (x : Int) : cst l ≤ dev l x := by
  by_cases h : l = []
  · subst h; simp [cst, dev]
  · exact (med_isMed l h).min x
theorem cst_of_isMed {l : List Int} {m : Int} (h : IsMed l m) (hl : l ≠ []) : dev l m = cst l := h.dev_eq (med_isMed l hl)
theorem cst_perm {a b : List Int} (p : a.Perm b) : cst a = cst b := by
  by_cases h : a = []
  · subst h; rw [List.nil_perm.1 p]
  · have hb : b ≠ [] := fun e => h (by subst e; exact List.perm_nil.1 p)
    rw [← cst_of_isMed ((med_isMed a h).perm p) hb, ← dev_perm p]
    rfl
/-- A part costs no less than its pieces. -/
theorem cst_append (a b : List Int) : cst a + cst b ≤ cst (a ++ b) := by
  have h1 := cst_min a (med (a ++ b))
  have h2 := cst_min b (med (a ++ b))
  unfold cst at *
  rw [dev_append]
  omega
end Go.Proofs.Ytiimanpmidnffaa.Seg
