/- Plain mathematics of segmentation; the known example of law45. -/
import Derived.Test.YtcjgmofgfblmnaaQgBase
import Derived.Test.YtcjgmofgfblmnaaQgCosts
import Derived.Test.YtcjgmofgfblmnaaQgSolve
import Derived.Test.YtcjgmofgfblmnaaQgBest
import Derived.Test.YtcjgmofgfblmnaaQgKnown
namespace Go.Proofs.Ytcjgmofgfblmnaa.Seg
set_option linter.unusedVariables false
set_option linter.unusedSimpArgs false
set_option linter.unusedSimpArgs false
/-- The sum of a list. -/
def sm : List Int → Int
  | [] => 0
  | x :: l => x + sm l
theorem sm_append (a b : List Int) : sm (a ++ b) = sm a + sm b := by
  induction a with
  | nil => simp [sm]
  | cons x a ih => simp only [List.cons_append, sm, ih]; omega
theorem sm_perm {a b : List Int} (h : a.Perm b) : sm a = sm b := by
  induction h with
  | nil => rfl
  | cons x _ ih => simp only [sm, ih]
  | swap x y l => simp only [sm]; omega
  | trans _ _ h1 h2 => exact h1.trans h2
/-- The sum of the deviations from m. -/
def dev : List Int → Int → Int
  | [], _ => 0
  | x :: l, m => max (x - m) (m - x) + dev l m
def le (m : Int) (l : List Int) : Nat := (l.filter fun x => decide (x ≤ m)).length
def lt (m : Int) (l : List Int) : Nat := (l.filter fun x => decide (x < m)).length
theorem dev_append (a b : List Int) (m : Int) : dev (a ++ b) m = dev a m + dev b m := by
  induction a with
  | nil => simp [dev]
  | cons x a ih => simp only [List.cons_append, dev, ih]; omega
theorem dev_perm {a b : List Int} (h : a.Perm b) (m : Int) : dev a m = dev b m := by
  induction h with
  | nil => rfl
  | cons x _ ih => simp only [dev, ih]
  | swap x y l => simp only [dev]; omega
  | trans _ _ h1 h2 => exact h1.trans h2
theorem dev_nonneg (l : List Int) (m : Int) : 0 ≤ dev l m := by
  induction l with
  | nil => simp [dev]
  | cons x l ih => simp only [dev]; omega
theorem le_cons (m x : Int) (l : List Int) : le m (x :: l) = (if x ≤ m then 1 else 0) + le m l := by
  unfold le
  by_cases h : x ≤ m <;> simp [List.filter_cons, h] <;> omega
theorem lt_cons (m x : Int) (l : List Int) : lt m (x :: l) = (if x < m then 1 else 0) + lt m l := by
  unfold lt
  by_cases h : x < m <;> simp [List.filter_cons, h] <;> omega
theorem le_perm {a b : List Int} (h : a.Perm b) (m : Int) : le m a = le m b := (h.filter _).length_eq
theorem lt_perm {a b : List Int} (h : a.Perm b) (m : Int) : lt m a = lt m b := (h.filter _).length_eq
theorem le_append (m : Int) (a b : List Int) : le m (a ++ b) = le m a + le m b := by simp [le]
theorem lt_append (m : Int) (a b : List Int) : lt m (a ++ b) = lt m a + lt m b := by simp [lt]
/-- m is a median of l. -/
def IsMed (l : List Int) (m : Int) : Prop := l.length ≤ 2 * le m l ∧ 2 * lt m l ≤ l.length
theorem dev_up (l : List Int) (m x : Int) (h : m ≤ x) : dev l m + (x - m) * (2 * (le m l : Int) - l.length) ≤ dev l x := by
  induction l with
  | nil => simp [dev, le]
  | cons y l ih =>
    rw [le_cons]
    simp only [dev, List.length_cons]
    have e : (x - m) * (2 * (((if y ≤ m then 1 else 0) + le m l : Nat) : Int) - ((l.length + 1 : Nat) : Int)) = (x - m) * (2 * (le m l : Int) - l.length) + (x - m) * (2 * ((if y ≤ m then 1 else 0 : Nat) : Int) - 1) := by
      rw [← Int.mul_add]; congr 1; push_cast; omega
    rw [e]
    split <;> simp <;> omega
theorem dev_down (l : List Int) (m x : Int) (h : x ≤ m) : dev l m + (m - x) * ((l.length : Int) - 2 * (lt m l : Int)) ≤ dev l x := by
  induction l with
  | nil => simp [dev, lt]
  | cons y l ih =>
    rw [lt_cons]
    simp only [dev, List.length_cons]
    have e : (m - x) * (((l.length + 1 : Nat) : Int) - 2 * (((if y < m then 1 else 0) + lt m l : Nat) : Int)) = (m - x) * ((l.length : Int) - 2 * (lt m l : Int)) + (m - x) * (1 - 2 * ((if y < m then 1 else 0 : Nat) : Int)) := by
      rw [← Int.mul_add]; congr 1; push_cast; omega
    rw [e]
    split <;> simp <;> omega
theorem IsMed.min {l : List Int} {m : Int} (h : IsMed l m) (x : Int) : dev l m ≤ dev l x := by
  rcases Int.le_total m x with hx | hx
  · have := dev_up l m x hx
    have h2 : 0 ≤ (x - m) * (2 * (le m l : Int) - l.length) := Int.mul_nonneg (by omega) (by have := h.1; omega)
    omega
  · have := dev_down l m x hx
    have h2 : 0 ≤ (m - x) * ((l.length : Int) - 2 * (lt m l : Int)) := Int.mul_nonneg (by omega) (by have := h.2; omega)
    omega
theorem IsMed.dev_eq {l : List Int} {m m' : Int} (h : IsMed l m) (h' : IsMed l m') : dev l m = dev l m' := Int.le_antisymm (h.min m') (h'.min m)
theorem IsMed.perm {a b : List Int} {m : Int} (h : IsMed a m) (p : a.Perm b) : IsMed b m := by
  unfold IsMed
  rw [← le_perm p, ← lt_perm p, ← p.length_eq]
  exact h
/-- The lower median. -/
def med (l : List Int) : Int := (l.mergeSort fun x y => decide (x ≤ y)).getD ((l.length - 1) / 2) 0
/-- The cost of a segment. -/
def cst (l : List Int) : Int := dev l (med l)
theorem sorted_sort (l : List Int) : (l.mergeSort fun x y => decide (x ≤ y)).Pairwise (· ≤ ·) := by
  have := List.pairwise_mergeSort (le := fun x y : Int => decide (x ≤ y)) (fun a b c h1 h2 => by simp at *; omega) (fun a b => by simp; omega) l
  simpa using this
theorem le_take (s : List Int) (hs : s.Pairwise (· ≤ ·)) (i : Nat) (hi : i < s.length) : i + 1 ≤ le (s.getD i 0) s := by
  induction s generalizing i with
  | nil => simp at hi
  | cons x s ih =>
    rw [List.pairwise_cons] at hs
    cases i with
    | zero => simp [le_cons]
    | succ i =>
      have hi' : i < s.length := by simpa using hi
      have := ih hs.2 i hi'
      simp only [List.getD_cons_succ]
      rw [le_cons, if_pos]
      · omega
      · have e : s.getD i 0 = s[i] := by simp [List.getD, hi']
        rw [e]
        exact hs.1 _ (List.getElem_mem hi')
theorem lt_take (s : List Int) (hs : s.Pairwise (· ≤ ·)) (i : Nat) (hi : i < s.length) (y : Int) (hy : y ≤ s.getD i 0) : lt y s ≤ i := by
  induction s generalizing i with
  | nil => simp [lt]
  | cons x s ih =>
    rw [List.pairwise_cons] at hs
    cases i with
    | zero =>
      have h0 : ∀ z ∈ x :: s, ¬ z < y := by
        intro z hz
        simp at hy
        rcases List.mem_cons.1 hz with rfl | hz
        · omega
        · have := hs.1 z hz; omega
      have : (x :: s).filter (fun z => decide (z < y)) = [] := List.filter_eq_nil_iff.2 (by simpa using h0)
      unfold lt
      rw [this]
      simp
    | succ i =>
      rw [lt_cons]
      have := ih hs.2 i (by simpa using hi) (by simpa using hy)
      split <;> omega
theorem med_isMed (l : List Int) (h : l ≠ []) : IsMed l (med l) := by
  have hp : (l.mergeSort fun x y => decide (x ≤ y)).Perm l := List.mergeSort_perm _ _
  have hl : 0 < l.length := List.length_pos_iff.2 h
  refine IsMed.perm ?_ hp
  have hs := sorted_sort l
  have hlen := hp.length_eq
  constructor
  · have := le_take _ hs ((l.length - 1) / 2) (by rw [hlen]; omega)
    unfold med
    rw [hlen]; omega
  · have := lt_take _ hs ((l.length - 1) / 2) (by rw [hlen]; omega) (med l) (Int.le_refl _)
    rw [hlen]; omega
theorem med_mem (l : List Int) (h : l ≠ []) : med l ∈ l := by
  have hp : (l.mergeSort fun x y => decide (x ≤ y)).Perm l := List.mergeSort_perm _ _
  have hl : 0 < l.length := List.length_pos_iff.2 h
  have hi : (l.length - 1) / 2 < (l.mergeSort fun x y => decide (x ≤ y)).length := by rw [hp.length_eq]; omega
  have e : med l = (l.mergeSort fun x y => decide (x ≤ y))[(l.length - 1) / 2] := by
    unfold med
    rw [List.getD_eq_getElem?_getD, List.getElem?_eq_getElem hi]
    rfl
  rw [e]
  exact hp.mem_iff.1 (List.getElem_mem hi)
theorem cst_nonneg (l : List Int) : 0 ≤ cst l := dev_nonneg _ _
theorem cst_min (l : List Int) (x : Int) : cst l ≤ dev l x := by
  by_cases h : l = []
  · subst h; simp [cst, dev]
  · exact (med_isMed l h).min x
theorem cst_of_isMed {l : List Int} {m : Int} (h : IsMed l m) (hl : l ≠ []) : dev l m = cst l := h.dev_eq (med_isMed l hl)
theorem cst_perm {a b : List Int} (p : a.Perm b) : cst a = cst b := by
  by_cases h : a = []
  · subst h; rw [List.nil_perm.1 p]
  · have hb : b ≠ [] := fun e => h (by subst e; exact List.perm_nil.1 p)
    rw [← cst_of_isMed ((med_isMed a h).perm p) hb, ← dev_perm p]
    rfl
end Go.Proofs.Ytcjgmofgfblmnaa.Seg
namespace Go.Proofs.Ytcjgmofgfblmnaa.Seg
open Go.RowKit Go.Proofs.YtcjgmofgfblmnaaW.PrintWords Go.Proofs.YtcjgmofgfblmnaaW.PrintLast Go.Proofs.YtcjgmofgfblmnaaW.PrintMore Go.Proofs.Ytcjgmofgfblmnaa.Q
set_option linter.unusedVariables false
set_option linter.unusedSimpArgs false
set_option linter.unusedSimpArgs false
theorem w64 {x : Int} (h1 : -9223372036854775808 ≤ x) (h2 : x ≤ 9223372036854775807) : wrap64 x = x := by unfold wrap64; omega
theorem rdn (xs : List Int) (i : Nat) : rd xs (i : Int) = xs.getD i 0 := rfl
theorem getD_mem {xs : List Int} {i : Nat} (h : i < xs.length) : xs.getD i 0 ∈ xs := by
  rw [List.getD_eq_getElem?_getD, List.getElem?_eq_getElem h]; exact List.getElem_mem h
/-- Points that may be segmented. -/
def Pts (l : List Int) : Prop := l.length ≤ 1024 ∧ ∀ x ∈ l, -1099511627776 ≤ x ∧ x ≤ 1099511627776
/-- The two halves of a part. -/
structure Half (part low high : List Int) : Prop where
  perm : (low ++ high).Perm part
  sl : low.Pairwise (· ≤ ·)
  sh : high.Pairwise (· ≤ ·)
  ord : ∀ a ∈ low, ∀ b ∈ high, a ≤ b
theorem dev_low (l : List Int) (m : Int) (h : ∀ a ∈ l, a ≤ m) : dev l m = m * (l.length : Int) - sm l := by
  induction l with
  | nil => simp [dev, sm]
  | cons x l ih =>
    have h1 := h x List.mem_cons_self
    simp only [dev, sm, List.length_cons, ih (fun a ha => h a (List.mem_cons_of_mem _ ha))]
    push_cast
    rw [Int.mul_add]
    omega
theorem dev_high (l : List Int) (m : Int) (h : ∀ a ∈ l, m ≤ a) : dev l m = sm l - m * (l.length : Int) := by
  induction l with
  | nil => simp [dev, sm]
  | cons x l ih =>
    have h1 := h x List.mem_cons_self
    simp only [dev, sm, List.length_cons, ih (fun a ha => h a (List.mem_cons_of_mem _ ha))]
    push_cast
    rw [Int.mul_add]
    omega
theorem le_all (l : List Int) (m : Int) (h : ∀ a ∈ l, a ≤ m) : le m l = l.length := by
  unfold le
  rw [List.filter_eq_self.2 (by simpa using h)]
theorem lt_none (l : List Int) (m : Int) (h : ∀ a ∈ l, m ≤ a) : lt m l = 0 := by
  unfold lt
  rw [List.filter_eq_nil_iff.2 (by intro a ha; have := h a ha; simp; omega)]
  rfl
theorem last_max (l : List Int) (hs : l.Pairwise (· ≤ ·)) : ∀ a ∈ l, a ≤ l.getD (l.length - 1) 0 := by
  intro a ha
  obtain ⟨q, hq, rfl⟩ := List.mem_iff_getElem.1 ha
  rw [List.getD_eq_getElem?_getD, List.getElem?_eq_getElem (by omega)]
  rcases Nat.eq_or_lt_of_le (show q ≤ l.length - 1 by omega) with e | e
  · simp [e]
  · exact List.pairwise_iff_getElem.1 hs q (l.length - 1) hq (by omega) e
theorem Half.cost {part low high : List Int} (h : Half part low high) (h1 : high.length ≤ low.length) (h2 : low.length ≤ high.length + 1) (h0 : low ≠ []) :
    (low.getD (low.length - 1) 0) * (low.length : Int) - sm low + sm high - (low.getD (low.length - 1) 0) * (high.length : Int) = cst part := by
  have hl : 0 < low.length := List.length_pos_iff.2 h0
  have hm := last_max low h.sl
  have hmem : low.getD (low.length - 1) 0 ∈ low := getD_mem (by omega)
  generalize low.getD (low.length - 1) 0 = m at hm hmem ⊢
  have hh : ∀ a ∈ high, m ≤ a := fun a ha => h.ord m hmem a ha
  have hmed : IsMed (low ++ high) m := by
    constructor
    · rw [le_append, le_all low m hm]; simp; omega
    · rw [lt_append, lt_none high m hh]
      have : lt m low + 1 ≤ low.length := by
        have h3 : lt m low < low.length := by
          unfold lt
          rcases Nat.lt_or_ge (low.filter fun x => decide (x < m)).length low.length with h4 | h4
          · exact h4
          · have h5 := List.Sublist.eq_of_length_le List.filter_sublist h4
            have h6 : m ∈ low.filter fun x => decide (x < m) := by rw [h5]; exact hmem
            simp at h6
        omega
      simp
      omega
  have hne : low ++ high ≠ [] := by simp [h0]
  have e := cst_of_isMed hmed hne
  rw [cst_perm h.perm, dev_append, dev_low low m hm, dev_high high m hh] at e
  omega
theorem cons_of (l : List Int) (h : l ≠ []) : l = l.getD 0 0 :: l.drop 1 := by
  cases l with
  | nil => exact absurd rfl h
  | cons x l => rfl
theorem Half.up {part low high : List Int} (h : Half part low high) (h0 : high ≠ []) : Half part (low ++ [high.getD 0 0]) (high.drop 1) := by
  have e := cons_of high h0
  have hmem : high.getD 0 0 ∈ high := getD_mem (List.length_pos_iff.2 h0)
  have hsh := h.sh
  rw [e] at hsh
  rw [List.pairwise_cons] at hsh
  generalize high.getD 0 0 = m at e hmem hsh ⊢
  generalize hT : high.drop 1 = T at e hsh ⊢
  have hT2 : ∀ a ∈ T, a ∈ high := fun a ha => by rw [e]; exact List.mem_cons_of_mem _ ha
  refine ⟨?_, ?_, hsh.2, ?_⟩
  · refine List.Perm.trans ?_ h.perm
    conv => rhs; rw [e]
    rw [List.append_assoc]
    exact List.Perm.refl _
  · exact List.pairwise_append.2 ⟨h.sl, List.pairwise_singleton _ _, fun a ha b hb => by rw [List.mem_singleton.1 hb]; exact h.ord a ha m hmem⟩
  · intro a ha b hb
    rcases List.mem_append.1 ha with ha | ha
    · exact h.ord a ha b (hT2 b hb)
    · rw [List.mem_singleton.1 ha]; exact hsh.1 b hb
end Go.Proofs.Ytcjgmofgfblmnaa.Seg
namespace Go.Proofs.Ytcjgmofgfblmnaa.Seg
open Go.RowKit Go.Proofs.YtcjgmofgfblmnaaW.PrintWords Go.Proofs.YtcjgmofgfblmnaaW.PrintLast Go.Proofs.YtcjgmofgfblmnaaW.PrintMore Go.Proofs.Ytcjgmofgfblmnaa.Q
set_option linter.unusedVariables false
set_option linter.unusedSimpArgs false
set_option linter.unusedSimpArgs false
/-- The costs of all parts that end at t. -/
def costsOf (pts : List Int) (t : Nat) : List Int := (List.range t).map fun q => cst ((pts.take t).drop q)
end Go.Proofs.Ytcjgmofgfblmnaa.Seg
namespace Go.Proofs.Ytcjgmofgfblmnaa.Seg
set_option linter.unusedVariables false
set_option linter.unusedSimpArgs false
set_option linter.unusedSimpArgs false
/-- One list comes before another one. -/
def lex : List Int → List Int → Bool
  | [], [] => false
  | [], _ :: _ => true
  | _ :: _, [] => false
  | x :: a, y :: b => decide (x < y) || (decide (x = y) && lex a b)
theorem lex_irr (a : List Int) : lex a a = false := by
  induction a with
  | nil => rfl
  | cons x a ih => simp [lex, ih]
theorem lex_trans : ∀ {a b c : List Int}, lex a b = true → lex b c = true → lex a c = true := by
  intro a
  induction a with
  | nil =>
    intro b c h1 h2
    cases b with
    | nil => simp [lex] at h1
    | cons y b => cases c with
      | nil => simp [lex] at h2
      | cons z c => rfl
  | cons x a ih =>
    intro b c h1 h2
    cases b with
    | nil => simp [lex] at h1
    | cons y b => cases c with
      | nil => simp [lex] at h2
      | cons z c =>
        simp only [lex, Bool.or_eq_true, Bool.and_eq_true, decide_eq_true_eq] at h1 h2 ⊢
        rcases h1 with h1 | ⟨rfl, h1⟩
        · rcases h2 with h2 | ⟨rfl, h2⟩
          · left; omega
          · left; exact h1
        · rcases h2 with h2 | ⟨rfl, h2⟩
          · left; exact h2
          · right; exact ⟨rfl, ih h1 h2⟩
theorem lex_total : ∀ (a b : List Int), lex a b = true ∨ a = b ∨ lex b a = true := by
  intro a
  induction a with
  | nil => intro b; cases b with
    | nil => exact .inr (.inl rfl)
    | cons y b => exact .inl rfl
  | cons x a ih => intro b; cases b with
    | nil => exact .inr (.inr rfl)
    | cons y b =>
      simp only [lex, Bool.or_eq_true, Bool.and_eq_true, decide_eq_true_eq]
      rcases Int.lt_trichotomy x y with h | rfl | h
      · exact .inl (.inl h)
      · rcases ih b with h | rfl | h
        · exact .inl (.inr ⟨rfl, h⟩)
        · exact .inr (.inl rfl)
        · exact .inr (.inr (.inr ⟨rfl, h⟩))
      · exact .inr (.inr (.inl h))
theorem lex_snoc : ∀ (a b : List Int) (s : Int), a.length = b.length → lex (a ++ [s]) (b ++ [s]) = lex a b := by
  intro a
  induction a with
  | nil => intro b s h; cases b with
    | nil => simp [lex]
    | cons y b => simp at h
  | cons x a ih => intro b s h; cases b with
    | nil => simp at h
    | cons y b => simp only [List.cons_append, lex]; rw [ih b s (by simpa using h)]
/-- A total and cuts come before others. -/
def kl (n : Int) (c : List Int) (m : Int) (d : List Int) : Prop := n < m ∨ n = m ∧ (c.length < d.length ∨ c.length = d.length ∧ lex c d = true)
theorem kl_irr (n : Int) (c : List Int) : ¬ kl n c n c := by
  rintro (h | ⟨_, h | ⟨_, h⟩⟩)
  · omega
  · omega
  · rw [lex_irr] at h; cases h
theorem kl_trans {n m o : Int} {c d e : List Int} (h1 : kl n c m d) (h2 : kl m d o e) : kl n c o e := by
  rcases h1 with h1 | ⟨rfl, h1⟩
  · rcases h2 with h2 | ⟨rfl, h2⟩
    · left; omega
    · left; omega
  · rcases h2 with h2 | ⟨rfl, h2⟩
    · left; exact h2
    · right
      refine ⟨rfl, ?_⟩
      rcases h1 with h1 | ⟨e1, h1⟩
      · rcases h2 with h2 | ⟨e2, h2⟩
        · left; omega
        · left; omega
      · rcases h2 with h2 | ⟨e2, h2⟩
        · left; omega
        · right; exact ⟨by omega, lex_trans h1 h2⟩
theorem kl_total (n m : Int) (c d : List Int) : kl n c m d ∨ (n = m ∧ c = d) ∨ kl m d n c := by
  rcases Int.lt_trichotomy n m with h | rfl | h
  · exact .inl (.inl h)
  · rcases Nat.lt_trichotomy c.length d.length with h | h | h
    · exact .inl (.inr ⟨rfl, .inl h⟩)
    · rcases lex_total c d with h2 | rfl | h2
      · exact .inl (.inr ⟨rfl, .inr ⟨h, h2⟩⟩)
      · exact .inr (.inl ⟨rfl, rfl⟩)
      · exact .inr (.inr (.inr ⟨rfl, .inr ⟨h.symm, h2⟩⟩))
    · exact .inr (.inr (.inr ⟨rfl, .inl h⟩))
  · exact .inr (.inr (.inl h))
theorem kl_snoc {n m : Int} {c d : List Int} (s k : Int) : kl (n + k) (c ++ [s]) (m + k) (d ++ [s]) ↔ kl n c m d := by
  unfold kl
  simp only [List.length_append, List.length_singleton]
  constructor
  · rintro (h | ⟨h, h2 | ⟨h2, h3⟩⟩)
    · left; omega
    · right; exact ⟨by omega, .inl (by omega)⟩
    · right; exact ⟨by omega, .inr ⟨by omega, by rwa [lex_snoc _ _ _ (by omega)] at h3⟩⟩
  · rintro (h | ⟨h, h2 | ⟨h2, h3⟩⟩)
    · left; omega
    · right; exact ⟨by omega, .inl (by omega)⟩
    · right; exact ⟨by omega, .inr ⟨by omega, by rw [lex_snoc _ _ _ h2]; exact h3⟩⟩
/-- What is not behind by a chain. -/
theorem not_kl_trans {n m o : Int} {c d e : List Int} (h1 : ¬ kl n c m d) (h2 : ¬ kl m d o e) : ¬ kl n c o e := by
  intro h
  rcases kl_total m o d e with h3 | ⟨rfl, rfl⟩ | h3
  · exact h2 h3
  · exact h1 h
  · exact h1 (kl_trans h h3)
/-- The cost of the points from a up to b. -/
def C (pts : List Int) (a b : Nat) : Int := cst ((pts.take b).drop a)
theorem C_nonneg (pts : List Int) (a b : Nat) : 0 ≤ C pts a b := cst_nonneg _
/-- 'Cut pts p t c n': c are right cuts of the first t points, and their total is n. -/
inductive Cut (pts : List Int) (p : Int) : Nat → List Int → Int → Prop
  | whole (t : Nat) (h : 1 ≤ t) : Cut pts p t [] (C pts 0 t)
  | more (s t : Nat) (c : List Int) (n : Int) (h1 : s < t) (h : Cut pts p s c n) : Cut pts p t (c ++ [(s : Int)]) (n + p + C pts s t)
theorem Cut.pos {pts : List Int} {p : Int} {t : Nat} {c : List Int} {n : Int} (h : Cut pts p t c n) : 1 ≤ t := by
  cases h with
  | whole _ h => exact h
  | more s t c n h1 h => omega
theorem Cut.det {pts : List Int} {p : Int} {t : Nat} {c : List Int} {n : Int} (h : Cut pts p t c n) : ∀ {m : Int}, Cut pts p t c m → n = m := by
  induction h with
  | whole t h =>
    intro m h'
    generalize hc : ([] : List Int) = c at h'
    cases h' with
    | whole => rfl
    | more s t c n h1 h => simp at hc
  | more s t c n h1 h ih =>
    intro m h'
    generalize hc : c ++ [(s : Int)] = d at h'
    cases h' with
    | whole => simp at hc
    | more s' t c' n' h1' h' =>
      have := List.append_inj' hc rfl
      obtain ⟨rfl, h2⟩ := this
      obtain rfl : s = s' := by
        have h3 : (s : Int) = (s' : Int) := by simpa using h2
        omega
      rw [ih h']
/-- The best one of the first t points. -/
structure Best (pts : List Int) (p : Int) (t : Nat) (n : Int) (c : List Int) : Prop where
  cut : Cut pts p t c n
  min : ∀ c' n', Cut pts p t c' n' → ¬ kl n' c' n c
theorem Best.le {pts : List Int} {p : Int} {t : Nat} {n : Int} {c : List Int} (h : Best pts p t n c) {c' : List Int} {n' : Int} (h' : Cut pts p t c' n') : n ≤ n' := by
  rcases Int.lt_or_le n' n with h2 | h2
  · exact absurd (.inl h2) (h.min _ _ h')
  · exact h2
/-- What is stored of the first s points: the best segmentation, or the start. -/
def Row (pts : List Int) (p : Int) (s : Nat) (n : Int) (c : List Int) : Prop := (s = 0 ∧ n = -p ∧ c = []) ∨ Best pts p s n c
/-- The segmentation that goes on from s. -/
def candN (pts : List Int) (p : Int) (t s : Nat) (n : Int) : Int := n + p + C pts s t
def candC (s : Nat) (c : List Int) : List Int := if 0 < s then c ++ [(s : Int)] else c
theorem cand_cut {pts : List Int} {p : Int} {t s : Nat} {n : Int} {c : List Int} (h : Row pts p s n c) (hs : s < t) : Cut pts p t (candC s c) (candN pts p t s n) := by
  rcases h with ⟨rfl, rfl, rfl⟩ | h
  · have := Cut.whole (pts := pts) (p := p) t (by omega)
    unfold candN candC
    rw [if_neg (by omega)]
    have e : -p + p + C pts 0 t = C pts 0 t := by omega
    rw [e]
    exact this
  · have := h.cut.pos
    unfold candN candC
    rw [if_pos (by omega)]
    exact Cut.more s t c n hs h.cut
/-- If for each s < t the row is known, then what no candidate comes before is the best. -/
theorem best_of_cands {pts : List Int} {p : Int} {t : Nat} (N : Nat → Int) (K : Nat → List Int) (hrow : ∀ s, s < t → Row pts p s (N s) (K s)) {n : Int} {c : List Int} (hc : Cut pts p t c n)
    (hmin : ∀ s, s < t → ¬ kl (candN pts p t s (N s)) (candC s (K s)) n c) : Best pts p t n c := by
  refine ⟨hc, fun c' n' h' => ?_⟩
  cases h' with
  | whole _ h =>
    have h0 := hmin 0 (by omega)
    rcases hrow 0 (by omega) with ⟨_, e1, e2⟩ | hb
    · have e3 : candN pts p t 0 (N 0) = C pts 0 t := by unfold candN; rw [e1]; omega
      have e4 : candC 0 (K 0) = [] := by unfold candC; rw [if_neg (by omega)]; exact e2
      rw [e3, e4] at h0
      exact h0
    · exact absurd hb.cut.pos (by omega)
  | more s t c2 n2 h1 h2 =>
    have h0 := hmin s h1
    have hp := h2.pos
    rcases hrow s h1 with ⟨e, _, _⟩ | hb
    · omega
    · have h3 := hb.min _ _ h2
      have e4 : candC s (K s) = K s ++ [(s : Int)] := by unfold candC; rw [if_pos (by omega)]
      rw [e4] at h0
      refine not_kl_trans ?_ h0
      intro h5
      apply h3
      have e5 : n2 + p + C pts s t = n2 + (p + C pts s t) := by omega
      have e6 : candN pts p t s (N s) = N s + (p + C pts s t) := by unfold candN; omega
      rw [e5, e6] at h5
      exact (kl_snoc _ _).1 h5
theorem cst_bd (l : List Int) (B : Int) (h : ∀ x ∈ l, -B ≤ x ∧ x ≤ B) : cst l ≤ 2 * B * (l.length : Int) := by
  by_cases hl : l = []
  · subst hl; simp [cst, dev]
  · have h1 := cst_min l (med l)
    have hm := h _ (med_mem l hl)
    unfold cst
    generalize med l = m at hm
    clear h1 hl
    induction l with
    | nil => simp [dev]
    | cons x l ih =>
      have hx := h x List.mem_cons_self
      have := ih (fun y hy => h y (List.mem_cons_of_mem _ hy))
      simp only [dev, List.length_cons]
      push_cast
      rw [Int.mul_add]
      omega
theorem C_bd (pts : List Int) (h : ∀ x ∈ pts, -1099511627776 ≤ x ∧ x ≤ 1099511627776) (a b : Nat) : C pts a b ≤ 2199023255552 * ((b - a : Nat) : Int) := by
  have := cst_bd ((pts.take b).drop a) 1099511627776 (fun x hx => h x (List.mem_of_mem_take (List.mem_of_mem_drop hx)))
  have h2 : ((pts.take b).drop a).length ≤ b - a := by rw [List.length_drop, List.length_take]; omega
  unfold C
  omega
theorem Cut.bd {pts : List Int} {p : Int} (hp : ∀ x ∈ pts, -1099511627776 ≤ x ∧ x ≤ 1099511627776) (h0 : 0 ≤ p) (h1 : p ≤ 1099511627776) {t : Nat} {c : List Int} {n : Int} (h : Cut pts p t c n) : 0 ≤ n ∧ n ≤ 3298534883328 * (t : Int) := by
  induction h with
  | whole t h =>
    have := C_bd pts hp 0 t
    have := C_nonneg pts 0 t
    omega
  | more s t c n h2 h ih =>
    have := C_bd pts hp s t
    have := C_nonneg pts s t
    omega
theorem Cut.len {pts : List Int} {p : Int} {t : Nat} {c : List Int} {n : Int} (h : Cut pts p t c n) : c.length + 1 ≤ t := by
  induction h with
  | whole t h => simpa using h
  | more s t c n h1 h ih => simp; omega
end Go.Proofs.Ytcjgmofgfblmnaa.Seg
namespace Go.Proofs.Ytcjgmofgfblmnaa.Seg
open Go.RowKit Go.Proofs.YtcjgmofgfblmnaaW.PrintWords Go.Proofs.YtcjgmofgfblmnaaW.PrintLast Go.Proofs.YtcjgmofgfblmnaaW.PrintMore Go.Proofs.Ytcjgmofgfblmnaa.Q
set_option linter.unusedVariables false
set_option linter.unusedSimpArgs false
set_option linter.unusedSimpArgs false
/-- The rows of the first t indices. -/
def Rows (pts : List Int) (p : Int) (all : List S108) : Prop := ∀ s, s < all.length → Row pts p s (all.getD s z108).f0 (all.getD s z108).f1
theorem Row.bd {pts : List Int} {p : Int} (hP : Pts pts) (h0 : 0 ≤ p) (h1 : p ≤ 1099511627776) {s : Nat} (hs : s ≤ pts.length) {n : Int} {c : List Int} (h : Row pts p s n c) : -1099511627776 ≤ n ∧ n ≤ 4503599627370496 ∧ c.length ≤ 1024 := by
  have := hP.1
  rcases h with ⟨_, rfl, rfl⟩ | h
  · exact ⟨by omega, by omega, by simp⟩
  · have h2 := h.cut.bd hP.2 h0 h1
    have h3 := h.cut.len
    exact ⟨by omega, by omega, by omega⟩
theorem after_eq {pts : List Int} {p : Int} (hP : Pts pts) (h0 : 0 ≤ p) (h1 : p ≤ 1099511627776) {s t : Nat} (hs : s < t) (ht : t ≤ pts.length) {n : Int} {c : List Int} (h : Row pts p s n c) :
    segmentation_best_after.f n c (s : Int) (wrap64 (p + C pts s t)) = some (candN pts p t s n, candC s c) := by
  have hb := Row.bd hP h0 h1 (by omega) h
  have hl := hP.1
  have hC := C_bd pts hP.2 s t
  have hC0 := C_nonneg pts s t
  have e1 : wrap64 (p + C pts s t) = p + C pts s t := w64 (by omega) (by omega)
  have e2 : wrap64 (n + (p + C pts s t)) = n + (p + C pts s t) := w64 (by omega) (by omega)
  unfold segmentation_best_after.f candN candC slices_Clone_int_int.f
  rw [e1, e2]
  by_cases h2 : 0 < s
  · rw [if_pos (by omega), if_pos (by omega), if_pos h2]
    simp only [Option.bind_some]
    rw [if_pos (by omega)]
    congr 2
    omega
  · rw [if_neg (by omega), if_neg h2]
    congr 2
    omega
theorem costsOf_getD (pts : List Int) (t s : Nat) (h : s < t) : (costsOf pts t).getD s 0 = C pts s t := by
  unfold costsOf C
  rw [List.getD_eq_getElem?_getD, List.getElem?_map, List.getElem?_range h]
  rfl
theorem costsOf_length (pts : List Int) (t : Nat) : (costsOf pts t).length = t := by simp [costsOf]
/-- The candidates in order. -/
def upto (t : Nat) : List Int := (List.range t).map fun (s : Nat) => (s : Int)
theorem upto_length (t : Nat) : (upto t).length = t := by simp [upto]
theorem upto_getD (t s : Nat) (h : s < t) : (upto t).getD s 0 = (s : Int) := by
  unfold upto
  rw [List.getD_eq_getElem?_getD, List.getElem?_map, List.getElem?_range h]
  rfl
theorem upto_succ (t : Nat) : upto (t + 1) = upto t ++ [(t : Int)] := by simp [upto, List.range_succ]
def rowN (all : List S108) (s : Nat) : Int := (all.getD s z108).f0
def rowK (all : List S108) (s : Nat) : List Int := (all.getD s z108).f1
def cN (pts : List Int) (p : Int) (t : Nat) (all : List S108) (s : Nat) : Int := candN pts p t s (rowN all s)
def cK (all : List S108) (s : Nat) : List Int := candC s (rowK all s)
/-- What stands at an inner round. -/
structure Rnd (pts : List Int) (p : Int) (all : List S108) (t : Nat) (asked : Int) : Prop where
  hP : Pts pts
  h0 : 0 ≤ p
  h1 : p ≤ 1099511627776
  rows : Rows pts p all
  len : all.length = t
  one : 1 ≤ t
  top : t ≤ pts.length
  ask0 : 0 ≤ asked
  ask1 : asked ≤ 4398046511104
section
variable {pts : List Int} {p : Int} {all : List S108} {t : Nat} {asked : Int}
theorem Rnd.small (h : Rnd pts p all t asked) : t ≤ 1024 := Nat.le_trans h.top h.hP.1
theorem Rnd.row (h : Rnd pts p all t asked) {i : Nat} (hi : i < t) : Row pts p i (rowN all i) (rowK all i) := h.rows i (by rw [h.len]; exact hi)
theorem Rnd.bds (h : Rnd pts p all t asked) {i : Nat} (hi : i < t) : -1099511627776 ≤ rowN all i ∧ rowN all i ≤ 4503599627370496 ∧ (rowK all i).length ≤ 1024 := Row.bd h.hP h.h0 h.h1 (Nat.le_of_lt (Nat.lt_of_lt_of_le hi h.top)) (h.row hi)
theorem Rnd.C (h : Rnd pts p all t asked) {i : Nat} (hi : i < t) : 0 ≤ C pts i t ∧ C pts i t ≤ 2251799813685248 := by
  have h1 := C_bd pts h.hP.2 i t
  have h2 := C_nonneg pts i t
  have h3 := h.small
  omega
theorem Rnd.asks (h : Rnd pts p all t asked) {i : Nat} (hi : i < t) : wrap64 (asked + (i : Int) + 1) = asked + ((i + 1 : Nat) : Int) := by
  have h1 := h.small
  have h2 := h.ask0
  have h3 := h.ask1
  rw [w64 (by omega) (by omega)]; omega
theorem Rnd.sum (h : Rnd pts p all t asked) {i : Nat} (hi : i < t) : wrap64 ((wrap64 (rowN all i + p)) + Seg.C pts i t) = cN pts p t all i := by
  have h1 := h.bds hi
  have h2 := h.C hi
  have h3 := h.h0
  have h4 := h.h1
  have e : wrap64 (rowN all i + p) = rowN all i + p := w64 (by omega) (by omega)
  rw [e, w64 (by omega) (by omega)]
  rfl
theorem Rnd.after (h : Rnd pts p all t asked) {i : Nat} (hi : i < t) : segmentation_best_after.f (rowN all i) (rowK all i) (i : Int) (wrap64 (p + Seg.C pts i t)) = some (cN pts p t all i, cK all i) :=
  after_eq h.hP h.h0 h.h1 hi h.top (h.row hi)
theorem Rnd.cost (h : Rnd pts p all t asked) {i : Nat} (hi : i < t) : rd (costsOf pts t) (i : Int) = Seg.C pts i t := by rw [rdn, costsOf_getD pts t i hi]
theorem rd_upto {i : Nat} (hi : i < t) : rd (upto t) (i : Int) = (i : Int) := by rw [rdn, upto_getD t i hi]
theorem E1 (h : Rnd pts p all t asked) (k : Nat) (n : Int) (c : List Int) : segmentation_solve.l1 (k + 1) pts p false (upto t) (asked + (t : Int)) (t : Int) (t : Int) (t : Int) all (costsOf pts t) n c =
    segmentation_solve.l0 k pts p false (upto (t + 1)) (asked + (t : Int)) ((t : Int) + 1) (all ++ [(⟨n, c⟩ : S108)]) := by
  have h1 := h.small
  have h2 := h.len
  simp only [segmentation_solve.l1]
  rw [if_neg (Int.lt_irrefl _), if_pos (by omega), if_neg (by decide), if_pos (by rw [upto_length]; omega), w64 (by omega) (by omega), upto_succ]
theorem E2 (h : Rnd pts p all t asked) (k : Nat) (n : Int) (c : List Int) : segmentation_solve.l1 (k + 1) pts p false (upto t) (asked + ((0 : Nat) : Int)) (t : Int) (t : Int) ((0 : Nat) : Int) all (costsOf pts t) n c =
    segmentation_solve.j2 k pts p false (upto t) (asked + ((0 + 1 : Nat) : Int)) (t : Int) ((0 : Nat) : Int) ((0 : Nat) : Int) (t : Int) ((0 : Nat) : Int) false all (costsOf pts t) n c := by
  have h1 := h.one
  have e1 := h.asks (i := 0) (by omega)
  have e2 := rd_upto (t := t) (i := 0) (by omega)
  simp only [segmentation_solve.l1]
  rw [if_pos (by omega), if_pos (by omega), if_pos (by rw [upto_length]; omega), if_neg (by omega), e1, e2]
theorem E3 (h : Rnd pts p all t asked) (k : Nat) {i : Nat} (hi : i < t) (hz : 0 < i) (n : Int) (c : List Int) : segmentation_solve.l1 (k + 1) pts p false (upto t) (asked + (i : Int)) (t : Int) (t : Int) (i : Int) all (costsOf pts t) n c =
    segmentation_solve.j2 k pts p false (upto t) (asked + ((i + 1 : Nat) : Int)) (t : Int) (i : Int) (i : Int) (t : Int) (i : Int) (decide (cN pts p t all i > n)) all (costsOf pts t) n c := by
  have h1 := h.len
  have e1 := h.asks hi
  have e2 := rd_upto hi
  have e3 := h.cost hi
  have e4 := h.sum hi
  have ea : (rd_T108 all (i : Int)).f0 = rowN all i := rfl
  simp only [segmentation_solve.l1]
  rw [if_pos (by omega), if_pos (by omega), if_pos (by rw [upto_length]; omega), if_pos (by omega), e2, if_pos (by omega), if_pos (by omega), costsOf_length, if_pos (by omega), ea, e3, e4, e1]
end
/-- n and c are the first one of the candidates before i. -/
def Least (pts : List Int) (p : Int) (t : Nat) (all : List S108) (i : Nat) (n : Int) (c : List Int) : Prop :=
  (∃ s, s < i ∧ n = cN pts p t all s ∧ c = cK all s) ∧ ∀ s, s < i → ¬ kl (cN pts p t all s) (cK all s) n c
theorem Least.first {pts : List Int} {p : Int} {t : Nat} {all : List S108} : Least pts p t all 1 (cN pts p t all 0) (cK all 0) :=
  ⟨⟨0, by omega, rfl, rfl⟩, fun s hs => by cases (show s = 0 by omega); exact kl_irr _ _⟩
theorem Least.take {pts : List Int} {p : Int} {t : Nat} {all : List S108} {i : Nat} {n : Int} {c : List Int} (h : Least pts p t all i n c) (hk : kl (cN pts p t all i) (cK all i) n c) : Least pts p t all (i + 1) (cN pts p t all i) (cK all i) := by
  refine ⟨⟨i, by omega, rfl, rfl⟩, fun s hs => ?_⟩
  rcases Nat.lt_or_ge s i with h3 | h3
  · intro h4; exact h.2 s h3 (kl_trans h4 hk)
  · cases (show s = i by omega); exact kl_irr _ _
theorem Least.pass {pts : List Int} {p : Int} {t : Nat} {all : List S108} {i : Nat} {n : Int} {c : List Int} (h : Least pts p t all i n c) (hk : ¬ kl (cN pts p t all i) (cK all i) n c) : Least pts p t all (i + 1) n c := by
  obtain ⟨⟨s, hs, e1, e2⟩, hm⟩ := h
  refine ⟨⟨s, by omega, e1, e2⟩, fun s' hs' => ?_⟩
  rcases Nat.lt_or_ge s' i with h3 | h3
  · exact hm s' h3
  · cases (show s' = i by omega); exact hk
theorem Least.best {pts : List Int} {p : Int} {t : Nat} {all : List S108} {asked : Int} {n : Int} {c : List Int} (h : Least pts p t all t n c) (g : Rnd pts p all t asked) : Best pts p t n c := by
  obtain ⟨⟨s, hs, e1, e2⟩, hm⟩ := h
  have hcut : Cut pts p t c n := by rw [e1, e2]; exact cand_cut (g.row hs) hs
  exact best_of_cands (rowN all) (rowK all) (fun s hs => g.row hs) hcut hm
theorem Rows.snoc {pts : List Int} {p : Int} {all : List S108} (h : Rows pts p all) {n : Int} {c : List Int} (hb : Best pts p all.length n c) : Rows pts p (all ++ [(⟨n, c⟩ : S108)]) := by
  intro s hs
  rcases Nat.lt_or_ge s all.length with h1 | h1
  · have := h s h1
    rw [List.getD_eq_getElem?_getD, List.getElem?_append_left h1, ← List.getD_eq_getElem?_getD]
    exact this
  · have e : s = all.length := by simp at hs; omega
    subst e
    have e2 : (all ++ [(⟨n, c⟩ : S108)]).getD all.length z108 = ⟨n, c⟩ := by
      rw [List.getD_eq_getElem?_getD, List.getElem?_append_right (Nat.le_refl _)]; simp
    rw [e2]
    exact .inr hb
end Go.Proofs.Ytcjgmofgfblmnaa.Seg
namespace Go.Proofs.Ytcjgmofgfblmnaa.Seg
set_option linter.unusedVariables false
set_option linter.unusedSimpArgs false
set_option linter.unusedSimpArgs false
/-- The error of cuts behind 'a'. -/
def cutErr (n : Nat) (a : Int) : List Int → Int
  | [] => 0
  | c :: cs => if c < 1 ∨ (n : Int) ≤ c then 2 else if c ≤ a then 8 else cutErr n c cs
/-- The total of the parts from 'a' on. -/
def fw (pts : List Int) (t a : Nat) : List Int → Int
  | [] => C pts a t
  | c :: cs => C pts a c.toNat + fw pts t c.toNat cs
/-- The parts from 'a' on. -/
def prt (l : List Int) (a : Nat) : List Int → List (List Int)
  | [] => [l.drop a]
  | c :: cs => (l.take c.toNat).drop a :: prt l c.toNat cs
def tot (l : List Int) (p : Int) (c : List Int) : Int := p * (c.length : Int) + fw l l.length 0 c
theorem prt_length (l : List Int) : ∀ (cs : List Int) (a : Nat), (prt l a cs).length = cs.length + 1 := by
  intro cs
  induction cs with
  | nil => intro a; rfl
  | cons c cs ih => intro a; simp only [prt, List.length_cons, ih]
theorem fw_snoc (pts : List Int) (t s : Nat) : ∀ (cs : List Int) (a : Nat), fw pts t a (cs ++ [(s : Int)]) = fw pts s a cs + C pts s t := by
  intro cs
  induction cs with
  | nil => intro a; simp [fw]
  | cons c cs ih => intro a; simp only [List.cons_append, fw, ih]; omega
theorem cutErr_snoc (n s : Nat) (hs : s < n) : ∀ (cs : List Int) (a : Int), cutErr n a (cs ++ [(s : Int)]) = 0 → cutErr s a cs = 0 ∧ a < (s : Int) ∧ 1 ≤ s := by
  intro cs
  induction cs with
  | nil =>
    intro a h
    simp only [List.nil_append, cutErr] at h
    split at h
    · omega
    · split at h
      · omega
      · exact ⟨rfl, by omega, by omega⟩
  | cons c cs ih =>
    intro a h
    simp only [List.cons_append, cutErr] at h
    split at h
    · omega
    · split at h
      · omega
      · obtain ⟨h1, h2, h3⟩ := ih c h
        refine ⟨?_, by omega, h3⟩
        simp only [cutErr]
        rw [if_neg (by omega), if_neg (by omega)]
        exact h1
theorem cutErr_mk (n s : Nat) (hs : s < n) (h1 : 1 ≤ s) : ∀ (cs : List Int) (a : Int), a < (s : Int) → cutErr s a cs = 0 → cutErr n a (cs ++ [(s : Int)]) = 0 := by
  intro cs
  induction cs with
  | nil => intro a ha _; simp only [List.nil_append, cutErr]; rw [if_neg (by omega), if_neg (by omega)]
  | cons c cs ih =>
    intro a ha h
    simp only [cutErr] at h
    split at h
    · omega
    · split at h
      · omega
      · simp only [List.cons_append, cutErr]
        rw [if_neg (by omega), if_neg (by omega)]
        exact ih c (by omega) h
theorem cutErr_mem (n : Nat) : ∀ (cs : List Int) (a : Int), cutErr n a cs = 0 → ∀ c ∈ cs, 1 ≤ c ∧ c < (n : Int) := by
  intro cs
  induction cs with
  | nil => intro a _ c hc; cases hc
  | cons x cs ih =>
    intro a h c hc
    simp only [cutErr] at h
    split at h
    · omega
    · split at h
      · omega
      · rcases List.mem_cons.1 hc with rfl | hc
        · omega
        · exact ih x h c hc
/-- Right cuts have exactly one total. -/
theorem Cut.of (pts : List Int) (p : Int) : ∀ (k t : Nat) (c : List Int), c.length = k → 1 ≤ t → cutErr t 0 c = 0 → Cut pts p t c (p * (c.length : Int) + fw pts t 0 c) := by
  intro k
  induction k with
  | zero =>
    intro t c hc ht _
    obtain rfl : c = [] := List.length_eq_zero_iff.1 hc
    have := Cut.whole (pts := pts) (p := p) t ht
    simpa [fw] using this
  | succ k ih =>
    intro t c hc ht h
    rcases List.eq_nil_or_concat c with rfl | ⟨c', x, rfl⟩
    · simp at hc
    · have hm := cutErr_mem t _ 0 h x (by simp)
      obtain ⟨s, rfl⟩ := Int.eq_ofNat_of_zero_le (show 0 ≤ x by omega)
      simp only [List.concat_eq_append] at h hc ⊢
      have hst : s < t := by omega
      obtain ⟨h1, _, h2⟩ := cutErr_snoc t s hst c' 0 h
      have := Cut.more s t c' _ hst (ih s c' (by simpa using hc) h2 h1)
      rw [fw_snoc]
      have e : p * (c'.length : Int) + fw pts s 0 c' + p + C pts s t = p * (((c' ++ [(s : Int)]).length : Nat) : Int) + (fw pts s 0 c' + C pts s t) := by
        rw [List.length_append, List.length_singleton]; push_cast; rw [Int.mul_add]; omega
      rw [← e]
      exact this
theorem Cut.ok {pts : List Int} {p : Int} {t : Nat} {c : List Int} {n : Int} (h : Cut pts p t c n) : cutErr t 0 c = 0 := by
  induction h with
  | whole t h => rfl
  | more s t c n h1 h ih => exact cutErr_mk t s h1 h.pos c 0 (by have := h.pos; omega) ih
theorem Cut.total {l : List Int} {p : Int} {c : List Int} {n : Int} (h : Cut l p l.length c n) : n = tot l p c := h.det (Cut.of l p _ l.length c rfl h.pos h.ok)
theorem Cut.mk {l : List Int} {p : Int} {c : List Int} (hl : l ≠ []) (h : cutErr l.length 0 c = 0) : Cut l p l.length c (tot l p c) := Cut.of l p _ l.length c rfl (List.length_pos_iff.2 hl) h
/-- Parts of points. -/
def lens : List (List Int) → Nat
  | [] => 0
  | x :: r => x.length + lens r
theorem prt_ok (l : List Int) : ∀ (cs : List Int) (a : Nat), cutErr l.length a cs = 0 → a < l.length → (∀ x ∈ prt l a cs, x ≠ [] ∧ ∀ y ∈ x, y ∈ l) ∧ lens (prt l a cs) = l.length - a := by
  intro cs
  induction cs with
  | nil =>
    intro a _ ha
    refine ⟨fun x hx => ?_, ?_⟩
    · simp only [prt, List.mem_singleton] at hx
      subst hx
      exact ⟨fun e => by have := congrArg List.length e; simp at this; omega, fun y hy => List.mem_of_mem_drop hy⟩
    · simp [prt, lens]
  | cons c cs ih =>
    intro a h ha
    simp only [cutErr] at h
    split at h
    · omega
    · split at h
      · omega
      · have e : (c.toNat : Int) = c := Int.toNat_of_nonneg (by omega)
        obtain ⟨h1, h2⟩ := ih c.toNat (by rw [e]; exact h) (by omega)
        refine ⟨fun x hx => ?_, ?_⟩
        · simp only [prt, List.mem_cons] at hx
          rcases hx with rfl | hx
          · refine ⟨fun e => ?_, fun y hy => List.mem_of_mem_take (List.mem_of_mem_drop hy)⟩
            have := congrArg List.length e
            rw [List.length_drop, List.length_take] at this
            simp at this
            omega
          · exact h1 x hx
        · simp only [prt, lens, h2, List.length_drop, List.length_take]
          omega
end Go.Proofs.Ytcjgmofgfblmnaa.Seg
namespace Go.Proofs.Ytcjgmofgfblmnaa.Seg
open Go.RowKit Go.Proofs.YtcjgmofgfblmnaaW.PrintWords Go.Proofs.YtcjgmofgfblmnaaW.PrintLast Go.Proofs.YtcjgmofgfblmnaaW.PrintMore Go.Proofs.Ytcjgmofgfblmnaa.Q
set_option linter.unusedVariables false
set_option linter.unusedSimpArgs false
set_option linter.unusedSimpArgs false
def bad (x : Int) : Bool := decide (x < -1099511627776) || decide (x > 1099511627776)
/-- The error of points and a penalty. -/
def chk (l : List Int) (p : Int) : Int := if l.length = 0 then 7 else if 1024 < l.length then 6 else if l.any bad then 2 else if p < 0 then 2 else if p > 1099511627776 then 2 else 0
theorem drop_any (l : List Int) (i : Nat) (h : i < l.length) : (l.drop i).any bad = (bad (l.getD i 0) || (l.drop (i + 1)).any bad) := by
  rw [List.drop_eq_getElem_cons h, List.any_cons, List.getD_eq_getElem?_getD, List.getElem?_eq_getElem h]
  rfl
theorem check_loop (l : List Int) (p : Int) (hl : l.length ≤ 1024) : ∀ (d i : Nat), l.length - i = d → i ≤ l.length →
    Ev (fun k => segmentation_Check.l0 k p l (l.length : Int) (i : Int)) (if (l.drop i).any bad then 2 else if p < 0 then 2 else if p > 1099511627776 then 2 else 0) := by
  intro d
  induction d with
  | zero =>
    intro i hd hi
    refine Ev.step (f := fun _ => some _) (fun k => ?_) (Ev.now _)
    simp only [segmentation_Check.l0]
    rw [if_neg (by omega), List.drop_eq_nil_of_le (by omega)]
    simp only [List.any_nil, Bool.false_eq_true, if_false]
    split
    · rfl
    · split <;> rfl
  | succ d ih =>
    intro i hd hi
    have h := ih (i + 1) (by omega) (by omega)
    rw [drop_any l i (by omega)]
    by_cases h1 : l.getD i 0 < -1099511627776
    · refine Ev.step (f := fun _ => some _) (fun k => ?_) (Ev.now _)
      simp only [segmentation_Check.l0]
      rw [if_pos (by omega), if_pos (by omega), if_pos (by omega), rdn, if_pos h1]
      have : bad (l.getD i 0) = true := by unfold bad; rw [decide_eq_true h1]; rfl
      rw [this]
      simp
    · by_cases h2 : l.getD i 0 > 1099511627776
      · refine Ev.step (f := fun _ => some _) (fun k => ?_) (Ev.now _)
        simp only [segmentation_Check.l0]
        rw [if_pos (by omega), if_pos (by omega), if_pos (by omega), rdn, if_neg h1, if_pos h2]
        have : bad (l.getD i 0) = true := by unfold bad; rw [decide_eq_true h2, Bool.or_true]
        rw [this]
        simp
      · have e : bad (l.getD i 0) = false := by unfold bad; rw [decide_eq_false h1, decide_eq_false h2]; rfl
        rw [e, Bool.false_or]
        refine Ev.step (fun k => ?_) h
        simp only [segmentation_Check.l0]
        rw [if_pos (by omega), if_pos (by omega), if_pos (by omega), rdn, if_neg h1, if_neg h2, w64 (by omega) (by omega)]
        rfl
theorem check_ev (l : List Int) (p : Int) : Ev (fun k => segmentation_Check.f k l p) (chk l p) := by
  unfold chk
  by_cases h0 : l.length = 0
  · refine Ev.congr (fun k => ?_) (Ev.now _)
    unfold segmentation_Check.f
    rw [if_pos (by omega), if_pos h0]
  · by_cases h1 : 1024 < l.length
    · refine Ev.congr (fun k => ?_) (Ev.now _)
      unfold segmentation_Check.f
      rw [if_neg (by omega), if_pos (by omega), if_neg h0, if_pos h1]
    · rw [if_neg h0, if_neg h1]
      refine Ev.congr (fun k => ?_) (check_loop l p (by omega) (l.length - 0) 0 rfl (Nat.zero_le _))
      unfold segmentation_Check.f
      rw [if_neg (by omega), if_neg (by omega)]
      rfl
theorem chk_ok {l : List Int} {p : Int} (h : chk l p = 0) : Pts l ∧ l ≠ [] ∧ 0 ≤ p ∧ p ≤ 1099511627776 := by
  unfold chk at h
  split at h
  · omega
  · split at h
    · omega
    · split at h
      · omega
      · rename_i h3
        split at h
        · omega
        · split at h
          · omega
          · refine ⟨⟨by omega, fun x hx => ?_⟩, by intro e; subst e; simp at *, by omega, by omega⟩
            have := fun hb => h3 (List.any_eq_true.2 ⟨x, hx, hb⟩)
            unfold bad at this
            simp at this
            omega
theorem chk_mk {l : List Int} {p : Int} (h : Pts l) (hl : l ≠ []) (h0 : 0 ≤ p) (h1 : p ≤ 1099511627776) : chk l p = 0 := by
  have h2 := List.length_pos_iff.2 hl
  have h3 := h.1
  unfold chk
  rw [if_neg (by omega), if_neg (by omega), if_neg, if_neg (by omega), if_neg (by omega)]
  intro h4
  obtain ⟨x, hx, hb⟩ := List.any_eq_true.1 h4
  have := h.2 x hx
  unfold bad at hb
  simp at hb
  omega
/-- Potentials. -/
theorem median_eq (l : List Int) (hl : l ≠ []) (hb : l.length ≤ 1024) : segmentation_median.f l = some (med l) := by
  have h1 := List.length_pos_iff.2 hl
  have e : wrap64 (Int.tdiv (wrap64 ((l.length : Int) - 1)) 2) = (((l.length - 1) / 2 : Nat) : Int) := by
    have e1 : wrap64 ((l.length : Int) - 1) = ((l.length - 1 : Nat) : Int) := by rw [w64 (by omega) (by omega)]; omega
    rw [e1]
    have e2 : Int.tdiv ((l.length - 1 : Nat) : Int) 2 = (((l.length - 1) / 2 : Nat) : Int) := by
      rw [Int.tdiv_eq_ediv_of_nonneg (by omega)]; omega
    rw [e2, w64 (by omega) (by omega)]
  unfold segmentation_median.f slices_Clone_int_int.f slices_Sort_int_int.f
  rw [if_pos (by omega)]
  simp only [Option.bind_some]
  rw [if_pos (by omega)]
  simp only [Option.bind_some]
  rw [e, if_pos (by omega), if_pos (by omega)]
  rfl
end Go.Proofs.Ytcjgmofgfblmnaa.Seg
namespace Go.Proofs.Ytcjgmofgfblmnaa.Seg
open Go.RowKit Go.Proofs.YtcjgmofgfblmnaaW.PrintWords Go.Proofs.YtcjgmofgfblmnaaW.PrintLast Go.Proofs.YtcjgmofgfblmnaaW.PrintMore Go.Proofs.Ytcjgmofgfblmnaa.Q
set_option linter.unusedVariables false
set_option linter.unusedSimpArgs false
set_option linter.unusedSimpArgs false
theorem drop_cons (l : List Int) (i : Nat) (h : i < l.length) : l.drop i = l.getD i 0 :: l.drop (i + 1) := by
  rw [List.drop_eq_getElem_cons h, List.getD_eq_getElem?_getD, List.getElem?_eq_getElem h]
  rfl
theorem cuts_loop (l cuts : List Int) (hl : l.length ≤ 1024) (hc : cuts.length ≤ 1099511627776) : ∀ (d i : Nat), cuts.length - i = d → i ≤ cuts.length →
    Ev (fun k => segmentation_checkCuts.l0 k l cuts cuts (cuts.length : Int) (i : Int)) (cutErr l.length (if i = 0 then 0 else cuts.getD (i - 1) 0) (cuts.drop i)) := by
  intro d
  induction d with
  | zero =>
    intro i hd hi
    refine Ev.step (f := fun _ => some _) (fun k => ?_) (Ev.now _)
    simp only [segmentation_checkCuts.l0]
    rw [if_neg (by omega), List.drop_eq_nil_of_le (by omega)]
    rfl
  | succ d ih =>
    intro i hd hi
    have hlt : i < cuts.length := by omega
    have next := ih (i + 1) (by omega) (by omega)
    rw [if_neg (by omega), Nat.add_sub_cancel] at next
    rw [drop_cons cuts i hlt]
    simp only [cutErr]
    have ew : wrap64 ((i : Int) + 1) = ((i + 1 : Nat) : Int) := by rw [w64 (by omega) (by omega)]; omega
    by_cases h1 : cuts.getD i 0 < 1
    · rw [if_pos (by omega)]
      refine Ev.step (f := fun k => segmentation_checkCuts.j1 k l cuts (i : Int) (cuts.getD i 0) cuts (cuts.length : Int) (i : Int) true) (fun k => ?_) (Ev.step (f := fun _ => some 2) (fun k => ?_) (Ev.now _))
      · simp only [segmentation_checkCuts.l0]
        rw [if_pos (by omega), if_pos (by omega), if_pos (by omega), rdn, if_pos h1]
      · simp only [segmentation_checkCuts.j1]
        rw [if_pos trivial]
    · by_cases h2 : (l.length : Int) ≤ cuts.getD i 0
      · rw [if_pos (.inr h2)]
        refine Ev.step (f := fun k => segmentation_checkCuts.j1 k l cuts (i : Int) (cuts.getD i 0) cuts (cuts.length : Int) (i : Int) true) (fun k => ?_) (Ev.step (f := fun _ => some 2) (fun k => ?_) (Ev.now _))
        · simp only [segmentation_checkCuts.l0]
          rw [if_pos (by omega), if_pos (by omega), if_pos (by omega), rdn, if_neg h1, decide_eq_true (by omega)]
        · simp only [segmentation_checkCuts.j1]
          rw [if_pos trivial]
      · rw [if_neg (by omega)]
        refine Ev.step (f := fun k => segmentation_checkCuts.j1 k l cuts (i : Int) (cuts.getD i 0) cuts (cuts.length : Int) (i : Int) false) (fun k => ?_) ?_
        · simp only [segmentation_checkCuts.l0]
          rw [if_pos (by omega), if_pos (by omega), if_pos (by omega), rdn, if_neg h1, decide_eq_false (by omega)]
        · by_cases hz : i = 0
          · subst hz
            rw [if_pos rfl, if_neg (by omega)]
            refine Ev.step (fun k => ?_) next
            simp only [segmentation_checkCuts.j1]
            rw [if_neg (by decide), if_neg (by omega), ew]
          · rw [if_neg hz]
            have e1 : wrap64 ((i : Int) - 1) = ((i - 1 : Nat) : Int) := by rw [w64 (by omega) (by omega)]; omega
            by_cases h3 : cuts.getD i 0 ≤ cuts.getD (i - 1) 0
            · rw [if_pos h3]
              refine Ev.step (f := fun _ => some 8) (fun k => ?_) (Ev.now _)
              simp only [segmentation_checkCuts.j1]
              rw [if_neg (by decide), if_pos (by omega), e1, if_pos (by omega), if_pos (by omega), rdn, if_pos h3]
            · rw [if_neg h3]
              refine Ev.step (fun k => ?_) next
              simp only [segmentation_checkCuts.j1]
              rw [if_neg (by decide), if_pos (by omega), e1, if_pos (by omega), if_pos (by omega), rdn, if_neg h3, ew]
theorem cuts_ev (l cuts : List Int) (hl : l.length ≤ 1024) (hc : cuts.length ≤ 1099511627776) : Ev (fun k => segmentation_checkCuts.f k l cuts) (cutErr l.length 0 cuts) := by
  have := cuts_loop l cuts hl hc (cuts.length - 0) 0 rfl (Nat.zero_le _)
  exact this
theorem parts_loop (l cuts : List Int) (hl : l.length ≤ 1024) (hc : cuts.length ≤ 1024) : ∀ (d i a : Nat) (out : List (List Int)), cuts.length - i = d → i ≤ cuts.length → cutErr l.length (a : Int) (cuts.drop i) = 0 → a ≤ l.length → out.length + d ≤ 2048 →
    Ev (fun k => segmentation_parts.l0 k l out (a : Int) cuts (cuts.length : Int) (i : Int)) (out ++ prt l a (cuts.drop i)) := by
  intro d
  induction d with
  | zero =>
    intro i a out hd hi he ha ho
    refine Ev.step (f := fun _ => some _) (fun k => ?_) (Ev.now _)
    simp only [segmentation_parts.l0]
    rw [if_neg (by omega), if_pos (by omega), if_pos (by omega), if_pos (by omega), List.drop_eq_nil_of_le (by omega : cuts.length ≤ i)]
    rfl
  | succ d ih =>
    intro i a out hd hi he ha ho
    have hlt : i < cuts.length := by omega
    rw [drop_cons cuts i hlt] at he ⊢
    simp only [cutErr] at he
    split at he
    · omega
    · split at he
      · omega
      · obtain ⟨c, hcc⟩ := Int.eq_ofNat_of_zero_le (show 0 ≤ cuts.getD i 0 by omega)
        rw [hcc] at he ⊢
        have := ih (i + 1) c (out ++ [(l.take c).drop a]) (by omega) (by omega) he (by omega) (by simp; omega)
        simp only [prt, Int.toNat_natCast]
        rw [List.append_assoc] at this
        refine Ev.step (fun k => ?_) this
        simp only [segmentation_parts.l0]
        rw [if_pos (by omega), if_pos (by omega), if_pos (by omega), if_pos (by omega), rdn, hcc, if_pos (by omega), if_pos (by omega), if_pos (by omega), w64 (by omega) (by omega)]
        rfl
theorem parts_ev (l cuts : List Int) (hl : l.length ≤ 1024) (hc : cuts.length ≤ 1024) (he : cutErr l.length 0 cuts = 0) : Ev (fun k => segmentation_parts.f k l cuts) (prt l 0 cuts) := by
  have := parts_loop l cuts hl hc (cuts.length - 0) 0 0 [] rfl (Nat.zero_le _) he (Nat.zero_le _) (by simp; omega)
  exact this
theorem dropL_cons (l : List (List Int)) (i : Nat) (h : i < l.length) : l.drop i = l.getD i [] :: l.drop (i + 1) := by
  rw [List.drop_eq_getElem_cons h, List.getD_eq_getElem?_getD, List.getElem?_eq_getElem h]
  rfl
theorem memL (l : List (List Int)) (i : Nat) (h : i < l.length) : l.getD i [] ∈ l := by
  rw [List.getD_eq_getElem?_getD, List.getElem?_eq_getElem h]; exact List.getElem_mem h
def GoodParts (r : List (List Int)) : Prop := ∀ x ∈ r, x ≠ [] ∧ Pts x
theorem good_prt {l cuts : List Int} (hP : Pts l) (hl : l ≠ []) (he : cutErr l.length 0 cuts = 0) : GoodParts (prt l 0 cuts) ∧ lens (prt l 0 cuts) = l.length := by
  obtain ⟨h1, h2⟩ := prt_ok l cuts 0 he (List.length_pos_iff.2 hl)
  have h3 : ∀ (r : List (List Int)) (x : List Int), x ∈ r → x.length ≤ lens r := by
    intro r
    induction r with
    | nil => intro x hx; cases hx
    | cons y r ih =>
      intro x hx
      simp only [lens]
      rcases List.mem_cons.1 hx with rfl | hx
      · omega
      · have := ih x hx; omega
  refine ⟨fun x hx => ⟨(h1 x hx).1, ⟨?_, fun y hy => hP.2 y ((h1 x hx).2 y hy)⟩⟩, by omega⟩
  have := h3 _ x hx
  have := hP.1
  omega
end Go.Proofs.Ytcjgmofgfblmnaa.Seg
namespace Go.Proofs.Ytcjgmofgfblmnaa.Seg
open Go.RowKit Go.Proofs.YtcjgmofgfblmnaaW.PrintWords Go.Proofs.YtcjgmofgfblmnaaW.PrintLast Go.Proofs.YtcjgmofgfblmnaaW.PrintMore Go.Proofs.Ytcjgmofgfblmnaa.Q
set_option linter.unusedVariables false
set_option linter.unusedSimpArgs false
set_option linter.unusedSimpArgs false
theorem Ev.same {α : Type} {g : Nat → Option α} {r s : α} (h : Ev g r) (h' : Ev g s) : r = s := by
  obtain ⟨a, ha⟩ := h
  obtain ⟨b, hb⟩ := h'
  have h1 := ha (max a b) (by omega)
  have h2 := hb (max a b) (by omega)
  rw [h1] at h2
  exact Option.some.inj h2
theorem levels_loop (r : List (List Int)) (hr : GoodParts r) (hl : r.length ≤ 2048) : ∀ (d i : Nat) (out : List Int), r.length - i = d → i ≤ r.length → out.length = i →
    Ev (fun k => segmentation_Levels.l0 k out r (r.length : Int) (i : Int)) (out ++ (r.drop i).map med, 0) := by
  intro d
  induction d with
  | zero =>
    intro i out hd hi ho
    refine Ev.step (f := fun _ => some _) (fun k => ?_) (Ev.now _)
    simp only [segmentation_Levels.l0]
    rw [if_neg (by omega), List.drop_eq_nil_of_le (by omega)]
    simp
  | succ d ih =>
    intro i out hd hi ho
    have hlt : i < r.length := by omega
    obtain ⟨g1, g2⟩ := hr _ (memL r i hlt)
    rw [dropL_cons r i hlt, List.map_cons]
    have := ih (i + 1) (out ++ [med (r.getD i [])]) (by omega) (by omega) (by simp [ho])
    rw [List.append_assoc] at this
    refine Ev.step (fun k => ?_) this
    have e : segmentation_median.f (rd_L2 r (i : Int)) = some (med (r.getD i [])) := median_eq _ g1 g2.1
    simp only [segmentation_Levels.l0]
    rw [if_pos (by omega), if_pos (by omega), if_pos (by omega), e, Option.bind_some, if_pos (by omega), w64 (x := (i : Int) + 1) (by omega) (by omega)]
    rfl
theorem levels_ev (l cuts : List Int) (p : Int) (h : chk l p = 0) (hc : cuts.length ≤ 1024) : Ev (fun k => segmentation_Levels.f k l cuts) (if cutErr l.length 0 cuts = 0 then ((prt l 0 cuts).map med, 0) else ([], cutErr l.length 0 cuts)) := by
  obtain ⟨hP, hl, h0, h1⟩ := chk_ok h
  have h00 : chk l 0 = 0 := chk_mk hP hl (by decide) (by decide)
  have hk := check_ev l 0
  rw [h00] at hk
  have he := cuts_ev l cuts hP.1 (by omega)
  unfold segmentation_Levels.f
  refine Ev.bind hk ?_
  simp only [if_true]
  refine Ev.bind he ?_
  by_cases e : cutErr l.length 0 cuts = 0
  · rw [if_pos e]
    obtain ⟨g1, g2⟩ := good_prt hP hl e
    have hpl := prt_length l cuts 0
    have := levels_loop (prt l 0 cuts) g1 (by omega) _ 0 [] rfl (Nat.zero_le _) rfl
    rw [List.drop_zero, List.nil_append] at this
    have hpe := parts_ev l cuts hP.1 hc e
    refine Ev.congr (fun k => if_pos e) ?_
    exact Ev.bind hpe this
  · rw [if_neg e]
    exact Ev.congr (fun k => if_neg e) (Ev.now _)

/-! Of. -/
def mkCh (s5 : Int) (c lev : List Int) : List S41 := (List.range c.length).map fun i => ⟨wrap64 (s5 + c.getD i 0), lev.getD i 0, lev.getD (i + 1) 0⟩
theorem mkCh_length (s5 : Int) (c lev : List Int) : (mkCh s5 c lev).length = c.length := by simp [mkCh]
theorem of_loop (lev c : List Int) (hl : lev.length = c.length + 1) (hc : c.length ≤ 1024) (s0 s1 : ByteArray) (s2 s3 s4 s5 : Int) (l : List Int) : ∀ (d i : Nat), c.length - i = d → i ≤ c.length →
    Ev (fun k => changepoint_Of.l0 k lev ((mkCh s5 c lev).take i) c (c.length : Int) (i : Int) s0 s1 s2 s3 s4 s5 l) (mkCh s5 c lev, 0) := by
  intro d
  induction d with
  | zero =>
    intro i hd hi
    refine Ev.step (f := fun _ => some _) (fun k => ?_) (Ev.now _)
    simp only [changepoint_Of.l0]
    rw [if_neg (by omega), List.take_of_length_le (by rw [mkCh_length]; omega)]
  | succ d ih =>
    intro i hd hi
    have hlt : i < c.length := by omega
    have h1 := ih (i + 1) (by omega) (by omega)
    have e : (mkCh s5 c lev).take (i + 1) = (mkCh s5 c lev).take i ++ [⟨wrap64 (s5 + c.getD i 0), lev.getD i 0, lev.getD (i + 1) 0⟩] := by
      rw [List.take_succ_eq_append_getElem (by rw [mkCh_length]; exact hlt)]
      congr 1
      simp [mkCh]
    rw [e] at h1
    refine Ev.step (fun k => ?_) h1
    have hw : wrap64 ((i : Int) + 1) = ((i + 1 : Nat) : Int) := by rw [w64 (by omega) (by omega)]; omega
    simp only [changepoint_Of.l0]
    rw [hw, if_pos (by omega), if_pos (by omega), if_pos (by omega), if_pos (by omega), if_pos (by omega), if_pos (by omega), if_pos (by rw [List.length_take, mkCh_length]; omega)]
    rfl
theorem of_ok {s0 s1 : ByteArray} {s2 s3 s4 s5 : Int} {l : List Int} {p n : Int} {c lev : List Int} (hs : Ev (fun k => series_Check.f k s0 s1 s2 s3 s4 s5 l) 0) (h : chk l p = 0) (hb : Ev (fun k => segmentation_Best.f k l p) (c, n, 0))
    (hv : Ev (fun k => segmentation_Levels.f k l c) (lev, 0)) (hl : lev.length = c.length + 1) (hc : c.length ≤ 1024) : Ev (fun k => changepoint_Of.f k s0 s1 s2 s3 s4 s5 l p) (mkCh s5 c lev, 0) := by
  have hk := check_ev l p
  rw [h] at hk
  unfold changepoint_Of.f
  refine Ev.bind hs ?_
  simp only [if_true]
  refine Ev.bind hk ?_
  simp only [if_true]
  refine Ev.bind hb ?_
  simp only [if_true]
  refine Ev.bind hv ?_
  simp only [if_true]
  exact of_loop lev c hl hc s0 s1 s2 s3 s4 s5 l _ 0 rfl (Nat.zero_le _)
/-! points. -/
def ptv (l : List Int) : List Int := (l.take 14).map wrap64
theorem points_loop (l : List Int) (s0 s1 : ByteArray) (s2 s3 s4 s5 : Int) : ∀ (d i : Nat), min l.length 14 - i = d → i ≤ min l.length 14 →
    Ev (fun k => sleuthlaw45_points.l0 k l (i : Int) s0 s1 s2 s3 s4 s5 ((ptv l).take i)) (s0, s1, s2, s3, s4, s5, ptv l) := by
  have hpl : (ptv l).length = min l.length 14 := by unfold ptv; rw [List.length_map, List.length_take]; omega
  intro d
  induction d with
  | zero =>
    intro i hd hi
    refine Ev.step (f := fun _ => some _) (fun k => ?_) (Ev.now _)
    simp only [sleuthlaw45_points.l0]
    rw [List.take_of_length_le (by omega)]
    by_cases h : (i : Int) < (l.length : Int)
    · rw [if_pos h, if_neg (by omega)]
    · rw [if_neg h]
  | succ d ih =>
    intro i hd hi
    have h1 := ih (i + 1) (by omega) (by omega)
    have e : (ptv l).take (i + 1) = (ptv l).take i ++ [wrap64 (l.getD i 0)] := by
      rw [List.take_succ_eq_append_getElem (by omega)]
      congr 1
      simp only [ptv, List.getElem_map, List.getElem_take]
      rw [List.getD_eq_getElem?_getD, List.getElem?_eq_getElem (by omega)]
      rfl
    rw [e] at h1
    refine Ev.step (fun k => ?_) h1
    have hw : wrap64 ((i : Int) + 1) = ((i + 1 : Nat) : Int) := by rw [w64 (by omega) (by omega)]; omega
    simp only [sleuthlaw45_points.l0]
    rw [hw, if_pos (by omega), if_pos (by omega), if_pos (by omega), if_pos (by rw [List.length_take]; omega)]
    rfl
def api : ByteArray := ⟨#[97, 112, 105]⟩
theorem points_ev (a0 : Int) (l : List Int) : Ev (fun k => sleuthlaw45_points.f k a0 l) (api, ⟨#[]⟩, 1, 0, 0, wrap64 a0, ptv l) := by
  have h := points_loop l api ⟨#[]⟩ 1 0 0 (wrap64 a0) _ 0 rfl (Nat.zero_le _)
  exact h
theorem name_api : Ev (fun k => attribute_IsName.f k api) true := Ev.of (fun k => attribute_IsName.mono api k) (show attribute_IsName.f 20 api = some true by kernel_rfl)
/-- series.Check of such points. -/
theorem series_points (a0 : Int) (l : List Int) (h0 : 0 ≤ a0) (h1 : a0 ≤ 255) (hl : l.length ≤ 14) (hx : ∀ x ∈ l, 0 ≤ x ∧ x ≤ 255) : Ev (fun k => series_Check.f k api ⟨#[]⟩ 1 0 0 a0 l) 0 := by
  have hb : l.any HandC.bad = false := by
    rw [List.any_eq_false]
    intro x hm
    have := hx x hm
    unfold HandC.bad
    simp
    omega
  unfold series_Check.f
  refine Ev.bind name_api ?_
  simp only [if_true]
  refine Ev.congr (fun k => if_pos (show (⟨#[]⟩ : ByteArray).toList = [] by unfold ByteArray.toList ByteArray.toList.loop; rfl)) ?_
  refine Ev.step (f := fun k => series_Check.j1 k false api ⟨#[]⟩ 1 0 0 a0 l) (fun k => by simp only [series_Check.j0]; rfl) ?_
  refine Ev.step (f := fun k => series_Check.j2 k false api ⟨#[]⟩ 1 0 0 a0 l) (fun k => by simp only [series_Check.j1]; rfl) ?_
  refine Ev.step (f := fun k => series_Check.j3 k false api ⟨#[]⟩ 1 0 0 a0 l) (fun k => by
    simp only [series_Check.j2]
    rw [if_neg (by decide), if_neg (by omega), show decide (a0 > 1048576) = false from decide_eq_false (by omega)]) ?_
  refine Ev.step (f := fun _ => some 0) (fun k => ?_) (Ev.now _)
  simp only [series_Check.j3]
  rw [if_neg (by decide), if_neg (by omega), if_neg (by rw [w64 (by omega) (by omega)]; omega)]
  unfold slices_ContainsFunc_int_int.f
  rw [hb]
  rfl
/-! The example. -/
theorem med_sorted (l : List Int) (h : l.Pairwise (· ≤ ·)) : med l = l.getD ((l.length - 1) / 2) 0 := by
  unfold med
  rw [List.mergeSort_of_pairwise (h.imp (fun h => by simpa using h))]
theorem k_best : segmentation_Best.f 60 [5, 5, 6, 20, 21] 4 = some ([3], 6, 0) := by kernel_rfl
theorem k_test : changepoint_Test.f [1, 2] [5, 6] = some (2, 6, 0) := by kernel_rfl
theorem k_match : changepoint_Match.f [⟨10, 0, 1⟩, ⟨20, 0, 1⟩] [⟨12, 0, 1⟩, ⟨19, 0, 1⟩] 1 = some ([⟨1, 1⟩], 0) := by kernel_rfl
theorem k_of : Ev (fun k => changepoint_Of.f k api ⟨#[]⟩ 1 0 0 100 [5, 5, 6, 20, 21] 4) ([⟨103, 5, 20⟩], 0) := by
  have hc : chk [5, 5, 6, 20, 21] 4 = 0 := by decide
  have hb := Ev.of (fun k => segmentation_Best.mono [5, 5, 6, 20, 21] 4 k) k_best
  have hv := levels_ev [5, 5, 6, 20, 21] [3] 4 hc (by decide)
  rw [if_pos (by decide), show prt [5, 5, 6, 20, 21] 0 [3] = [[5, 5, 6], [20, 21]] from rfl] at hv
  simp only [List.map_cons, List.map_nil] at hv
  rw [med_sorted [5, 5, 6] (by decide), med_sorted [20, 21] (by decide)] at hv
  have hs := series_points 100 [5, 5, 6, 20, 21] (by decide) (by decide) (by decide) (by decide)
  have h := of_ok hs hc hb hv rfl (by decide)
  exact (show (mkCh 100 [3] [[5, 5, 6].getD ((([5, 5, 6] : List Int).length - 1) / 2) 0, [20, 21].getD ((([20, 21] : List Int).length - 1) / 2) 0]) = [⟨103, 5, 20⟩] by kernel_rfl) ▸ h
theorem k_j0 : sleuthlaw45_known.j0 4 [⟨103, 5, 20⟩] 0 2 6 0 [⟨1, 1⟩] 0 = some true := by kernel_rfl
theorem known_ev : Ev (fun k => sleuthlaw45_known.f k) true := by
  have hp : Ev (fun k => sleuthlaw45_points.f k 100 [5, 5, 6, 20, 21]) (api, ⟨#[]⟩, 1, 0, 0, 100, [5, 5, 6, 20, 21]) := by
    have h := points_ev 100 [5, 5, 6, 20, 21]
    rw [show ptv [5, 5, 6, 20, 21] = [5, 5, 6, 20, 21] by kernel_rfl, show wrap64 100 = 100 by kernel_rfl] at h
    exact h
  unfold sleuthlaw45_known.f
  refine Ev.bind hp ?_
  refine Ev.bind k_of ?_
  rw [k_test, k_match]
  simp only [Option.bind_some]
  exact Ev.of (fun k => sleuthlaw45_known.mono_l k _ _ _ _ _ _ _) k_j0
end Go.Proofs.Ytcjgmofgfblmnaa.Seg
