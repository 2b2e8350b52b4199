/- Plain mathematics of segmentation; the known example of law45. -/
import Derived.Test.YtcjgmofgfblmnaaQgBase
import Derived.Test.YtcjgmofgfblmnaaQgCosts
import Derived.Test.YtcjgmofgfblmnaaQgSolve
import Derived.Test.YtcjgmofgfblmnaaQgBest
import Derived.Test.YtcjgmofgfblmnaaQgKnown
namespace Go.Proofs.Ytcjgmofgfblmnaa.Seg
set_option linter.unusedVariables false
set_option linter.unusedSimpArgs false
set_option linter.unusedSimpArgs false
/-- The sum of a list. -/
def sm : List Int → Int
  | [] => 0
  | x :: l => x + sm l
theorem sm_append (a b : List Int) : sm (a ++ b) = sm a + sm b := by
  induction a with
  | nil => simp [sm]
  | cons x a ih => simp only [List.cons_append, sm, ih]; omega
theorem sm_perm {a b : List Int} (h : a.Perm b) : sm a = sm b := by
  induction h with
  | nil => rfl
  | cons x _ ih => simp only [sm, ih]
  | swap x y l => simp only [sm]; omega
  | trans _ _ h1 h2 => exact h1.trans h2
/-- The sum of the deviations from m. -/
def dev : List Int → Int → Int
  | [], _ => 0
  | x :: l, m => max (x - m) (m - x) + dev l m
def le (m : Int) (l : List Int) : Nat := (l.filter fun x => decide (x ≤ m)).length
def lt (m : Int) (l : List Int) : Nat := (l.filter fun x => decide (x < m)).length
theorem dev_append (a b : List Int) (m : Int) : dev (a ++ b) m = dev a m + dev b m := by
  induction a with
  | nil => simp [dev]
  | cons x a ih => simp only [List.cons_append, dev, ih]; omega
theorem dev_perm {a b : List Int} (h : a.Perm b) (m : Int) : dev a m = dev b m := by
  induction h with
  | nil => rfl
  | cons x _ ih => simp only [dev, ih]
  | swap x y l => simp only [dev]; omega
  | trans _ _ h1 h2 => exact h1.trans h2
theorem dev_nonneg (l : List Int) (m : Int) : 0 ≤ dev l m := by
  induction l with
  | nil => simp [dev]
  | cons x l ih => simp only [dev]; omega
theorem le_cons (m x : Int) (l : List Int) : le m (x :: l) = (if x ≤ m then 1 else 0) + le m l := by
  unfold le
  by_cases h : x ≤ m <;> simp [List.filter_cons, h] <;> omega
theorem lt_cons (m x : Int) (l : List Int) : lt m (x :: l) = (if x < m then 1 else 0) + lt m l := by
  unfold lt
  by_cases h : x < m <;> simp [List.filter_cons, h] <;> omega
theorem le_perm {a b : List Int} (h : a.Perm b) (m : Int) : le m a = le m b := (h.filter _).length_eq
theorem lt_perm {a b : List Int} (h : a.Perm b) (m : Int) : lt m a = lt m b := (h.filter _).length_eq
theorem le_append (m : Int) (a b : List Int) : le m (a ++ b) = le m a + le m b := by simp [le]
theorem lt_append (m : Int) (a b : List Int) : lt m (a ++ b) = lt m a + lt m b := by simp [lt]
theorem le_le (m : Int) (l : List Int) : le m l ≤ l.length := List.length_filter_le _ _
theorem lt_le (m : Int) (l : List Int) : lt m l ≤ le m l := by
  induction l with
  | nil => simp [lt, le]
  | cons x l ih => rw [lt_cons, le_cons]; split <;> split <;> omega
theorem le_le_lt (l : List Int) {y m : Int} (h : y < m) : le y l ≤ lt m l := by
  induction l with
  | nil => simp [le]
  | cons x l ih => rw [lt_cons, le_cons]; split <;> split <;> omega
/-- m is a median of l. -/
def IsMed (l : List Int) (m : Int) : Prop := l.length ≤ 2 * le m l ∧ 2 * lt m l ≤ l.length
theorem dev_up (l : List Int) (m x : Int) (h : m ≤ x) : dev l m + (x - m) * (2 * (le m l : Int) - l.length) ≤ dev l x := by
  induction l with
  | nil => simp [dev, le]
  | cons y l ih =>
    rw [le_cons]
    simp only [dev, List.length_cons]
    have e : (x - m) * (2 * (((if y ≤ m then 1 else 0) + le m l : Nat) : Int) - ((l.length + 1 : Nat) : Int)) = (x - m) * (2 * (le m l : Int) - l.length) + (x - m) * (2 * ((if y ≤ m then 1 else 0 : Nat) : Int) - 1) := by
      rw [← Int.mul_add]; congr 1; push_cast; omega
    rw [e]
    split <;> simp <;> omega
theorem dev_down (l : List Int) (m x : Int) (h : x ≤ m) : dev l m + (m - x) * ((l.length : Int) - 2 * (lt m l : Int)) ≤ dev l x := by
  induction l with
  | nil => simp [dev, lt]
  | cons y l ih =>
    rw [lt_cons]
    simp only [dev, List.length_cons]
    have e : (m - x) * (((l.length + 1 : Nat) : Int) - 2 * (((if y < m then 1 else 0) + lt m l : Nat) : Int)) = (m - x) * ((l.length : Int) - 2 * (lt m l : Int)) + (m - x) * (1 - 2 * ((if y < m then 1 else 0 : Nat) : Int)) := by
      rw [← Int.mul_add]; congr 1; push_cast; omega
    rw [e]
    split <;> simp <;> omega
theorem IsMed.min {l : List Int} {m : Int} (h : IsMed l m) (x : Int) : dev l m ≤ dev l x := by
  rcases Int.le_total m x with hx | hx
  · have := dev_up l m x hx
    have h2 : 0 ≤ (x - m) * (2 * (le m l : Int) - l.length) := Int.mul_nonneg (by omega) (by have := h.1; omega)
    omega
  · have := dev_down l m x hx
    have h2 : 0 ≤ (m - x) * ((l.length : Int) - 2 * (lt m l : Int)) := Int.mul_nonneg (by omega) (by have := h.2; omega)
    omega
theorem IsMed.dev_eq {l : List Int} {m m' : Int} (h : IsMed l m) (h' : IsMed l m') : dev l m = dev l m' := Int.le_antisymm (h.min m') (h'.min m)
theorem IsMed.perm {a b : List Int} {m : Int} (h : IsMed a m) (p : a.Perm b) : IsMed b m := by
  unfold IsMed
  rw [← le_perm p, ← lt_perm p, ← p.length_eq]
  exact h
/-- The lower median. -/
def med (l : List Int) : Int := (l.mergeSort fun x y => decide (x ≤ y)).getD ((l.length - 1) / 2) 0
/-- The cost of a segment. -/
def cst (l : List Int) : Int := dev l (med l)
theorem sorted_sort (l : List Int) : (l.mergeSort fun x y => decide (x ≤ y)).Pairwise (· ≤ ·) := by
  have := List.pairwise_mergeSort (le := fun x y : Int => decide (x ≤ y)) (fun a b c h1 h2 => by simp at *; omega) (fun a b => by simp; omega) l
  simpa using this
theorem le_take (s : List Int) (hs : s.Pairwise (· ≤ ·)) (i : Nat) (hi : i < s.length) : i + 1 ≤ le (s.getD i 0) s := by
  induction s generalizing i with
  | nil => simp at hi
  | cons x s ih =>
    rw [List.pairwise_cons] at hs
    cases i with
    | zero => simp [le_cons]
    | succ i =>
      have hi' : i < s.length := by simpa using hi
      have := ih hs.2 i hi'
      simp only [List.getD_cons_succ]
      rw [le_cons, if_pos]
      · omega
      · have e : s.getD i 0 = s[i] := by simp [List.getD, hi']
        rw [e]
        exact hs.1 _ (List.getElem_mem hi')
theorem lt_take (s : List Int) (hs : s.Pairwise (· ≤ ·)) (i : Nat) (hi : i < s.length) (y : Int) (hy : y ≤ s.getD i 0) : lt y s ≤ i := by
  induction s generalizing i with
  | nil => simp [lt]
  | cons x s ih =>
    rw [List.pairwise_cons] at hs
    cases i with
    | zero =>
      have h0 : ∀ z ∈ x :: s, ¬ z < y := by
        intro z hz
        simp at hy
        rcases List.mem_cons.1 hz with rfl | hz
        · omega
        · have := hs.1 z hz; omega
      have : (x :: s).filter (fun z => decide (z < y)) = [] := List.filter_eq_nil_iff.2 (by simpa using h0)
      unfold lt
      rw [this]
      simp
    | succ i =>
      rw [lt_cons]
      have := ih hs.2 i (by simpa using hi) (by simpa using hy)
      split <;> omega
theorem med_isMed (l : List Int) (h : l ≠ []) : IsMed l (med l) := by
  have hp : (l.mergeSort fun x y => decide (x ≤ y)).Perm l := List.mergeSort_perm _ _
  have hl : 0 < l.length := List.length_pos_iff.2 h
  refine IsMed.perm ?_ hp
  have hs := sorted_sort l
  have hlen := hp.length_eq
  constructor
  · have := le_take _ hs ((l.length - 1) / 2) (by rw [hlen]; omega)
    unfold med
    rw [hlen]; omega
  · have := lt_take _ hs ((l.length - 1) / 2) (by rw [hlen]; omega) (med l) (Int.le_refl _)
    rw [hlen]; omega
theorem med_mem (l : List Int) (h : l ≠ []) : med l ∈ l := by
  have hp : (l.mergeSort fun x y => decide (x ≤ y)).Perm l := List.mergeSort_perm _ _
  have hl : 0 < l.length := List.length_pos_iff.2 h
  have hi : (l.length - 1) / 2 < (l.mergeSort fun x y => decide (x ≤ y)).length := by rw [hp.length_eq]; omega
  have e : med l = (l.mergeSort fun x y => decide (x ≤ y))[(l.length - 1) / 2] := by
    unfold med
    rw [List.getD_eq_getElem?_getD, List.getElem?_eq_getElem hi]
    rfl
  rw [e]
  exact hp.mem_iff.1 (List.getElem_mem hi)
/-- The lower median is the least element that half of the points do not exceed. -/
theorem med_least (l : List Int) (y : Int) (hy : l.length ≤ 2 * le y l) (h : l ≠ []) : med l ≤ y := by
  have hp : (l.mergeSort fun x y => decide (x ≤ y)).Perm l := List.mergeSort_perm _ _
  have hl : 0 < l.length := List.length_pos_iff.2 h
  rcases Int.lt_or_le y (med l) with h1 | h1
  · exfalso
    have := lt_take _ (sorted_sort l) ((l.length - 1) / 2) (by rw [hp.length_eq]; omega) (med l) (Int.le_refl _)
    rw [lt_perm hp] at this
    have h2 : le y l ≤ lt (med l) l := le_le_lt l h1
    omega
  · exact h1
theorem cst_nonneg (l : List Int) : 0 ≤ cst l := dev_nonneg _ _
theorem cst_min (l : List Int) (x : Int) : cst l ≤ dev l x := by
  by_cases h : l = []
  · subst h; simp [cst, dev]
  · exact (med_isMed l h).min x
theorem cst_of_isMed {l : List Int} {m : Int} (h : IsMed l m) (hl : l ≠ []) : dev l m = cst l := h.dev_eq (med_isMed l hl)
theorem cst_perm {a b : List Int} (p : a.Perm b) : cst a = cst b := by
  by_cases h : a = []
  · subst h; rw [List.nil_perm.1 p]
  · have hb : b ≠ [] := fun e => h (by subst e; exact List.perm_nil.1 p)
    rw [← cst_of_isMed ((med_isMed a h).perm p) hb, ← dev_perm p]
    rfl
/-- A part costs no less than its pieces. -/
theorem cst_append (a b : List Int) : cst a + cst b ≤ cst (a ++ b) := by
  have h1 := cst_min a (med (a ++ b))
  have h2 := cst_min b (med (a ++ b))
  unfold cst at *
  rw [dev_append]
  omega
end Go.Proofs.Ytcjgmofgfblmnaa.Seg
namespace Go.Proofs.Ytcjgmofgfblmnaa.Seg
open Go.RowKit Go.Proofs.YtcjgmofgfblmnaaW.PrintWords Go.Proofs.YtcjgmofgfblmnaaW.PrintLast Go.Proofs.YtcjgmofgfblmnaaW.PrintMore Go.Proofs.Ytcjgmofgfblmnaa.Q
set_option linter.unusedVariables false
set_option linter.unusedSimpArgs false
set_option linter.unusedSimpArgs false
theorem w64 {x : Int} (h1 : -9223372036854775808 ≤ x) (h2 : x ≤ 9223372036854775807) : wrap64 x = x := by unfold wrap64; omega
theorem rdn (xs : List Int) (i : Nat) : rd xs (i : Int) = xs.getD i 0 := rfl
theorem getD_mem {xs : List Int} {i : Nat} (h : i < xs.length) : xs.getD i 0 ∈ xs := by
  rw [List.getD_eq_getElem?_getD, List.getElem?_eq_getElem h]; exact List.getElem_mem h
theorem u64mid (i j : Nat) (h : i + j < 4611686018427387904) : wrap64 ((IntKind.u64.wrap (wrap64 ((i : Int) + (j : Int)))) / 2) = (((i + j) / 2 : Nat) : Int) := by
  have e1 : wrap64 ((i : Int) + (j : Int)) = (i : Int) + j := w64 (by omega) (by omega)
  have : IntKind.u64.wrap ((i : Int) + (j : Int)) = (i : Int) + j := by
    simp [IntKind.wrap, IntKind.bits, IntKind.signed]
    omega
  rw [e1, this, w64 (by omega) (by omega)]
  omega
theorem bs_loop (xs : List Int) (x : Int) (hs : xs.Pairwise (· ≤ ·)) (hn : xs.length ≤ 1099511627776) : ∀ (d i j : Nat), j - i = d → i ≤ j → j ≤ xs.length →
    (∀ q, q < i → xs.getD q 0 < x) → (∀ q, j ≤ q → q < xs.length → x ≤ xs.getD q 0) →
    ∃ (p : Nat) (b : Bool), Ev (fun k => slices_BinarySearch_int_int.l0 k xs x (xs.length : Int) i j) ((p : Int), b) ∧ p ≤ xs.length ∧ (∀ q, q < p → xs.getD q 0 < x) ∧ (∀ q, p ≤ q → q < xs.length → x ≤ xs.getD q 0) := by
  intro d
  induction d using Nat.strongRecOn with
  | _ d ih =>
  intro i j hd hij hj hlo hhi
  by_cases h : i < j
  · have hm := u64mid i j (by omega)
    generalize hmd : (i + j) / 2 = m at hm
    have hmi : i ≤ m := by omega
    have hmj : m < j := by omega
    have hsort : ∀ a b : Nat, a ≤ b → b < xs.length → xs.getD a 0 ≤ xs.getD b 0 := by
      intro a b hab hb
      rcases Nat.eq_or_lt_of_le hab with rfl | hlt
      · exact Int.le_refl _
      · rw [List.getD_eq_getElem?_getD, List.getD_eq_getElem?_getD, List.getElem?_eq_getElem (by omega), List.getElem?_eq_getElem hb]
        exact List.pairwise_iff_getElem.1 hs a b (by omega) hb hlt
    by_cases hlt : xs.getD m 0 < x
    · obtain ⟨p, b, hev, hp⟩ := ih (j - (m + 1)) (by omega) (m + 1) j rfl (by omega) hj (fun q hq => by
        have := hsort q m (by omega) (by omega); omega) hhi
      refine ⟨p, b, Ev.step (fun k => ?_) hev, hp⟩
      simp only [slices_BinarySearch_int_int.l0]
      rw [if_pos (by omega), hm, if_pos (by omega), if_pos (by omega)]
      simp only [cmp_Less_int.f, cmp_isNaN_int.f, Option.bind_some, rdn, bne_self_eq_false, Bool.false_eq_true, if_false, hlt, decide_true, if_true]
      rw [w64 (by omega) (by omega)]
      rfl
    · obtain ⟨p, b, hev, hp⟩ := ih (m - i) (by omega) i m rfl hmi (by omega) hlo (fun q hq hq2 => by
        have := hsort m q hq hq2; omega)
      refine ⟨p, b, Ev.step (fun k => ?_) hev, hp⟩
      simp only [slices_BinarySearch_int_int.l0]
      rw [if_pos (by omega), hm, if_pos (by omega), if_pos (by omega)]
      simp only [cmp_Less_int.f, cmp_isNaN_int.f, Option.bind_some, rdn, bne_self_eq_false, Bool.false_eq_true, if_false, hlt, decide_false]
  · have e : i = j := by omega
    subst e
    by_cases h2 : i < xs.length
    · by_cases h3 : xs.getD i 0 = x
      · refine ⟨i, true, Ev.step (f := fun _ => some ((i : Int), true)) (fun k => ?_) (Ev.now _), by omega, hlo, hhi⟩
        simp only [slices_BinarySearch_int_int.l0]
        rw [if_neg (by omega), if_pos (by omega), if_pos (by omega), if_pos (by omega), rdn, if_pos h3]
      · refine ⟨i, false, Ev.step (f := fun _ => some ((i : Int), false)) (fun k => ?_) (Ev.now _), by omega, hlo, hhi⟩
        simp only [slices_BinarySearch_int_int.l0]
        rw [if_neg (by omega), if_pos (by omega), if_pos (by omega), if_pos (by omega), rdn, if_neg h3]
        simp [slices_isNaN_int.f]
    · refine ⟨i, false, Ev.step (f := fun _ => some ((i : Int), false)) (fun k => ?_) (Ev.now _), by omega, hlo, hhi⟩
      simp only [slices_BinarySearch_int_int.l0]
      rw [if_neg (by omega), if_neg (by omega)]
theorem bs_ev (xs : List Int) (x : Int) (hs : xs.Pairwise (· ≤ ·)) (hn : xs.length ≤ 1099511627776) :
    ∃ (p : Nat) (b : Bool), Ev (fun k => slices_BinarySearch_int_int.f k xs x) ((p : Int), b) ∧ p ≤ xs.length ∧ (∀ q, q < p → xs.getD q 0 < x) ∧ (∀ q, p ≤ q → q < xs.length → x ≤ xs.getD q 0) := by
  have := bs_loop xs x hs hn (xs.length - 0) 0 xs.length rfl (Nat.zero_le _) (Nat.le_refl _) (fun q hq => by omega) (fun q h1 h2 => by omega)
  exact this
/-- An element put where the search says: the order stays. -/
theorem insert_sorted (xs : List Int) (x : Int) (hs : xs.Pairwise (· ≤ ·)) (p : Nat) (hp : p ≤ xs.length) (h1 : ∀ q, q < p → xs.getD q 0 < x) (h2 : ∀ q, p ≤ q → q < xs.length → x ≤ xs.getD q 0) :
    (xs.take p ++ [x] ++ xs.drop p).Pairwise (· ≤ ·) := by
  rw [List.append_assoc, List.pairwise_append, List.pairwise_append]
  have ht : ∀ a ∈ xs.take p, a < x := by
    intro a ha
    obtain ⟨q, hq, rfl⟩ := List.mem_iff_getElem.1 ha
    have hq' : q < p ∧ q < xs.length := by rw [List.length_take] at hq; omega
    have := h1 q hq'.1
    rw [List.getD_eq_getElem?_getD, List.getElem?_eq_getElem hq'.2] at this
    simpa using this
  have hd : ∀ b ∈ xs.drop p, x ≤ b := by
    intro b hb
    obtain ⟨q, hq, rfl⟩ := List.mem_iff_getElem.1 hb
    have hq' : p + q < xs.length := by have : q < xs.length - p := by simpa using hq
                                       omega
    have := h2 (p + q) (by omega) hq'
    rw [List.getD_eq_getElem?_getD, List.getElem?_eq_getElem hq'] at this
    simpa using this
  refine ⟨hs.sublist (List.take_sublist _ _), ⟨List.pairwise_singleton _ _, hs.sublist (List.drop_sublist _ _), ?_⟩, ?_⟩
  · intro a ha b hb
    rw [List.mem_singleton.1 ha]
    exact hd b hb
  · intro a ha b hb
    rcases List.mem_append.1 hb with hb | hb
    · rw [List.mem_singleton.1 hb]; exact Int.le_of_lt (ht a ha)
    · exact Int.le_of_lt (Int.lt_of_lt_of_le (ht a ha) (hd b hb))
theorem insert_perm (xs : List Int) (x : Int) (p : Nat) : (xs.take p ++ [x] ++ xs.drop p).Perm (x :: xs) := by
  have e : xs.take p ++ [x] ++ xs.drop p = xs.take p ++ x :: xs.drop p := by simp
  rw [e]
  refine List.perm_middle.trans ?_
  rw [List.take_append_drop]
theorem insert_eq (xs : List Int) (x : Int) (p : Nat) (hp : p ≤ xs.length) (hn : xs.length ≤ 1099511627776) : slices_Insert_int_int.f xs (p : Int) [x] = some (xs.take p ++ [x] ++ xs.drop p) := by
  unfold slices_Insert_int_int.f
  rw [if_pos ⟨by omega, by omega, by simp, by simp; omega⟩]
  rfl
/-- Points that may be segmented. -/
def Pts (l : List Int) : Prop := l.length ≤ 1024 ∧ ∀ x ∈ l, -1099511627776 ≤ x ∧ x ≤ 1099511627776
theorem sm_bd (l : List Int) (h : ∀ x ∈ l, -1099511627776 ≤ x ∧ x ≤ 1099511627776) : -1099511627776 * (l.length : Int) ≤ sm l ∧ sm l ≤ 1099511627776 * (l.length : Int) := by
  induction l with
  | nil => simp [sm]
  | cons x l ih =>
    have h1 := h x List.mem_cons_self
    have h2 := ih (fun y hy => h y (List.mem_cons_of_mem _ hy))
    simp only [sm, List.length_cons]
    push_cast
    omega
/-- The two halves of a part. -/
structure Half (part low high : List Int) : Prop where
  perm : (low ++ high).Perm part
  sl : low.Pairwise (· ≤ ·)
  sh : high.Pairwise (· ≤ ·)
  ord : ∀ a ∈ low, ∀ b ∈ high, a ≤ b
theorem dev_low (l : List Int) (m : Int) (h : ∀ a ∈ l, a ≤ m) : dev l m = m * (l.length : Int) - sm l := by
  induction l with
  | nil => simp [dev, sm]
  | cons x l ih =>
    have h1 := h x List.mem_cons_self
    simp only [dev, sm, List.length_cons, ih (fun a ha => h a (List.mem_cons_of_mem _ ha))]
    push_cast
    rw [Int.mul_add]
    omega
theorem dev_high (l : List Int) (m : Int) (h : ∀ a ∈ l, m ≤ a) : dev l m = sm l - m * (l.length : Int) := by
  induction l with
  | nil => simp [dev, sm]
  | cons x l ih =>
    have h1 := h x List.mem_cons_self
    simp only [dev, sm, List.length_cons, ih (fun a ha => h a (List.mem_cons_of_mem _ ha))]
    push_cast
    rw [Int.mul_add]
    omega
theorem le_all (l : List Int) (m : Int) (h : ∀ a ∈ l, a ≤ m) : le m l = l.length := by
  unfold le
  rw [List.filter_eq_self.2 (by simpa using h)]
theorem lt_none (l : List Int) (m : Int) (h : ∀ a ∈ l, m ≤ a) : lt m l = 0 := by
  unfold lt
  rw [List.filter_eq_nil_iff.2 (by intro a ha; have := h a ha; simp; omega)]
  rfl
theorem last_max (l : List Int) (hs : l.Pairwise (· ≤ ·)) : ∀ a ∈ l, a ≤ l.getD (l.length - 1) 0 := by
  intro a ha
  obtain ⟨q, hq, rfl⟩ := List.mem_iff_getElem.1 ha
  rw [List.getD_eq_getElem?_getD, List.getElem?_eq_getElem (by omega)]
  rcases Nat.eq_or_lt_of_le (show q ≤ l.length - 1 by omega) with e | e
  · simp [e]
  · exact List.pairwise_iff_getElem.1 hs q (l.length - 1) hq (by omega) e
theorem Half.cost {part low high : List Int} (h : Half part low high) (h1 : high.length ≤ low.length) (h2 : low.length ≤ high.length + 1) (h0 : low ≠ []) :
    (low.getD (low.length - 1) 0) * (low.length : Int) - sm low + sm high - (low.getD (low.length - 1) 0) * (high.length : Int) = cst part := by
  have hl : 0 < low.length := List.length_pos_iff.2 h0
  have hm := last_max low h.sl
  have hmem : low.getD (low.length - 1) 0 ∈ low := getD_mem (by omega)
  generalize low.getD (low.length - 1) 0 = m at hm hmem ⊢
  have hh : ∀ a ∈ high, m ≤ a := fun a ha => h.ord m hmem a ha
  have hmed : IsMed (low ++ high) m := by
    constructor
    · rw [le_append, le_all low m hm]; simp; omega
    · rw [lt_append, lt_none high m hh]
      have : lt m low + 1 ≤ low.length := by
        have h3 : lt m low < low.length := by
          unfold lt
          rcases Nat.lt_or_ge (low.filter fun x => decide (x < m)).length low.length with h4 | h4
          · exact h4
          · have h5 := List.Sublist.eq_of_length_le List.filter_sublist h4
            have h6 : m ∈ low.filter fun x => decide (x < m) := by rw [h5]; exact hmem
            simp at h6
        omega
      simp
      omega
  have hne : low ++ high ≠ [] := by simp [h0]
  have e := cst_of_isMed hmed hne
  rw [cst_perm h.perm, dev_append, dev_low low m hm, dev_high high m hh] at e
  omega
theorem Half.insLow {part low high : List Int} {x : Int} (h : Half part low high) (p : Nat) (hp : p ≤ low.length) (h1 : ∀ q, q < p → low.getD q 0 < x) (h2 : ∀ q, p ≤ q → q < low.length → x ≤ low.getD q 0)
    (hx : ∀ b ∈ high, x ≤ b) : Half (x :: part) (low.take p ++ [x] ++ low.drop p) high := by
  refine ⟨((insert_perm low x p).append_right high).trans (List.Perm.cons x h.perm), insert_sorted low x h.sl p hp h1 h2, h.sh, fun a ha b hb => ?_⟩
  rcases List.mem_cons.1 ((insert_perm low x p).mem_iff.1 ha) with rfl | ha
  · exact hx b hb
  · exact h.ord a ha b hb
theorem Half.insHigh {part low high : List Int} {x : Int} (h : Half part low high) (p : Nat) (hp : p ≤ high.length) (h1 : ∀ q, q < p → high.getD q 0 < x) (h2 : ∀ q, p ≤ q → q < high.length → x ≤ high.getD q 0)
    (hx : ∀ a ∈ low, a ≤ x) : Half (x :: part) low (high.take p ++ [x] ++ high.drop p) := by
  refine ⟨((insert_perm high x p).append_left low).trans (List.perm_middle.trans (List.Perm.cons x h.perm)), h.sl, insert_sorted high x h.sh p hp h1 h2, fun a ha b hb => ?_⟩
  rcases List.mem_cons.1 ((insert_perm high x p).mem_iff.1 hb) with rfl | hb
  · exact hx a ha
  · exact h.ord a ha b hb
theorem snoc_of (l : List Int) (h : l ≠ []) : l = l.take (l.length - 1) ++ [l.getD (l.length - 1) 0] := by
  have hl : 0 < l.length := List.length_pos_iff.2 h
  conv => lhs; rw [← List.take_append_drop (l.length - 1) l]
  rw [List.drop_eq_getElem_cons (by omega), List.drop_eq_nil_of_le (by omega), List.getD_eq_getElem?_getD, List.getElem?_eq_getElem (by omega)]
  rfl
theorem cons_of (l : List Int) (h : l ≠ []) : l = l.getD 0 0 :: l.drop 1 := by
  cases l with
  | nil => exact absurd rfl h
  | cons x l => rfl
theorem Half.down {part low high : List Int} (h : Half part low high) (h0 : low ≠ []) : Half part (low.take (low.length - 1)) (low.getD (low.length - 1) 0 :: high) := by
  have e := snoc_of low h0
  have hm := last_max low h.sl
  have hmem : low.getD (low.length - 1) 0 ∈ low := getD_mem (by have := List.length_pos_iff.2 h0; omega)
  generalize low.getD (low.length - 1) 0 = m at e hm hmem ⊢
  generalize hT : low.take (low.length - 1) = T at e ⊢
  have hT2 : ∀ a ∈ T, a ∈ low := fun a ha => by rw [e]; exact List.mem_append_left _ ha
  refine ⟨?_, ?_, ?_, ?_⟩
  · refine List.Perm.trans ?_ h.perm
    conv => rhs; rw [e]
    rw [List.append_assoc]
    exact List.Perm.refl _
  · rw [← hT]; exact h.sl.sublist (List.take_sublist _ _)
  · exact List.pairwise_cons.2 ⟨fun b hb => h.ord m hmem b hb, h.sh⟩
  · intro a ha b hb
    rcases List.mem_cons.1 hb with rfl | hb
    · exact hm a (hT2 a ha)
    · exact h.ord a (hT2 a ha) b hb
theorem Half.up {part low high : List Int} (h : Half part low high) (h0 : high ≠ []) : Half part (low ++ [high.getD 0 0]) (high.drop 1) := by
  have e := cons_of high h0
  have hmem : high.getD 0 0 ∈ high := getD_mem (List.length_pos_iff.2 h0)
  have hsh := h.sh
  rw [e] at hsh
  rw [List.pairwise_cons] at hsh
  generalize high.getD 0 0 = m at e hmem hsh ⊢
  generalize hT : high.drop 1 = T at e hsh ⊢
  have hT2 : ∀ a ∈ T, a ∈ high := fun a ha => by rw [e]; exact List.mem_cons_of_mem _ ha
  refine ⟨?_, ?_, hsh.2, ?_⟩
  · refine List.Perm.trans ?_ h.perm
    conv => rhs; rw [e]
    rw [List.append_assoc]
    exact List.Perm.refl _
  · exact List.pairwise_append.2 ⟨h.sl, List.pairwise_singleton _ _, fun a ha b hb => by rw [List.mem_singleton.1 hb]; exact h.ord a ha m hmem⟩
  · intro a ha b hb
    rcases List.mem_append.1 ha with ha | ha
    · exact h.ord a ha b (hT2 b hb)
    · rw [List.mem_singleton.1 ha]; exact hsh.1 b hb
end Go.Proofs.Ytcjgmofgfblmnaa.Seg
namespace Go.Proofs.Ytcjgmofgfblmnaa.Seg
open Go.RowKit Go.Proofs.YtcjgmofgfblmnaaW.PrintWords Go.Proofs.YtcjgmofgfblmnaaW.PrintLast Go.Proofs.YtcjgmofgfblmnaaW.PrintMore Go.Proofs.Ytcjgmofgfblmnaa.Q
set_option linter.unusedVariables false
set_option linter.unusedSimpArgs false
set_option linter.unusedSimpArgs false
theorem mul_bd (m : Int) (a : Nat) (h1 : -1099511627776 ≤ m) (h2 : m ≤ 1099511627776) (ha : a ≤ 4096) : -4503599627370496 ≤ m * (a : Int) ∧ m * (a : Int) ≤ 4503599627370496 := by
  have h3 : m * (a : Int) ≤ 1099511627776 * (a : Int) := Int.mul_le_mul_of_nonneg_right h2 (by omega)
  have h4 : (-1099511627776) * (a : Int) ≤ m * (a : Int) := Int.mul_le_mul_of_nonneg_right h1 (by omega)
  omega
theorem out_val (m : Int) (a b : Nat) (sl sh : Int) (h1 : -1099511627776 ≤ m) (h2 : m ≤ 1099511627776) (ha : a ≤ 4096) (hb : b ≤ 4096) (s1 : -4503599627370496 ≤ sl) (s2 : sl ≤ 4503599627370496) (s3 : -4503599627370496 ≤ sh) (s4 : sh ≤ 4503599627370496) :
    wrap64 ((wrap64 ((wrap64 ((wrap64 (m * (a : Int))) - sl)) + sh)) - (wrap64 (m * (b : Int)))) = m * (a : Int) - sl + sh - m * (b : Int) := by
  have ma := mul_bd m a h1 h2 ha
  have mb := mul_bd m b h1 h2 hb
  generalize m * (a : Int) = A at ma ⊢
  generalize m * (b : Int) = B at mb ⊢
  have e1 : wrap64 A = A := w64 (by omega) (by omega)
  have e2 : wrap64 B = B := w64 (by omega) (by omega)
  have e3 : wrap64 (A - sl) = A - sl := w64 (by omega) (by omega)
  have e4 : wrap64 (A - sl + sh) = A - sl + sh := w64 (by omega) (by omega)
  have e5 : wrap64 (A - sl + sh - B) = A - sl + sh - B := w64 (by omega) (by omega)
  rw [e1, e2, e3, e4, e5]
theorem bd_of {l : List Int} (h : ∀ x ∈ l, -1099511627776 ≤ x ∧ x ≤ 1099511627776) (hl : l.length ≤ 4096) : -4503599627370496 ≤ sm l ∧ sm l ≤ 4503599627370496 := by
  have := sm_bd l h
  omega
theorem wlen (n : Nat) (h : n ≤ 4611686018427387904) (h0 : 0 < n) : wrap64 ((n : Int) - 1) = ((n - 1 : Nat) : Int) := by
  rw [w64 (by omega) (by omega)]; omega
theorem wlen1 (n : Nat) (h : n ≤ 4611686018427387904) : wrap64 ((n : Int) + 1) = ((n + 1 : Nat) : Int) := by
  rw [w64 (by omega) (by omega)]; omega
theorem take_last (l : List Int) (h : l ≠ []) : (l.take (l.length - 1)).length = l.length - 1 := by rw [List.length_take]; omega
/-- The halves are brought into balance, and the cost is stored. -/
theorem j2_ev (pts part out : List Int) (s : Nat) (r : List Int) (hb : ∀ x ∈ part, -1099511627776 ≤ x ∧ x ≤ 1099511627776) (hl : part.length ≤ 1024) (hs : s < out.length) (hso : out.length ≤ 1024)
    (IH : ∀ low' high', Half part low' high' → high'.length ≤ low'.length → low'.length ≤ high'.length + 1 → low' ≠ [] → Ev (fun k => segmentation_costs.l0 k pts (out.set s (cst part)) low' high' (sm low') (sm high') ((s : Int) - 1)) r)
    (low high : List Int) (H : Half part low high) (h1 : low.length ≤ high.length + 2) (h2 : high.length ≤ low.length + 1) (h0 : low ≠ []) :
    Ev (fun k => segmentation_costs.j2 k pts out low high (sm low) (sm high) (s : Int)) r := by
  have hpl := H.perm.length_eq
  rw [List.length_append] at hpl
  have hlow : 0 < low.length := List.length_pos_iff.2 h0
  have hbl : ∀ x ∈ low, -1099511627776 ≤ x ∧ x ≤ 1099511627776 := fun x hx => hb x (H.perm.mem_iff.1 (List.mem_append_left _ hx))
  have hbh : ∀ x ∈ high, -1099511627776 ≤ x ∧ x ≤ 1099511627776 := fun x hx => hb x (H.perm.mem_iff.1 (List.mem_append_right _ hx))
  have bl := bd_of hbl (by omega)
  have bh := bd_of hbh (by omega)
  have ws : wrap64 ((s : Int) - 1) = (s : Int) - 1 := w64 (by omega) (by omega)
  have fin : ∀ low' high', Half part low' high' → high'.length ≤ low'.length → low'.length ≤ high'.length + 1 → low' ≠ [] →
      wrap64 ((wrap64 ((wrap64 ((wrap64 (low'.getD (low'.length - 1) 0 * (low'.length : Int))) - sm low')) + sm high')) - (wrap64 (low'.getD (low'.length - 1) 0 * (high'.length : Int)))) = cst part := by
    intro low' high' H' g1 g2 g0
    have hpl' := H'.perm.length_eq
    rw [List.length_append] at hpl'
    have hb1 : ∀ x ∈ low', -1099511627776 ≤ x ∧ x ≤ 1099511627776 := fun x hx => hb x (H'.perm.mem_iff.1 (List.mem_append_left _ hx))
    have hb2 : ∀ x ∈ high', -1099511627776 ≤ x ∧ x ≤ 1099511627776 := fun x hx => hb x (H'.perm.mem_iff.1 (List.mem_append_right _ hx))
    have c1 := bd_of hb1 (by omega)
    have c2 := bd_of hb2 (by omega)
    have hm := hb1 _ (getD_mem (xs := low') (i := low'.length - 1) (by have := List.length_pos_iff.2 g0; omega))
    rw [out_val _ _ _ _ _ hm.1 hm.2 (by omega) (by omega) c1.1 c1.2 c2.1 c2.2]
    exact H'.cost g1 g2 g0
  have hlast := hbl _ (getD_mem (xs := low) (i := low.length - 1) (by omega))
  by_cases hA : high.length + 1 < low.length
  · -- the lower half is too long
    have H' := H.down h0
    have htl := take_last low h0
    have hne : low.take (low.length - 1) ≠ [] := by intro e; rw [e] at htl; simp at htl; omega
    have hev := IH _ _ H' (by simp; omega) (by simp; omega) hne
    have hf := fin _ _ H' (by simp; omega) (by simp; omega) hne
    have esl : sm low = sm (low.take (low.length - 1)) + low.getD (low.length - 1) 0 := by
      conv => lhs; rw [snoc_of low h0]
      rw [sm_append]; simp [sm]
    have e1 : wrap64 (sm low - low.getD (low.length - 1) 0) = sm (low.take (low.length - 1)) := by rw [w64 (by omega) (by omega)]; omega
    have e2 : wrap64 (sm high + low.getD (low.length - 1) 0) = sm (low.getD (low.length - 1) 0 :: high) := by rw [w64 (by omega) (by omega)]; simp only [sm]; omega
    refine Ev.step (fun k => ?_) hev
    simp only [segmentation_costs.j2]
    rw [wlen1 _ (by omega), if_pos (by omega), wlen _ (by omega) hlow, if_pos (by omega), if_pos (by omega), if_pos (by omega)]
    simp only [Option.bind_some, Int.toNat_natCast, rdn]
    have ei : slices_Insert_int_int.f high 0 [low.getD (low.length - 1) 0] = some (low.getD (low.length - 1) 0 :: high) := by
      have := insert_eq high (low.getD (low.length - 1) 0) 0 (Nat.zero_le _) (by omega)
      simpa using this
    rw [ei]
    simp only [Option.bind_some]
    rw [wlen _ (by omega) (by omega), if_pos (by omega), if_pos (by omega), if_pos (by omega), if_pos (by omega)]
    simp only [rdn, Int.toNat_natCast]
    rw [e1, e2, hf, ws]
  · by_cases hB : low.length < high.length
    · -- the upper half is longer
      have hhn : high ≠ [] := by intro e; rw [e] at hB; simp at hB
      have hhl : 0 < high.length := List.length_pos_iff.2 hhn
      have H' := H.up hhn
      have hne : low ++ [high.getD 0 0] ≠ [] := by simp
      have hev := IH _ _ H' (by simp; omega) (by simp; omega) hne
      have hf := fin _ _ H' (by simp; omega) (by simp; omega) hne
      have hx := hbh _ (getD_mem (xs := high) (i := 0) hhl)
      have esh : sm high = high.getD 0 0 + sm (high.drop 1) := by
        conv => lhs; rw [cons_of high hhn]
        rfl
      have e1 : wrap64 (sm low + high.getD 0 0) = sm (low ++ [high.getD 0 0]) := by rw [w64 (by omega) (by omega), sm_append]; simp [sm]
      have e2 : wrap64 (sm high - high.getD 0 0) = sm (high.drop 1) := by rw [w64 (by omega) (by omega)]; omega
      refine Ev.step (fun k => ?_) hev
      simp only [segmentation_costs.j2]
      rw [wlen1 _ (by omega), if_neg (by omega), if_pos (by omega), if_pos (by omega)]
      have ed : slices_Delete_int_int.f high 0 1 = some (high.drop 1) := by
        unfold slices_Delete_int_int.f
        rw [if_pos ⟨by omega, by omega, by omega, hhl⟩]
        simp
      rw [ed]
      simp only [Option.bind_some]
      rw [if_pos (by omega)]
      have er : rd high 0 = high.getD 0 0 := rfl
      rw [er, wlen _ (by simp; omega) (by simp), if_pos (by omega), if_pos (by simp only [List.length_append, List.length_singleton]; omega), if_pos (by omega), if_pos (by omega)]
      simp only [rdn, Int.toNat_natCast]
      rw [e1, e2, hf, ws]
    · have hev := IH _ _ H (by omega) (by omega) h0
      have hf := fin _ _ H (by omega) (by omega) h0
      refine Ev.step (fun k => ?_) hev
      simp only [segmentation_costs.j2]
      rw [wlen1 _ (by omega), if_neg (by omega), if_neg (by omega), wlen _ (by omega) hlow, if_pos (by omega), if_pos (by omega), if_pos (by omega), if_pos (by omega)]
      simp only [rdn, Int.toNat_natCast]
      rw [hf, ws]
theorem costs_loop (pts : List Int) (hP : Pts pts) (t : Nat) (ht : t ≤ pts.length) : ∀ (s : Nat) (out low high : List Int), s ≤ t → out.length = t → Half ((pts.take t).drop s) low high → high.length ≤ low.length → low.length ≤ high.length + 1 →
    (∀ q, s ≤ q → q < t → out.getD q 0 = cst ((pts.take t).drop q)) →
    Ev (fun k => segmentation_costs.l0 k pts out low high (sm low) (sm high) ((s : Int) - 1)) ((List.range t).map fun q => cst ((pts.take t).drop q)) := by
  have hpl := hP.1
  intro s
  induction s with
  | zero =>
    intro out low high _ hlen H h1 h2 hout
    refine Ev.step (f := fun _ => some _) (fun k => ?_) (Ev.now _)
    simp only [segmentation_costs.l0]
    rw [if_neg (by omega)]
    congr 1
    apply List.ext_getElem?
    intro q
    rcases Nat.lt_or_ge q t with hq | hq
    · have := hout q (Nat.zero_le _) hq
      rw [List.getD_eq_getElem?_getD, List.getElem?_eq_getElem (by omega)] at this
      rw [List.getElem?_eq_getElem (by omega), List.getElem?_map, List.getElem?_range hq]
      simpa using this
    · rw [List.getElem?_eq_none (by omega), List.getElem?_eq_none (by simp; omega)]
  | succ s ih =>
    intro out low high hst hlen H h1 h2 hout
    have hsl : s < pts.length := by omega
    have epart : (pts.take t).drop s = pts.getD s 0 :: (pts.take t).drop (s + 1) := by
      rw [List.drop_eq_getElem_cons (by rw [List.length_take]; omega)]
      congr 1
      rw [List.getElem_take, List.getD_eq_getElem?_getD, List.getElem?_eq_getElem hsl]
      rfl
    have hbp : ∀ x ∈ (pts.take t).drop s, -1099511627776 ≤ x ∧ x ≤ 1099511627776 := fun x hx => hP.2 x (List.mem_of_mem_take (List.mem_of_mem_drop hx))
    have hlp : ((pts.take t).drop s).length ≤ 1024 := by rw [List.length_drop, List.length_take]; omega
    have hlen1 := H.perm.length_eq
    rw [List.length_append, List.length_drop, List.length_take] at hlen1
    -- behind the insertion
    have next := j2_ev pts ((pts.take t).drop s) out s ((List.range t).map fun q => cst ((pts.take t).drop q)) hbp hlp (by omega) (by omega) (fun low' high' H' g1 g2 _ => by
      refine ih (out.set s (cst ((pts.take t).drop s))) low' high' (by omega) (by simpa using hlen) H' g1 g2 (fun q hq hqt => ?_)
      rcases Nat.eq_or_lt_of_le hq with e | e
      · subst e
        rw [List.getD_eq_getElem?_getD, List.getElem?_set_self (by omega)]
        rfl
      · rw [List.getD_eq_getElem?_getD, List.getElem?_set_ne (by omega), ← List.getD_eq_getElem?_getD]
        exact hout q e hqt)
    rw [epart] at next
    have hx := hbp (pts.getD s 0) (by rw [epart]; exact List.mem_cons_self)
    have hbl : ∀ x ∈ low, -1099511627776 ≤ x ∧ x ≤ 1099511627776 := fun x hx => hP.2 x (List.mem_of_mem_take (List.mem_of_mem_drop (H.perm.mem_iff.1 (List.mem_append_left _ hx))))
    have hbh : ∀ x ∈ high, -1099511627776 ≤ x ∧ x ≤ 1099511627776 := fun x hx => hP.2 x (List.mem_of_mem_take (List.mem_of_mem_drop (H.perm.mem_iff.1 (List.mem_append_right _ hx))))
    have bl := bd_of hbl (by omega)
    have bh := bd_of hbh (by omega)
    have es : ((s + 1 : Nat) : Int) - 1 = (s : Int) := by omega
    rw [es]
    -- into the lower half
    have lowway : (∀ b ∈ high, pts.getD s 0 ≤ b) → Ev (fun k => segmentation_costs.j1 k pts out low high (sm low) (sm high) (s : Int) (pts.getD s 0) false) ((List.range t).map fun q => cst ((pts.take t).drop q)) := by
      intro hle
      obtain ⟨p, b, hev, hp, q1, q2⟩ := bs_ev low (pts.getD s 0) H.sl (by omega)
      have hn := next _ _ (H.insLow p hp q1 q2 hle) (by simp; omega) (by simp; omega) (by simp)
      refine Ev.step (fun k => ?_) (Ev.bind hev (f := fun k bt => (slices_Insert_int_int.f low bt.1 [pts.getD s 0]).bind fun t128 => segmentation_costs.j2 k pts out t128 high (wrap64 (sm low + pts.getD s 0)) (sm high) (s : Int)) ?_)
      · simp only [segmentation_costs.j1]; rw [if_neg (by simp)]
      · refine Ev.congr (fun k => ?_) hn
        simp only []
        rw [insert_eq low _ p hp (by omega)]
        simp only [Option.bind_some]
        rw [w64 (by omega) (by omega), sm_perm (insert_perm low (pts.getD s 0) p)]
        simp only [sm]
        rw [Int.add_comm]
    have highway : (∀ a ∈ low, a ≤ pts.getD s 0) → low ≠ [] → Ev (fun k => segmentation_costs.j1 k pts out low high (sm low) (sm high) (s : Int) (pts.getD s 0) true) ((List.range t).map fun q => cst ((pts.take t).drop q)) := by
      intro hle h0
      obtain ⟨p, b, hev, hp, q1, q2⟩ := bs_ev high (pts.getD s 0) H.sh (by omega)
      have hn := next _ _ (H.insHigh p hp q1 q2 hle) (by simp; omega) (by simp; omega) h0
      refine Ev.step (fun k => ?_) (Ev.bind hev (f := fun k bt => (slices_Insert_int_int.f high bt.1 [pts.getD s 0]).bind fun t120 => segmentation_costs.j2 k pts out low t120 (sm low) (wrap64 (sm high + pts.getD s 0)) (s : Int)) ?_)
      · simp only [segmentation_costs.j1]; rw [if_pos trivial]
      · refine Ev.congr (fun k => ?_) hn
        simp only []
        rw [insert_eq high _ p hp (by omega)]
        simp only [Option.bind_some]
        rw [w64 (by omega) (by omega), sm_perm (insert_perm high (pts.getD s 0) p)]
        simp only [sm]
        rw [Int.add_comm]
    by_cases h0 : low = []
    · subst h0
      have hh0 : high = [] := List.length_eq_zero_iff.1 (by simpa using h1)
      subst hh0
      refine Ev.step (fun k => ?_) (lowway (by simp))
      simp only [segmentation_costs.l0]
      rw [if_pos (by omega), if_pos (by omega), if_pos (by omega), if_neg (by simp), rdn]
    · have hl0 : 0 < low.length := List.length_pos_iff.2 h0
      have hmx := last_max low H.sl
      have hlm : low.getD (low.length - 1) 0 ∈ low := getD_mem (by omega)
      by_cases hc : pts.getD s 0 > low.getD (low.length - 1) 0
      · refine Ev.step (fun k => ?_) (highway (fun a ha => by have := hmx a ha; omega) h0)
        simp only [segmentation_costs.l0]
        rw [if_pos (by omega), if_pos (by omega), if_pos (by omega), if_pos (by omega), wlen _ (by omega) hl0, if_pos (by omega), if_pos (by omega), rdn, rdn, decide_eq_true hc]
      · refine Ev.step (fun k => ?_) (lowway (fun b hb => by have := H.ord _ hlm b hb; omega))
        simp only [segmentation_costs.l0]
        rw [if_pos (by omega), if_pos (by omega), if_pos (by omega), if_pos (by omega), wlen _ (by omega) hl0, if_pos (by omega), if_pos (by omega), rdn, rdn, decide_eq_false hc]
/-- The costs of all parts that end at t. -/
def costsOf (pts : List Int) (t : Nat) : List Int := (List.range t).map fun q => cst ((pts.take t).drop q)
theorem costs_ev (pts : List Int) (hP : Pts pts) (t : Nat) (ht : t ≤ pts.length) : Ev (fun k => segmentation_costs.f k pts (t : Int)) (costsOf pts t) := by
  have hpl := hP.1
  have := costs_loop pts hP t ht t (List.replicate t 0) [] [] (Nat.le_refl _) (by simp) ⟨by rw [List.drop_eq_nil_of_le (by simp; omega)]; exact List.Perm.refl _, List.Pairwise.nil, List.Pairwise.nil, by simp⟩ (by simp) (by simp) (fun q h1 h2 => by omega)
  refine Ev.congr (fun k => ?_) this
  unfold segmentation_costs.f
  rw [if_pos (by omega)]
  simp only [Int.toNat_natCast, sm]
  rw [if_pos (by omega), w64 (by omega) (by omega)]
end Go.Proofs.Ytcjgmofgfblmnaa.Seg
namespace Go.Proofs.Ytcjgmofgfblmnaa.Seg
set_option linter.unusedVariables false
set_option linter.unusedSimpArgs false
set_option linter.unusedSimpArgs false
/-- One list comes before another one. -/
def lex : List Int → List Int → Bool
  | [], [] => false
  | [], _ :: _ => true
  | _ :: _, [] => false
  | x :: a, y :: b => decide (x < y) || (decide (x = y) && lex a b)
theorem lex_irr (a : List Int) : lex a a = false := by
  induction a with
  | nil => rfl
  | cons x a ih => simp [lex, ih]
theorem lex_trans : ∀ {a b c : List Int}, lex a b = true → lex b c = true → lex a c = true := by
  intro a
  induction a with
  | nil =>
    intro b c h1 h2
    cases b with
    | nil => simp [lex] at h1
    | cons y b => cases c with
      | nil => simp [lex] at h2
      | cons z c => rfl
  | cons x a ih =>
    intro b c h1 h2
    cases b with
    | nil => simp [lex] at h1
    | cons y b => cases c with
      | nil => simp [lex] at h2
      | cons z c =>
        simp only [lex, Bool.or_eq_true, Bool.and_eq_true, decide_eq_true_eq] at h1 h2 ⊢
        rcases h1 with h1 | ⟨rfl, h1⟩
        · rcases h2 with h2 | ⟨rfl, h2⟩
          · left; omega
          · left; exact h1
        · rcases h2 with h2 | ⟨rfl, h2⟩
          · left; exact h2
          · right; exact ⟨rfl, ih h1 h2⟩
theorem lex_total : ∀ (a b : List Int), lex a b = true ∨ a = b ∨ lex b a = true := by
  intro a
  induction a with
  | nil => intro b; cases b with
    | nil => exact .inr (.inl rfl)
    | cons y b => exact .inl rfl
  | cons x a ih => intro b; cases b with
    | nil => exact .inr (.inr rfl)
    | cons y b =>
      simp only [lex, Bool.or_eq_true, Bool.and_eq_true, decide_eq_true_eq]
      rcases Int.lt_trichotomy x y with h | rfl | h
      · exact .inl (.inl h)
      · rcases ih b with h | rfl | h
        · exact .inl (.inr ⟨rfl, h⟩)
        · exact .inr (.inl rfl)
        · exact .inr (.inr (.inr ⟨rfl, h⟩))
      · exact .inr (.inr (.inl h))
theorem lex_snoc : ∀ (a b : List Int) (s : Int), a.length = b.length → lex (a ++ [s]) (b ++ [s]) = lex a b := by
  intro a
  induction a with
  | nil => intro b s h; cases b with
    | nil => simp [lex]
    | cons y b => simp at h
  | cons x a ih => intro b s h; cases b with
    | nil => simp at h
    | cons y b => simp only [List.cons_append, lex]; rw [ih b s (by simpa using h)]
/-- A total and cuts come before others. -/
def kl (n : Int) (c : List Int) (m : Int) (d : List Int) : Prop := n < m ∨ n = m ∧ (c.length < d.length ∨ c.length = d.length ∧ lex c d = true)
theorem kl_irr (n : Int) (c : List Int) : ¬ kl n c n c := by
  rintro (h | ⟨_, h | ⟨_, h⟩⟩)
  · omega
  · omega
  · rw [lex_irr] at h; cases h
theorem kl_trans {n m o : Int} {c d e : List Int} (h1 : kl n c m d) (h2 : kl m d o e) : kl n c o e := by
  rcases h1 with h1 | ⟨rfl, h1⟩
  · rcases h2 with h2 | ⟨rfl, h2⟩
    · left; omega
    · left; omega
  · rcases h2 with h2 | ⟨rfl, h2⟩
    · left; exact h2
    · right
      refine ⟨rfl, ?_⟩
      rcases h1 with h1 | ⟨e1, h1⟩
      · rcases h2 with h2 | ⟨e2, h2⟩
        · left; omega
        · left; omega
      · rcases h2 with h2 | ⟨e2, h2⟩
        · left; omega
        · right; exact ⟨by omega, lex_trans h1 h2⟩
theorem kl_total (n m : Int) (c d : List Int) : kl n c m d ∨ (n = m ∧ c = d) ∨ kl m d n c := by
  rcases Int.lt_trichotomy n m with h | rfl | h
  · exact .inl (.inl h)
  · rcases Nat.lt_trichotomy c.length d.length with h | h | h
    · exact .inl (.inr ⟨rfl, .inl h⟩)
    · rcases lex_total c d with h2 | rfl | h2
      · exact .inl (.inr ⟨rfl, .inr ⟨h, h2⟩⟩)
      · exact .inr (.inl ⟨rfl, rfl⟩)
      · exact .inr (.inr (.inr ⟨rfl, .inr ⟨h.symm, h2⟩⟩))
    · exact .inr (.inr (.inr ⟨rfl, .inl h⟩))
  · exact .inr (.inr (.inl h))
theorem kl_snoc {n m : Int} {c d : List Int} (s k : Int) : kl (n + k) (c ++ [s]) (m + k) (d ++ [s]) ↔ kl n c m d := by
  unfold kl
  simp only [List.length_append, List.length_singleton]
  constructor
  · rintro (h | ⟨h, h2 | ⟨h2, h3⟩⟩)
    · left; omega
    · right; exact ⟨by omega, .inl (by omega)⟩
    · right; exact ⟨by omega, .inr ⟨by omega, by rwa [lex_snoc _ _ _ (by omega)] at h3⟩⟩
  · rintro (h | ⟨h, h2 | ⟨h2, h3⟩⟩)
    · left; omega
    · right; exact ⟨by omega, .inl (by omega)⟩
    · right; exact ⟨by omega, .inr ⟨by omega, by rw [lex_snoc _ _ _ h2]; exact h3⟩⟩
/-- What is not behind by a chain. -/
theorem not_kl_trans {n m o : Int} {c d e : List Int} (h1 : ¬ kl n c m d) (h2 : ¬ kl m d o e) : ¬ kl n c o e := by
  intro h
  rcases kl_total m o d e with h3 | ⟨rfl, rfl⟩ | h3
  · exact h2 h3
  · exact h1 h
  · exact h1 (kl_trans h h3)
/-- The cost of the points from a up to b. -/
def C (pts : List Int) (a b : Nat) : Int := cst ((pts.take b).drop a)
theorem C_nonneg (pts : List Int) (a b : Nat) : 0 ≤ C pts a b := cst_nonneg _
/-- 'Cut pts p t c n': c are right cuts of the first t points, and their total is n. -/
inductive Cut (pts : List Int) (p : Int) : Nat → List Int → Int → Prop
  | whole (t : Nat) (h : 1 ≤ t) : Cut pts p t [] (C pts 0 t)
  | more (s t : Nat) (c : List Int) (n : Int) (h1 : s < t) (h : Cut pts p s c n) : Cut pts p t (c ++ [(s : Int)]) (n + p + C pts s t)
theorem Cut.pos {pts : List Int} {p : Int} {t : Nat} {c : List Int} {n : Int} (h : Cut pts p t c n) : 1 ≤ t := by
  cases h with
  | whole _ h => exact h
  | more s t c n h1 h => omega
theorem Cut.det {pts : List Int} {p : Int} {t : Nat} {c : List Int} {n : Int} (h : Cut pts p t c n) : ∀ {m : Int}, Cut pts p t c m → n = m := by
  induction h with
  | whole t h =>
    intro m h'
    generalize hc : ([] : List Int) = c at h'
    cases h' with
    | whole => rfl
    | more s t c n h1 h => simp at hc
  | more s t c n h1 h ih =>
    intro m h'
    generalize hc : c ++ [(s : Int)] = d at h'
    cases h' with
    | whole => simp at hc
    | more s' t c' n' h1' h' =>
      have := List.append_inj' hc rfl
      obtain ⟨rfl, h2⟩ := this
      obtain rfl : s = s' := by
        have h3 : (s : Int) = (s' : Int) := by simpa using h2
        omega
      rw [ih h']
/-- The best one of the first t points. -/
structure Best (pts : List Int) (p : Int) (t : Nat) (n : Int) (c : List Int) : Prop where
  cut : Cut pts p t c n
  min : ∀ c' n', Cut pts p t c' n' → ¬ kl n' c' n c
theorem Best.uniq {pts : List Int} {p : Int} {t : Nat} {n m : Int} {c d : List Int} (h : Best pts p t n c) (h' : Best pts p t m d) : n = m ∧ c = d := by
  rcases kl_total n m c d with h2 | h2 | h2
  · exact absurd h2 (h'.min _ _ h.cut)
  · exact h2
  · exact absurd h2 (h.min _ _ h'.cut)
theorem Best.le {pts : List Int} {p : Int} {t : Nat} {n : Int} {c : List Int} (h : Best pts p t n c) {c' : List Int} {n' : Int} (h' : Cut pts p t c' n') : n ≤ n' := by
  rcases Int.lt_or_le n' n with h2 | h2
  · exact absurd (.inl h2) (h.min _ _ h')
  · exact h2
/-- What is stored of the first s points: the best segmentation, or the start. -/
def Row (pts : List Int) (p : Int) (s : Nat) (n : Int) (c : List Int) : Prop := (s = 0 ∧ n = -p ∧ c = []) ∨ Best pts p s n c
/-- The segmentation that goes on from s. -/
def candN (pts : List Int) (p : Int) (t s : Nat) (n : Int) : Int := n + p + C pts s t
def candC (s : Nat) (c : List Int) : List Int := if 0 < s then c ++ [(s : Int)] else c
theorem cand_cut {pts : List Int} {p : Int} {t s : Nat} {n : Int} {c : List Int} (h : Row pts p s n c) (hs : s < t) : Cut pts p t (candC s c) (candN pts p t s n) := by
  rcases h with ⟨rfl, rfl, rfl⟩ | h
  · have := Cut.whole (pts := pts) (p := p) t (by omega)
    unfold candN candC
    rw [if_neg (by omega)]
    have e : -p + p + C pts 0 t = C pts 0 t := by omega
    rw [e]
    exact this
  · have := h.cut.pos
    unfold candN candC
    rw [if_pos (by omega)]
    exact Cut.more s t c n hs h.cut
/-- If for each s < t the row is known, then what no candidate comes before is the best. -/
theorem best_of_cands {pts : List Int} {p : Int} {t : Nat} (N : Nat → Int) (K : Nat → List Int) (hrow : ∀ s, s < t → Row pts p s (N s) (K s)) {n : Int} {c : List Int} (hc : Cut pts p t c n)
    (hmin : ∀ s, s < t → ¬ kl (candN pts p t s (N s)) (candC s (K s)) n c) : Best pts p t n c := by
  refine ⟨hc, fun c' n' h' => ?_⟩
  cases h' with
  | whole _ h =>
    have h0 := hmin 0 (by omega)
    rcases hrow 0 (by omega) with ⟨_, e1, e2⟩ | hb
    · have e3 : candN pts p t 0 (N 0) = C pts 0 t := by unfold candN; rw [e1]; omega
      have e4 : candC 0 (K 0) = [] := by unfold candC; rw [if_neg (by omega)]; exact e2
      rw [e3, e4] at h0
      exact h0
    · exact absurd hb.cut.pos (by omega)
  | more s t c2 n2 h1 h2 =>
    have h0 := hmin s h1
    have hp := h2.pos
    rcases hrow s h1 with ⟨e, _, _⟩ | hb
    · omega
    · have h3 := hb.min _ _ h2
      have e4 : candC s (K s) = K s ++ [(s : Int)] := by unfold candC; rw [if_pos (by omega)]
      rw [e4] at h0
      refine not_kl_trans ?_ h0
      intro h5
      apply h3
      have e5 : n2 + p + C pts s t = n2 + (p + C pts s t) := by omega
      have e6 : candN pts p t s (N s) = N s + (p + C pts s t) := by unfold candN; omega
      rw [e5, e6] at h5
      exact (kl_snoc _ _).1 h5
theorem cst_bd (l : List Int) (B : Int) (h : ∀ x ∈ l, -B ≤ x ∧ x ≤ B) : cst l ≤ 2 * B * (l.length : Int) := by
  by_cases hl : l = []
  · subst hl; simp [cst, dev]
  · have h1 := cst_min l (med l)
    have hm := h _ (med_mem l hl)
    unfold cst
    generalize med l = m at hm
    clear h1 hl
    induction l with
    | nil => simp [dev]
    | cons x l ih =>
      have hx := h x List.mem_cons_self
      have := ih (fun y hy => h y (List.mem_cons_of_mem _ hy))
      simp only [dev, List.length_cons]
      push_cast
      rw [Int.mul_add]
      omega
theorem C_bd (pts : List Int) (h : ∀ x ∈ pts, -1099511627776 ≤ x ∧ x ≤ 1099511627776) (a b : Nat) : C pts a b ≤ 2199023255552 * ((b - a : Nat) : Int) := by
  have := cst_bd ((pts.take b).drop a) 1099511627776 (fun x hx => h x (List.mem_of_mem_take (List.mem_of_mem_drop hx)))
  have h2 : ((pts.take b).drop a).length ≤ b - a := by rw [List.length_drop, List.length_take]; omega
  unfold C
  omega
theorem Cut.bd {pts : List Int} {p : Int} (hp : ∀ x ∈ pts, -1099511627776 ≤ x ∧ x ≤ 1099511627776) (h0 : 0 ≤ p) (h1 : p ≤ 1099511627776) {t : Nat} {c : List Int} {n : Int} (h : Cut pts p t c n) : 0 ≤ n ∧ n ≤ 3298534883328 * (t : Int) := by
  induction h with
  | whole t h =>
    have := C_bd pts hp 0 t
    have := C_nonneg pts 0 t
    omega
  | more s t c n h2 h ih =>
    have := C_bd pts hp s t
    have := C_nonneg pts s t
    omega
theorem Cut.len {pts : List Int} {p : Int} {t : Nat} {c : List Int} {n : Int} (h : Cut pts p t c n) : c.length + 1 ≤ t := by
  induction h with
  | whole t h => simpa using h
  | more s t c n h1 h ih => simp; omega
end Go.Proofs.Ytcjgmofgfblmnaa.Seg
namespace Go.Proofs.Ytcjgmofgfblmnaa.Seg
open Go.RowKit Go.Proofs.YtcjgmofgfblmnaaW.PrintWords Go.Proofs.YtcjgmofgfblmnaaW.PrintLast Go.Proofs.YtcjgmofgfblmnaaW.PrintMore Go.Proofs.Ytcjgmofgfblmnaa.Q
set_option linter.unusedVariables false
set_option linter.unusedSimpArgs false
set_option linter.unusedSimpArgs false
theorem cmp_eq (x y : Int) : cmp_Compare_int.f x y = some (if x < y then -1 else if x > y then 1 else 0) := by
  unfold cmp_Compare_int.f cmp_isNaN_int.f
  simp only [Option.bind_some, bne_self_eq_false, Bool.false_eq_true, if_false]
  split
  · rfl
  · split <;> rfl
theorem compare_loop (a b : List Int) (ha : a.length ≤ 1099511627776) : ∀ (d i : Nat), a.length - i = d → i ≤ a.length → a.take i = b.take i → i ≤ b.length →
    ∃ r, Ev (fun k => slices_Compare_int_int.l0 k a b a (a.length : Int) (i : Int)) r ∧ (r < 0 ↔ lex (a.drop i) (b.drop i) = true) := by
  intro d
  induction d with
  | zero =>
    intro i hd hi he hb
    have e : i = a.length := by omega
    refine ⟨if (a.length : Int) < (b.length : Int) then -1 else 0, Ev.step (f := fun _ => some _) (fun k => ?_) (Ev.now _), ?_⟩
    · simp only [slices_Compare_int_int.l0]
      rw [if_neg (by omega)]
      split <;> rfl
    · rw [List.drop_eq_nil_of_le (by omega : a.length ≤ i)]
      by_cases h : a.length < b.length
      · rw [if_pos (by omega), List.drop_eq_getElem_cons (by omega : i < b.length)]
        simp [lex]
      · rw [if_neg (by omega), List.drop_eq_nil_of_le (by omega : b.length ≤ i)]
        simp [lex]
  | succ d ih =>
    intro i hd hi he hb
    have hia : i < a.length := by omega
    by_cases hib : b.length ≤ i
    · refine ⟨1, Ev.step (f := fun _ => some _) (fun k => ?_) (Ev.now _), ?_⟩
      · simp only [slices_Compare_int_int.l0]
        rw [if_pos (by omega), if_pos (by omega), if_pos (by omega), if_pos (by omega)]
      · rw [List.drop_eq_nil_of_le hib, List.drop_eq_getElem_cons hia]
        simp [lex]
    · have hib' : i < b.length := by omega
      have ea : a.getD i 0 = a[i] := by rw [List.getD_eq_getElem?_getD, List.getElem?_eq_getElem hia]; rfl
      have eb : b.getD i 0 = b[i] := by rw [List.getD_eq_getElem?_getD, List.getElem?_eq_getElem hib']; rfl
      rw [List.drop_eq_getElem_cons hia, List.drop_eq_getElem_cons hib']
      by_cases h : a[i] = b[i]
      · obtain ⟨r, hev, hr⟩ := ih (i + 1) (by omega) (by omega) (by rw [List.take_succ_eq_append_getElem hia, List.take_succ_eq_append_getElem hib', he, h]) (by omega)
        refine ⟨r, Ev.step (fun k => ?_) hev, ?_⟩
        · simp only [slices_Compare_int_int.l0]
          rw [if_pos (by omega), if_pos (by omega), if_pos (by omega), if_neg (by omega), if_pos (by omega), rdn, rdn, cmp_eq, ea, eb, h]
          have hv : (if b[i] < b[i] then (-1 : Int) else if b[i] > b[i] then 1 else 0) = 0 := by rw [if_neg (by omega), if_neg (by omega)]
          simp only [Option.bind_some]
          rw [hv, if_pos rfl, w64 (by omega) (by omega)]
          rfl
        · rw [hr]; simp [lex, h]
      · refine ⟨if a[i] < b[i] then -1 else 1, Ev.step (f := fun _ => some _) (fun k => ?_) (Ev.now _), ?_⟩
        · simp only [slices_Compare_int_int.l0]
          rw [if_pos (by omega), if_pos (by omega), if_pos (by omega), if_neg (by omega), if_pos (by omega), rdn, rdn, cmp_eq, ea, eb]
          simp only [Option.bind_some]
          by_cases h2 : a[i] < b[i]
          · have hv : (if a[i] < b[i] then (-1 : Int) else if a[i] > b[i] then 1 else 0) = -1 := if_pos h2
            rw [hv, if_neg (by omega), if_pos h2]
          · have hv : (if a[i] < b[i] then (-1 : Int) else if a[i] > b[i] then 1 else 0) = 1 := by rw [if_neg h2, if_pos (by omega)]
            rw [hv, if_neg (by omega), if_neg h2]
        · by_cases h2 : a[i] < b[i]
          · rw [if_pos h2]; simp [lex, h2]
          · rw [if_neg h2]; simp [lex, h2, h]
theorem better_ev (n : Int) (c : List Int) (m : Int) (d : List Int) (hc : c.length ≤ 1099511627776) : ∃ b : Bool, Ev (fun k => segmentation_best_better.f k n c m d) b ∧ (b = true ↔ kl n c m d) := by
  by_cases h : n = m
  · by_cases h2 : c.length = d.length
    · obtain ⟨r, hev, hr⟩ := compare_loop c d hc (c.length - 0) 0 rfl (by omega) (by simp) (by omega)
      refine ⟨decide (r < 0), ?_, ?_⟩
      · have := Ev.bind (f := fun _ t => some (decide (t < 0))) hev (Ev.now _)
        refine Ev.congr (fun k => ?_) this
        unfold segmentation_best_better.f slices_Compare_int_int.f
        rw [if_pos h, if_pos (by omega)]
        rfl
      · simp only [decide_eq_true_eq, hr, List.drop_zero]
        constructor
        · intro h3; exact .inr ⟨h, .inr ⟨h2, h3⟩⟩
        · rintro (h3 | ⟨_, h3 | ⟨_, h3⟩⟩)
          · omega
          · omega
          · exact h3
    · refine ⟨decide ((c.length : Int) < (d.length : Int)), Ev.congr (fun k => ?_) (Ev.now _), ?_⟩
      · unfold segmentation_best_better.f
        rw [if_pos h, if_neg (by omega)]
      · simp only [decide_eq_true_eq]
        constructor
        · intro h3; exact .inr ⟨h, .inl (by omega)⟩
        · rintro (h3 | ⟨_, h3 | ⟨h4, _⟩⟩)
          · omega
          · omega
          · omega
  · refine ⟨decide (n < m), Ev.congr (fun k => ?_) (Ev.now _), ?_⟩
    · unfold segmentation_best_better.f
      rw [if_neg h]
    · simp only [decide_eq_true_eq]
      constructor
      · intro h3; exact .inl h3
      · rintro (h3 | ⟨h3, _⟩)
        · exact h3
        · exact absurd h3 h
/-- The rows of the first t indices. -/
def Rows (pts : List Int) (p : Int) (all : List S108) : Prop := ∀ s, s < all.length → Row pts p s (all.getD s z108).f0 (all.getD s z108).f1
theorem Row.bd {pts : List Int} {p : Int} (hP : Pts pts) (h0 : 0 ≤ p) (h1 : p ≤ 1099511627776) {s : Nat} (hs : s ≤ pts.length) {n : Int} {c : List Int} (h : Row pts p s n c) : -1099511627776 ≤ n ∧ n ≤ 4503599627370496 ∧ c.length ≤ 1024 := by
  have := hP.1
  rcases h with ⟨_, rfl, rfl⟩ | h
  · exact ⟨by omega, by omega, by simp⟩
  · have h2 := h.cut.bd hP.2 h0 h1
    have h3 := h.cut.len
    exact ⟨by omega, by omega, by omega⟩
theorem after_eq {pts : List Int} {p : Int} (hP : Pts pts) (h0 : 0 ≤ p) (h1 : p ≤ 1099511627776) {s t : Nat} (hs : s < t) (ht : t ≤ pts.length) {n : Int} {c : List Int} (h : Row pts p s n c) :
    segmentation_best_after.f n c (s : Int) (wrap64 (p + C pts s t)) = some (candN pts p t s n, candC s c) := by
  have hb := Row.bd hP h0 h1 (by omega) h
  have hl := hP.1
  have hC := C_bd pts hP.2 s t
  have hC0 := C_nonneg pts s t
  have e1 : wrap64 (p + C pts s t) = p + C pts s t := w64 (by omega) (by omega)
  have e2 : wrap64 (n + (p + C pts s t)) = n + (p + C pts s t) := w64 (by omega) (by omega)
  unfold segmentation_best_after.f candN candC slices_Clone_int_int.f
  rw [e1, e2]
  by_cases h2 : 0 < s
  · rw [if_pos (by omega), if_pos (by omega), if_pos h2]
    simp only [Option.bind_some]
    rw [if_pos (by omega)]
    congr 2
    omega
  · rw [if_neg (by omega), if_neg h2]
    congr 2
    omega
theorem costsOf_getD (pts : List Int) (t s : Nat) (h : s < t) : (costsOf pts t).getD s 0 = C pts s t := by
  unfold costsOf C
  rw [List.getD_eq_getElem?_getD, List.getElem?_map, List.getElem?_range h]
  rfl
theorem costsOf_length (pts : List Int) (t : Nat) : (costsOf pts t).length = t := by simp [costsOf]
/-- The candidates in order. -/
def upto (t : Nat) : List Int := (List.range t).map fun (s : Nat) => (s : Int)
theorem upto_length (t : Nat) : (upto t).length = t := by simp [upto]
theorem upto_getD (t s : Nat) (h : s < t) : (upto t).getD s 0 = (s : Int) := by
  unfold upto
  rw [List.getD_eq_getElem?_getD, List.getElem?_map, List.getElem?_range h]
  rfl
theorem upto_succ (t : Nat) : upto (t + 1) = upto t ++ [(t : Int)] := by simp [upto, List.range_succ]
def rowN (all : List S108) (s : Nat) : Int := (all.getD s z108).f0
def rowK (all : List S108) (s : Nat) : List Int := (all.getD s z108).f1
def cN (pts : List Int) (p : Int) (t : Nat) (all : List S108) (s : Nat) : Int := candN pts p t s (rowN all s)
def cK (all : List S108) (s : Nat) : List Int := candC s (rowK all s)
/-- What stands at an inner round. -/
structure Rnd (pts : List Int) (p : Int) (all : List S108) (t : Nat) (asked : Int) : Prop where
  hP : Pts pts
  h0 : 0 ≤ p
  h1 : p ≤ 1099511627776
  rows : Rows pts p all
  len : all.length = t
  one : 1 ≤ t
  top : t ≤ pts.length
  ask0 : 0 ≤ asked
  ask1 : asked ≤ 4398046511104
section
variable {pts : List Int} {p : Int} {all : List S108} {t : Nat} {asked : Int}
theorem Rnd.small (h : Rnd pts p all t asked) : t ≤ 1024 := Nat.le_trans h.top h.hP.1
theorem Rnd.row (h : Rnd pts p all t asked) {i : Nat} (hi : i < t) : Row pts p i (rowN all i) (rowK all i) := h.rows i (by rw [h.len]; exact hi)
theorem Rnd.bds (h : Rnd pts p all t asked) {i : Nat} (hi : i < t) : -1099511627776 ≤ rowN all i ∧ rowN all i ≤ 4503599627370496 ∧ (rowK all i).length ≤ 1024 := Row.bd h.hP h.h0 h.h1 (Nat.le_of_lt (Nat.lt_of_lt_of_le hi h.top)) (h.row hi)
theorem Rnd.C (h : Rnd pts p all t asked) {i : Nat} (hi : i < t) : 0 ≤ C pts i t ∧ C pts i t ≤ 2251799813685248 := by
  have h1 := C_bd pts h.hP.2 i t
  have h2 := C_nonneg pts i t
  have h3 := h.small
  omega
theorem cK_len (h : Rnd pts p all t asked) {i : Nat} (hi : i < t) : (cK all i).length ≤ 1025 := by
  have h1 := (h.bds hi).2.2
  unfold cK candC
  split
  · rw [List.length_append, List.length_singleton]; omega
  · omega
theorem Rnd.asks (h : Rnd pts p all t asked) {i : Nat} (hi : i < t) : wrap64 (asked + (i : Int) + 1) = asked + ((i + 1 : Nat) : Int) := by
  have h1 := h.small
  have h2 := h.ask0
  have h3 := h.ask1
  rw [w64 (by omega) (by omega)]; omega
theorem Rnd.ix (h : Rnd pts p all t asked) {i : Nat} (hi : i < t) : wrap64 ((i : Int) + 1) = ((i + 1 : Nat) : Int) := by
  have h1 := h.small
  rw [w64 (by omega) (by omega)]; omega
theorem Rnd.sum (h : Rnd pts p all t asked) {i : Nat} (hi : i < t) : wrap64 ((wrap64 (rowN all i + p)) + Seg.C pts i t) = cN pts p t all i := by
  have h1 := h.bds hi
  have h2 := h.C hi
  have h3 := h.h0
  have h4 := h.h1
  have e : wrap64 (rowN all i + p) = rowN all i + p := w64 (by omega) (by omega)
  rw [e, w64 (by omega) (by omega)]
  rfl
theorem Rnd.after (h : Rnd pts p all t asked) {i : Nat} (hi : i < t) : segmentation_best_after.f (rowN all i) (rowK all i) (i : Int) (wrap64 (p + Seg.C pts i t)) = some (cN pts p t all i, cK all i) :=
  after_eq h.hP h.h0 h.h1 hi h.top (h.row hi)
theorem Rnd.cost (h : Rnd pts p all t asked) {i : Nat} (hi : i < t) : rd (costsOf pts t) (i : Int) = Seg.C pts i t := by rw [rdn, costsOf_getD pts t i hi]
theorem rd_upto {i : Nat} (hi : i < t) : rd (upto t) (i : Int) = (i : Int) := by rw [rdn, upto_getD t i hi]
theorem E1 (h : Rnd pts p all t asked) (k : Nat) (n : Int) (c : List Int) : segmentation_solve.l1 (k + 1) pts p false (upto t) (asked + (t : Int)) (t : Int) (t : Int) (t : Int) all (costsOf pts t) n c =
    segmentation_solve.l0 k pts p false (upto (t + 1)) (asked + (t : Int)) ((t : Int) + 1) (all ++ [(⟨n, c⟩ : S108)]) := by
  have h1 := h.small
  have h2 := h.len
  simp only [segmentation_solve.l1]
  rw [if_neg (Int.lt_irrefl _), if_pos (by omega), if_neg (by decide), if_pos (by rw [upto_length]; omega), w64 (by omega) (by omega), upto_succ]
theorem E2 (h : Rnd pts p all t asked) (k : Nat) (n : Int) (c : List Int) : segmentation_solve.l1 (k + 1) pts p false (upto t) (asked + ((0 : Nat) : Int)) (t : Int) (t : Int) ((0 : Nat) : Int) all (costsOf pts t) n c =
    segmentation_solve.j2 k pts p false (upto t) (asked + ((0 + 1 : Nat) : Int)) (t : Int) ((0 : Nat) : Int) ((0 : Nat) : Int) (t : Int) ((0 : Nat) : Int) false all (costsOf pts t) n c := by
  have h1 := h.one
  have e1 := h.asks (i := 0) (by omega)
  have e2 := rd_upto (t := t) (i := 0) (by omega)
  simp only [segmentation_solve.l1]
  rw [if_pos (by omega), if_pos (by omega), if_pos (by rw [upto_length]; omega), if_neg (by omega), e1, e2]
theorem E3 (h : Rnd pts p all t asked) (k : Nat) {i : Nat} (hi : i < t) (hz : 0 < i) (n : Int) (c : List Int) : segmentation_solve.l1 (k + 1) pts p false (upto t) (asked + (i : Int)) (t : Int) (t : Int) (i : Int) all (costsOf pts t) n c =
    segmentation_solve.j2 k pts p false (upto t) (asked + ((i + 1 : Nat) : Int)) (t : Int) (i : Int) (i : Int) (t : Int) (i : Int) (decide (cN pts p t all i > n)) all (costsOf pts t) n c := by
  have h1 := h.len
  have e1 := h.asks hi
  have e2 := rd_upto hi
  have e3 := h.cost hi
  have e4 := h.sum hi
  have ea : (rd_T108 all (i : Int)).f0 = rowN all i := rfl
  simp only [segmentation_solve.l1]
  rw [if_pos (by omega), if_pos (by omega), if_pos (by rw [upto_length]; omega), if_pos (by omega), e2, if_pos (by omega), if_pos (by omega), costsOf_length, if_pos (by omega), ea, e3, e4, e1]
theorem E4 (h : Rnd pts p all t asked) (k : Nat) {i : Nat} (hi : i < t) (n : Int) (c : List Int) (a : Int) : segmentation_solve.j2 (k + 1) pts p false (upto t) a (t : Int) (i : Int) (i : Int) (t : Int) (i : Int) true all (costsOf pts t) n c =
    segmentation_solve.l1 k pts p false (upto t) a (t : Int) (t : Int) ((i + 1 : Nat) : Int) all (costsOf pts t) n c := by
  have e1 := h.ix hi
  simp only [segmentation_solve.j2]
  rw [if_pos trivial, e1]
theorem E5 (h : Rnd pts p all t asked) (k : Nat) (n : Int) (c : List Int) (a : Int) : segmentation_solve.j2 (k + 1) pts p false (upto t) a (t : Int) ((0 : Nat) : Int) ((0 : Nat) : Int) (t : Int) ((0 : Nat) : Int) false all (costsOf pts t) n c =
    segmentation_solve.j3 k pts p false (upto t) a (t : Int) (t : Int) ((0 : Nat) : Int) true all (costsOf pts t) n c (cN pts p t all 0) (cK all 0) := by
  have h1 := h.len
  have h2 := h.one
  have e2 := h.cost (i := 0) (by omega)
  have e3 := h.after (i := 0) (by omega)
  have ea : (rd_T108 all ((0 : Nat) : Int)).f0 = rowN all 0 := rfl
  have eb : (rd_T108 all ((0 : Nat) : Int)).f1 = rowK all 0 := rfl
  simp only [segmentation_solve.j2, costsOf_length]
  rw [if_neg (by decide), if_pos (by omega), if_pos (by omega), if_pos (by omega), e2, ea, eb, e3]
  simp only [Option.bind_some]
  rw [if_pos (by rfl)]
theorem E6 (h : Rnd pts p all t asked) (k : Nat) {i : Nat} (hi : i < t) (hz : 0 < i) (n : Int) (c : List Int) (a : Int) : segmentation_solve.j2 (k + 1) pts p false (upto t) a (t : Int) (i : Int) (i : Int) (t : Int) (i : Int) false all (costsOf pts t) n c =
    (segmentation_best_better.f k (cN pts p t all i) (cK all i) n c).bind fun b => segmentation_solve.j3 k pts p false (upto t) a (t : Int) (t : Int) (i : Int) b all (costsOf pts t) n c (cN pts p t all i) (cK all i) := by
  have h1 := h.len
  have e2 := h.cost hi
  have e3 := h.after hi
  have ea : (rd_T108 all (i : Int)).f0 = rowN all i := rfl
  have eb : (rd_T108 all (i : Int)).f1 = rowK all i := rfl
  simp only [segmentation_solve.j2, costsOf_length]
  rw [if_neg (by decide), if_pos (by omega), if_pos (by omega), if_pos (by omega), e2, ea, eb, e3]
  simp only [Option.bind_some]
  rw [if_neg (by omega)]
theorem E7 (h : Rnd pts p all t asked) (k : Nat) {i : Nat} (hi : i < t) (n m : Int) (c d : List Int) (a : Int) : segmentation_solve.j3 (k + 1) pts p false (upto t) a (t : Int) (t : Int) (i : Int) true all (costsOf pts t) n c m d =
    segmentation_solve.l1 k pts p false (upto t) a (t : Int) (t : Int) ((i + 1 : Nat) : Int) all (costsOf pts t) m d := by
  have e1 := h.ix hi
  simp only [segmentation_solve.j3]
  rw [if_pos trivial, e1]
theorem E8 (h : Rnd pts p all t asked) (k : Nat) {i : Nat} (hi : i < t) (n m : Int) (c d : List Int) (a : Int) : segmentation_solve.j3 (k + 1) pts p false (upto t) a (t : Int) (t : Int) (i : Int) false all (costsOf pts t) n c m d =
    segmentation_solve.l1 k pts p false (upto t) a (t : Int) (t : Int) ((i + 1 : Nat) : Int) all (costsOf pts t) n c := by
  have e1 := h.ix hi
  simp only [segmentation_solve.j3]
  rw [if_neg (by decide), e1]
end
/-- n and c are the first one of the candidates before i. -/
def Least (pts : List Int) (p : Int) (t : Nat) (all : List S108) (i : Nat) (n : Int) (c : List Int) : Prop :=
  (∃ s, s < i ∧ n = cN pts p t all s ∧ c = cK all s) ∧ ∀ s, s < i → ¬ kl (cN pts p t all s) (cK all s) n c
theorem Least.first {pts : List Int} {p : Int} {t : Nat} {all : List S108} : Least pts p t all 1 (cN pts p t all 0) (cK all 0) :=
  ⟨⟨0, by omega, rfl, rfl⟩, fun s hs => by cases (show s = 0 by omega); exact kl_irr _ _⟩
theorem Least.take {pts : List Int} {p : Int} {t : Nat} {all : List S108} {i : Nat} {n : Int} {c : List Int} (h : Least pts p t all i n c) (hk : kl (cN pts p t all i) (cK all i) n c) : Least pts p t all (i + 1) (cN pts p t all i) (cK all i) := by
  refine ⟨⟨i, by omega, rfl, rfl⟩, fun s hs => ?_⟩
  rcases Nat.lt_or_ge s i with h3 | h3
  · intro h4; exact h.2 s h3 (kl_trans h4 hk)
  · cases (show s = i by omega); exact kl_irr _ _
theorem Least.pass {pts : List Int} {p : Int} {t : Nat} {all : List S108} {i : Nat} {n : Int} {c : List Int} (h : Least pts p t all i n c) (hk : ¬ kl (cN pts p t all i) (cK all i) n c) : Least pts p t all (i + 1) n c := by
  obtain ⟨⟨s, hs, e1, e2⟩, hm⟩ := h
  refine ⟨⟨s, by omega, e1, e2⟩, fun s' hs' => ?_⟩
  rcases Nat.lt_or_ge s' i with h3 | h3
  · exact hm s' h3
  · cases (show s' = i by omega); exact hk
theorem Least.best {pts : List Int} {p : Int} {t : Nat} {all : List S108} {asked : Int} {n : Int} {c : List Int} (h : Least pts p t all t n c) (g : Rnd pts p all t asked) : Best pts p t n c := by
  obtain ⟨⟨s, hs, e1, e2⟩, hm⟩ := h
  have hcut : Cut pts p t c n := by rw [e1, e2]; exact cand_cut (g.row hs) hs
  exact best_of_cands (rowN all) (rowK all) (fun s hs => g.row hs) hcut hm
theorem Least.ex {pts : List Int} {p : Int} {t : Nat} {all : List S108} : ∀ i, 1 ≤ i → ∃ n c, Least pts p t all i n c := by
  intro i hi
  induction i with
  | zero => omega
  | succ i ih =>
    by_cases hz : i = 0
    · subst hz; exact ⟨_, _, Least.first⟩
    · obtain ⟨n, c, h⟩ := ih (by omega)
      rcases Classical.em (kl (cN pts p t all i) (cK all i) n c) with hk | hk
      · exact ⟨_, _, h.take hk⟩
      · exact ⟨n, c, h.pass hk⟩
/-- The inner loop. -/
theorem solve_inner {pts : List Int} {p : Int} {all : List S108} {t : Nat} {asked : Int} (g : Rnd pts p all t asked) (r : (List S108) × Int)
    (next : ∀ n c, Best pts p t n c → Ev (fun k => segmentation_solve.l0 k pts p false (upto (t + 1)) (asked + (t : Int)) ((t : Int) + 1) (all ++ [(⟨n, c⟩ : S108)])) r) :
    ∀ (d i : Nat) (n : Int) (c : List Int), t - i = d → i ≤ t → (i = 0 ∨ Least pts p t all i n c) →
      Ev (fun k => segmentation_solve.l1 k pts p false (upto t) (asked + (i : Int)) (t : Int) (t : Int) (i : Int) all (costsOf pts t) n c) r := by
  have g1 := g.one
  intro d
  induction d with
  | zero =>
    intro i n c hd hi hinv
    obtain rfl : i = t := by omega
    rcases hinv with h | h
    · omega
    · exact Ev.step (fun k => E1 g k n c) (next n c (h.best g))
  | succ d ih =>
    intro i n c hd hi hinv
    have hit : i < t := by omega
    by_cases hz : i = 0
    · subst hz
      have := ih (0 + 1) (cN pts p t all 0) (cK all 0) (by omega) (by omega) (.inr Least.first)
      exact Ev.step (fun k => E2 g k n c) (Ev.step (fun k => E5 g k n c _) (Ev.step (fun k => E7 g k (by omega) n _ c _ _) this))
    · rcases hinv with h | h
      · exact absurd h hz
      have hz' : 0 < i := by omega
      by_cases hsk : cN pts p t all i > n
      · have hp : ¬ kl (cN pts p t all i) (cK all i) n c := by rintro (h4 | ⟨h4, _⟩) <;> omega
        have := ih (i + 1) n c (by omega) (by omega) (.inr (h.pass hp))
        refine Ev.step (fun k => E3 g k hit hz' n c) ?_
        rw [decide_eq_true hsk]
        exact Ev.step (fun k => E4 g k hit n c _) this
      · obtain ⟨b, hev, hbt⟩ := better_ev (cN pts p t all i) (cK all i) n c (by have := cK_len g hit; omega)
        refine Ev.step (fun k => E3 g k hit hz' n c) ?_
        rw [decide_eq_false hsk]
        refine Ev.step (fun k => E6 g k hit hz' n c _) ?_
        cases b with
        | true =>
          have := ih (i + 1) (cN pts p t all i) (cK all i) (by omega) (by omega) (.inr (h.take (hbt.1 rfl)))
          exact Ev.bind (f := fun k b => segmentation_solve.j3 k pts p false (upto t) (asked + ((i + 1 : Nat) : Int)) (t : Int) (t : Int) (i : Int) b all (costsOf pts t) n c (cN pts p t all i) (cK all i)) hev (Ev.step (fun k => E7 g k hit n _ c _ _) this)
        | false =>
          have hk : ¬ kl (cN pts p t all i) (cK all i) n c := fun h => by have := hbt.2 h; cases this
          have := ih (i + 1) n c (by omega) (by omega) (.inr (h.pass hk))
          exact Ev.bind (f := fun k b => segmentation_solve.j3 k pts p false (upto t) (asked + ((i + 1 : Nat) : Int)) (t : Int) (t : Int) (i : Int) b all (costsOf pts t) n c (cN pts p t all i) (cK all i)) hev (Ev.step (fun k => E8 g k hit n _ c _ _) this)
theorem Rows.snoc {pts : List Int} {p : Int} {all : List S108} (h : Rows pts p all) {n : Int} {c : List Int} (hb : Best pts p all.length n c) : Rows pts p (all ++ [(⟨n, c⟩ : S108)]) := by
  intro s hs
  rcases Nat.lt_or_ge s all.length with h1 | h1
  · have := h s h1
    rw [List.getD_eq_getElem?_getD, List.getElem?_append_left h1, ← List.getD_eq_getElem?_getD]
    exact this
  · have e : s = all.length := by simp at hs; omega
    subst e
    have e2 : (all ++ [(⟨n, c⟩ : S108)]).getD all.length z108 = ⟨n, c⟩ := by
      rw [List.getD_eq_getElem?_getD, List.getElem?_append_right (Nat.le_refl _)]; simp
    rw [e2]
    exact .inr hb
/-- 'solve' without pruning: the best segmentations of all beginnings. -/
theorem solve_ev (pts : List Int) (p : Int) (hP : Pts pts) (h0 : 0 ≤ p) (h1 : p ≤ 1099511627776) : ∃ (all : List S108) (asked : Int), Ev (fun k => segmentation_solve.f k pts p false) (all, asked) ∧ all.length = pts.length + 1 ∧ Rows pts p all := by
  have hl := hP.1
  have main : ∀ (d t : Nat) (all : List S108) (asked : Int), pts.length + 1 - t = d → 1 ≤ t → t ≤ pts.length + 1 → all.length = t → Rows pts p all → 0 ≤ asked → asked ≤ 1024 * (t : Int) →
      ∃ (all' : List S108) (asked' : Int), Ev (fun k => segmentation_solve.l0 k pts p false (upto t) asked (t : Int) all) (all', asked') ∧ all'.length = pts.length + 1 ∧ Rows pts p all' := by
    intro d
    induction d with
    | zero =>
      intro t all asked hd ht ht2 hlen hrows _ _
      refine ⟨all, asked, Ev.step (f := fun _ => some _) (fun k => ?_) (Ev.now _), by omega, hrows⟩
      simp only [segmentation_solve.l0]
      rw [if_neg (by omega)]
    | succ d ih =>
      intro t all asked hd ht ht2 hlen hrows ha0 ha1
      have htp : t ≤ pts.length := by omega
      have g : Rnd pts p all t asked := ⟨hP, h0, h1, hrows, hlen, ht, htp, ha0, by omega⟩
      obtain ⟨n, c, hleast⟩ := Least.ex (pts := pts) (p := p) (t := t) (all := all) t ht
      have hbest := hleast.best g
      obtain ⟨all', asked', hev, h2, h3⟩ := ih (t + 1) (all ++ [(⟨n, c⟩ : S108)]) (asked + (t : Int)) (by omega) (by omega) (by omega) (by rw [List.length_append, List.length_singleton]; omega) (hrows.snoc (by rw [hlen]; exact hbest)) (by omega) (by omega)
      refine ⟨all', asked', ?_, h2, h3⟩
      have hin := solve_inner g (all', asked') (fun n' c' hb' => by
        obtain ⟨rfl, rfl⟩ := hbest.uniq hb'
        exact hev) (t - 0) 0 0 [] rfl (Nat.zero_le _) (.inl rfl)
      have := Ev.bind (f := fun k t178 => segmentation_solve.l1 k pts p false (upto t) asked (t : Int) ((upto t).length : Int) 0 all t178 0 []) (costs_ev pts hP t htp) (by simpa [upto_length] using hin)
      refine Ev.step (fun k => ?_) this
      simp only [segmentation_solve.l0]
      rw [if_pos (by omega)]
  have e0 : wrap64 (-p) = -p := w64 (by omega) (by omega)
  obtain ⟨all, asked, hev, h2, h3⟩ := main (pts.length + 1 - 1) 1 [(⟨-p, []⟩ : S108)] 0 rfl (by omega) (by omega) rfl (fun s hs => by
    cases (show s = 0 by rw [List.length_singleton] at hs; omega)
    exact .inl ⟨rfl, rfl, rfl⟩) (by omega) (by omega)
  refine ⟨all, asked, Ev.congr (fun k => ?_) hev, h2, h3⟩
  unfold segmentation_solve.f
  rw [e0]
  rfl
end Go.Proofs.Ytcjgmofgfblmnaa.Seg
namespace Go.Proofs.Ytcjgmofgfblmnaa.Seg
set_option linter.unusedVariables false
set_option linter.unusedSimpArgs false
set_option linter.unusedSimpArgs false
/-- The error of cuts behind 'a'. -/
def cutErr (n : Nat) (a : Int) : List Int → Int
  | [] => 0
  | c :: cs => if c < 1 ∨ (n : Int) ≤ c then 2 else if c ≤ a then 8 else cutErr n c cs
/-- The total of the parts from 'a' on. -/
def fw (pts : List Int) (t a : Nat) : List Int → Int
  | [] => C pts a t
  | c :: cs => C pts a c.toNat + fw pts t c.toNat cs
/-- The parts from 'a' on. -/
def prt (l : List Int) (a : Nat) : List Int → List (List Int)
  | [] => [l.drop a]
  | c :: cs => (l.take c.toNat).drop a :: prt l c.toNat cs
def sumc : List (List Int) → Int
  | [] => 0
  | x :: r => cst x + sumc r
def tot (l : List Int) (p : Int) (c : List Int) : Int := p * (c.length : Int) + fw l l.length 0 c
theorem sumc_prt (l : List Int) : ∀ (cs : List Int) (a : Nat), sumc (prt l a cs) = fw l l.length a cs := by
  intro cs
  induction cs with
  | nil => intro a; simp only [prt, sumc, fw, C, List.take_length]; omega
  | cons c cs ih => intro a; simp only [prt, sumc, fw, ih, C]
theorem prt_length (l : List Int) : ∀ (cs : List Int) (a : Nat), (prt l a cs).length = cs.length + 1 := by
  intro cs
  induction cs with
  | nil => intro a; rfl
  | cons c cs ih => intro a; simp only [prt, List.length_cons, ih]
theorem fw_snoc (pts : List Int) (t s : Nat) : ∀ (cs : List Int) (a : Nat), fw pts t a (cs ++ [(s : Int)]) = fw pts s a cs + C pts s t := by
  intro cs
  induction cs with
  | nil => intro a; simp [fw]
  | cons c cs ih => intro a; simp only [List.cons_append, fw, ih]; omega
theorem cutErr_snoc (n s : Nat) (hs : s < n) : ∀ (cs : List Int) (a : Int), cutErr n a (cs ++ [(s : Int)]) = 0 → cutErr s a cs = 0 ∧ a < (s : Int) ∧ 1 ≤ s := by
  intro cs
  induction cs with
  | nil =>
    intro a h
    simp only [List.nil_append, cutErr] at h
    split at h
    · omega
    · split at h
      · omega
      · exact ⟨rfl, by omega, by omega⟩
  | cons c cs ih =>
    intro a h
    simp only [List.cons_append, cutErr] at h
    split at h
    · omega
    · split at h
      · omega
      · obtain ⟨h1, h2, h3⟩ := ih c h
        refine ⟨?_, by omega, h3⟩
        simp only [cutErr]
        rw [if_neg (by omega), if_neg (by omega)]
        exact h1
theorem cutErr_mk (n s : Nat) (hs : s < n) (h1 : 1 ≤ s) : ∀ (cs : List Int) (a : Int), a < (s : Int) → cutErr s a cs = 0 → cutErr n a (cs ++ [(s : Int)]) = 0 := by
  intro cs
  induction cs with
  | nil => intro a ha _; simp only [List.nil_append, cutErr]; rw [if_neg (by omega), if_neg (by omega)]
  | cons c cs ih =>
    intro a ha h
    simp only [cutErr] at h
    split at h
    · omega
    · split at h
      · omega
      · simp only [List.cons_append, cutErr]
        rw [if_neg (by omega), if_neg (by omega)]
        exact ih c (by omega) h
theorem cutErr_mem (n : Nat) : ∀ (cs : List Int) (a : Int), cutErr n a cs = 0 → ∀ c ∈ cs, 1 ≤ c ∧ c < (n : Int) := by
  intro cs
  induction cs with
  | nil => intro a _ c hc; cases hc
  | cons x cs ih =>
    intro a h c hc
    simp only [cutErr] at h
    split at h
    · omega
    · split at h
      · omega
      · rcases List.mem_cons.1 hc with rfl | hc
        · omega
        · exact ih x h c hc
/-- Right cuts have exactly one total. -/
theorem Cut.of (pts : List Int) (p : Int) : ∀ (k t : Nat) (c : List Int), c.length = k → 1 ≤ t → cutErr t 0 c = 0 → Cut pts p t c (p * (c.length : Int) + fw pts t 0 c) := by
  intro k
  induction k with
  | zero =>
    intro t c hc ht _
    obtain rfl : c = [] := List.length_eq_zero_iff.1 hc
    have := Cut.whole (pts := pts) (p := p) t ht
    simpa [fw] using this
  | succ k ih =>
    intro t c hc ht h
    rcases List.eq_nil_or_concat c with rfl | ⟨c', x, rfl⟩
    · simp at hc
    · have hm := cutErr_mem t _ 0 h x (by simp)
      obtain ⟨s, rfl⟩ := Int.eq_ofNat_of_zero_le (show 0 ≤ x by omega)
      simp only [List.concat_eq_append] at h hc ⊢
      have hst : s < t := by omega
      obtain ⟨h1, _, h2⟩ := cutErr_snoc t s hst c' 0 h
      have := Cut.more s t c' _ hst (ih s c' (by simpa using hc) h2 h1)
      rw [fw_snoc]
      have e : p * (c'.length : Int) + fw pts s 0 c' + p + C pts s t = p * (((c' ++ [(s : Int)]).length : Nat) : Int) + (fw pts s 0 c' + C pts s t) := by
        rw [List.length_append, List.length_singleton]; push_cast; rw [Int.mul_add]; omega
      rw [← e]
      exact this
theorem Cut.ok {pts : List Int} {p : Int} {t : Nat} {c : List Int} {n : Int} (h : Cut pts p t c n) : cutErr t 0 c = 0 := by
  induction h with
  | whole t h => rfl
  | more s t c n h1 h ih => exact cutErr_mk t s h1 h.pos c 0 (by have := h.pos; omega) ih
theorem Cut.total {l : List Int} {p : Int} {c : List Int} {n : Int} (h : Cut l p l.length c n) : n = tot l p c := h.det (Cut.of l p _ l.length c rfl h.pos h.ok)
theorem Cut.mk {l : List Int} {p : Int} {c : List Int} (hl : l ≠ []) (h : cutErr l.length 0 c = 0) : Cut l p l.length c (tot l p c) := Cut.of l p _ l.length c rfl (List.length_pos_iff.2 hl) h
/-- Parts of points. -/
def lens : List (List Int) → Nat
  | [] => 0
  | x :: r => x.length + lens r
theorem prt_ok (l : List Int) : ∀ (cs : List Int) (a : Nat), cutErr l.length a cs = 0 → a < l.length → (∀ x ∈ prt l a cs, x ≠ [] ∧ ∀ y ∈ x, y ∈ l) ∧ lens (prt l a cs) = l.length - a := by
  intro cs
  induction cs with
  | nil =>
    intro a _ ha
    refine ⟨fun x hx => ?_, ?_⟩
    · simp only [prt, List.mem_singleton] at hx
      subst hx
      exact ⟨fun e => by have := congrArg List.length e; simp at this; omega, fun y hy => List.mem_of_mem_drop hy⟩
    · simp [prt, lens]
  | cons c cs ih =>
    intro a h ha
    simp only [cutErr] at h
    split at h
    · omega
    · split at h
      · omega
      · have e : (c.toNat : Int) = c := Int.toNat_of_nonneg (by omega)
        obtain ⟨h1, h2⟩ := ih c.toNat (by rw [e]; exact h) (by omega)
        refine ⟨fun x hx => ?_, ?_⟩
        · simp only [prt, List.mem_cons] at hx
          rcases hx with rfl | hx
          · refine ⟨fun e => ?_, fun y hy => List.mem_of_mem_take (List.mem_of_mem_drop hy)⟩
            have := congrArg List.length e
            rw [List.length_drop, List.length_take] at this
            simp at this
            omega
          · exact h1 x hx
        · simp only [prt, lens, h2, List.length_drop, List.length_take]
          omega
theorem cutErr_len (n : Nat) : ∀ (cs : List Int) (a : Nat), cutErr n (a : Int) cs = 0 → a < n → a + cs.length < n := by
  intro cs
  induction cs with
  | nil => intro a _ h; simpa using h
  | cons c cs ih =>
    intro a h ha
    simp only [cutErr] at h
    split at h
    · omega
    · split at h
      · omega
      · have e : (c.toNat : Int) = c := Int.toNat_of_nonneg (by omega)
        have := ih c.toNat (by rw [e]; exact h) (by omega)
        simp only [List.length_cons]
        omega
theorem sumc_bd : ∀ (r : List (List Int)), (∀ x ∈ r, ∀ y ∈ x, -1099511627776 ≤ y ∧ y ≤ 1099511627776) → 0 ≤ sumc r ∧ sumc r ≤ 2199023255552 * (lens r : Int) := by
  intro r
  induction r with
  | nil => intro _; simp [sumc, lens]
  | cons x r ih =>
    intro h
    have h1 := ih (fun y hy => h y (List.mem_cons_of_mem _ hy))
    have h2 := cst_bd x 1099511627776 (h x List.mem_cons_self)
    have h3 := cst_nonneg x
    simp only [sumc, lens]
    push_cast
    omega
end Go.Proofs.Ytcjgmofgfblmnaa.Seg
namespace Go.Proofs.Ytcjgmofgfblmnaa.Seg
open Go.RowKit Go.Proofs.YtcjgmofgfblmnaaW.PrintWords Go.Proofs.YtcjgmofgfblmnaaW.PrintLast Go.Proofs.YtcjgmofgfblmnaaW.PrintMore Go.Proofs.Ytcjgmofgfblmnaa.Q
set_option linter.unusedVariables false
set_option linter.unusedSimpArgs false
set_option linter.unusedSimpArgs false
def bad (x : Int) : Bool := decide (x < -1099511627776) || decide (x > 1099511627776)
/-- The error of points and a penalty. -/
def chk (l : List Int) (p : Int) : Int := if l.length = 0 then 7 else if 1024 < l.length then 6 else if l.any bad then 2 else if p < 0 then 2 else if p > 1099511627776 then 2 else 0
theorem drop_any (l : List Int) (i : Nat) (h : i < l.length) : (l.drop i).any bad = (bad (l.getD i 0) || (l.drop (i + 1)).any bad) := by
  rw [List.drop_eq_getElem_cons h, List.any_cons, List.getD_eq_getElem?_getD, List.getElem?_eq_getElem h]
  rfl
theorem check_loop (l : List Int) (p : Int) (hl : l.length ≤ 1024) : ∀ (d i : Nat), l.length - i = d → i ≤ l.length →
    Ev (fun k => segmentation_Check.l0 k p l (l.length : Int) (i : Int)) (if (l.drop i).any bad then 2 else if p < 0 then 2 else if p > 1099511627776 then 2 else 0) := by
  intro d
  induction d with
  | zero =>
    intro i hd hi
    refine Ev.step (f := fun _ => some _) (fun k => ?_) (Ev.now _)
    simp only [segmentation_Check.l0]
    rw [if_neg (by omega), List.drop_eq_nil_of_le (by omega)]
    simp only [List.any_nil, Bool.false_eq_true, if_false]
    split
    · rfl
    · split <;> rfl
  | succ d ih =>
    intro i hd hi
    have h := ih (i + 1) (by omega) (by omega)
    rw [drop_any l i (by omega)]
    by_cases h1 : l.getD i 0 < -1099511627776
    · refine Ev.step (f := fun _ => some _) (fun k => ?_) (Ev.now _)
      simp only [segmentation_Check.l0]
      rw [if_pos (by omega), if_pos (by omega), if_pos (by omega), rdn, if_pos h1]
      have : bad (l.getD i 0) = true := by unfold bad; rw [decide_eq_true h1]; rfl
      rw [this]
      simp
    · by_cases h2 : l.getD i 0 > 1099511627776
      · refine Ev.step (f := fun _ => some _) (fun k => ?_) (Ev.now _)
        simp only [segmentation_Check.l0]
        rw [if_pos (by omega), if_pos (by omega), if_pos (by omega), rdn, if_neg h1, if_pos h2]
        have : bad (l.getD i 0) = true := by unfold bad; rw [decide_eq_true h2, Bool.or_true]
        rw [this]
        simp
      · have e : bad (l.getD i 0) = false := by unfold bad; rw [decide_eq_false h1, decide_eq_false h2]; rfl
        rw [e, Bool.false_or]
        refine Ev.step (fun k => ?_) h
        simp only [segmentation_Check.l0]
        rw [if_pos (by omega), if_pos (by omega), if_pos (by omega), rdn, if_neg h1, if_neg h2, w64 (by omega) (by omega)]
        rfl
theorem check_ev (l : List Int) (p : Int) : Ev (fun k => segmentation_Check.f k l p) (chk l p) := by
  unfold chk
  by_cases h0 : l.length = 0
  · refine Ev.congr (fun k => ?_) (Ev.now _)
    unfold segmentation_Check.f
    rw [if_pos (by omega), if_pos h0]
  · by_cases h1 : 1024 < l.length
    · refine Ev.congr (fun k => ?_) (Ev.now _)
      unfold segmentation_Check.f
      rw [if_neg (by omega), if_pos (by omega), if_neg h0, if_pos h1]
    · rw [if_neg h0, if_neg h1]
      refine Ev.congr (fun k => ?_) (check_loop l p (by omega) (l.length - 0) 0 rfl (Nat.zero_le _))
      unfold segmentation_Check.f
      rw [if_neg (by omega), if_neg (by omega)]
      rfl
theorem chk_ok {l : List Int} {p : Int} (h : chk l p = 0) : Pts l ∧ l ≠ [] ∧ 0 ≤ p ∧ p ≤ 1099511627776 := by
  unfold chk at h
  split at h
  · omega
  · split at h
    · omega
    · split at h
      · omega
      · rename_i h3
        split at h
        · omega
        · split at h
          · omega
          · refine ⟨⟨by omega, fun x hx => ?_⟩, by intro e; subst e; simp at *, by omega, by omega⟩
            have := fun hb => h3 (List.any_eq_true.2 ⟨x, hx, hb⟩)
            unfold bad at this
            simp at this
            omega
theorem chk_mk {l : List Int} {p : Int} (h : Pts l) (hl : l ≠ []) (h0 : 0 ≤ p) (h1 : p ≤ 1099511627776) : chk l p = 0 := by
  have h2 := List.length_pos_iff.2 hl
  have h3 := h.1
  unfold chk
  rw [if_neg (by omega), if_neg (by omega), if_neg, if_neg (by omega), if_neg (by omega)]
  intro h4
  obtain ⟨x, hx, hb⟩ := List.any_eq_true.1 h4
  have := h.2 x hx
  unfold bad at hb
  simp at hb
  omega
theorem segm_eq (all : List S108) (h : all ≠ []) (hl : all.length ≤ 1025) (hc : (all.getD (all.length - 1) z108).f1.length ≤ 1024) :
    segmentation_segmentation.f all = some ((all.getD (all.length - 1) z108).f1, (all.getD (all.length - 1) z108).f0) := by
  have h1 := List.length_pos_iff.2 h
  have e : wrap64 ((all.length : Int) - 1) = ((all.length - 1 : Nat) : Int) := by rw [w64 (by omega) (by omega)]; omega
  have ea : rd_T108 all ((all.length - 1 : Nat) : Int) = all.getD (all.length - 1) z108 := rfl
  unfold segmentation_segmentation.f slices_Clone_int_int.f
  rw [e, if_pos (by omega), if_pos (by omega), ea, if_pos (by omega)]
  rfl
/-- Best. -/
theorem best_ev (l : List Int) (p : Int) (h : chk l p = 0) : ∃ n c, Best l p l.length n c ∧ Ev (fun k => segmentation_Best.f k l p) (c, n, 0) := by
  obtain ⟨hP, hl, h0, h1⟩ := chk_ok h
  have hll := hP.1
  obtain ⟨all, asked, hev, h2, h3⟩ := solve_ev l p hP h0 h1
  have h4 : Row l p l.length (all.getD l.length z108).f0 (all.getD l.length z108).f1 := h3 l.length (by omega)
  rcases h4 with ⟨e, _, _⟩ | h4
  · exact absurd (List.length_eq_zero_iff.1 e) hl
  · have h5 := h4.cut.len
    refine ⟨_, _, h4, ?_⟩
    have e : all.length - 1 = l.length := by omega
    have := Ev.bind (f := fun k bt208 => (segmentation_segmentation.f bt208.1).bind fun bt212 => some (bt212.1, bt212.2, (0 : Int))) hev
      (Ev.congr (fun k => by simp only []; rw [segm_eq all (by intro e; subst e; simp at h2) (by omega) (by rw [e]; omega), e]; rfl) (Ev.now ((all.getD l.length z108).f1, (all.getD l.length z108).f0, (0 : Int))))
    have hc := check_ev l p
    rw [h] at hc
    refine Ev.congr (fun k => ?_) (Ev.bind (f := fun k t207 => if t207 = 0 then ((segmentation_solve.f k l p false).bind fun bt208 => ((segmentation_segmentation.f bt208.1).bind fun bt212 => (some (bt212.1, bt212.2, (0 : Int))))) else (some (([] : List Int), 0, t207))) hc (Ev.congr (fun k => if_pos rfl) this))
    rfl
theorem best_err (l : List Int) (p : Int) (h : chk l p ≠ 0) : Ev (fun k => segmentation_Best.f k l p) ([], 0, chk l p) := by
  refine Ev.congr (fun k => ?_) (Ev.bind (f := fun k t207 => if t207 = 0 then ((segmentation_solve.f k l p false).bind fun bt208 => ((segmentation_segmentation.f bt208.1).bind fun bt212 => (some (bt212.1, bt212.2, (0 : Int))))) else (some (([] : List Int), 0, t207))) (check_ev l p) (Ev.congr (fun k => if_neg h) (Ev.now _)))
  rfl
/-- Potentials. -/
theorem median_eq (l : List Int) (hl : l ≠ []) (hb : l.length ≤ 1024) : segmentation_median.f l = some (med l) := by
  have h1 := List.length_pos_iff.2 hl
  have e : wrap64 (Int.tdiv (wrap64 ((l.length : Int) - 1)) 2) = (((l.length - 1) / 2 : Nat) : Int) := by
    have e1 : wrap64 ((l.length : Int) - 1) = ((l.length - 1 : Nat) : Int) := by rw [w64 (by omega) (by omega)]; omega
    rw [e1]
    have e2 : Int.tdiv ((l.length - 1 : Nat) : Int) 2 = (((l.length - 1) / 2 : Nat) : Int) := by
      rw [Int.tdiv_eq_ediv_of_nonneg (by omega)]; omega
    rw [e2, w64 (by omega) (by omega)]
  unfold segmentation_median.f slices_Clone_int_int.f slices_Sort_int_int.f
  rw [if_pos (by omega)]
  simp only [Option.bind_some]
  rw [if_pos (by omega)]
  simp only [Option.bind_some]
  rw [e, if_pos (by omega), if_pos (by omega)]
  rfl
theorem mx_eq (x m : Int) (hx : -1099511627776 ≤ x ∧ x ≤ 1099511627776) (hm : -1099511627776 ≤ m ∧ m ≤ 1099511627776) : mx (wrap64 (x - m)) (wrap64 (m - x)) = max (x - m) (m - x) := by
  rw [w64 (x := x - m) (by omega) (by omega), w64 (x := m - x) (by omega) (by omega)]
  unfold mx
  split <;> omega
theorem dev_bd (l : List Int) (m : Int) (h : ∀ x ∈ l, -1099511627776 ≤ x ∧ x ≤ 1099511627776) (hm : -1099511627776 ≤ m ∧ m ≤ 1099511627776) : dev l m ≤ 2199023255552 * (l.length : Int) := by
  induction l with
  | nil => simp [dev]
  | cons x l ih =>
    have hx := h x List.mem_cons_self
    have := ih (fun y hy => h y (List.mem_cons_of_mem _ hy))
    simp only [dev, List.length_cons]
    push_cast
    rw [Int.mul_add]
    omega
theorem dev_drop (l : List Int) (m : Int) (i : Nat) (h : i < l.length) : dev (l.drop i) m = max (l.getD i 0 - m) (m - l.getD i 0) + dev (l.drop (i + 1)) m := by
  rw [List.drop_eq_getElem_cons h, List.getD_eq_getElem?_getD, List.getElem?_eq_getElem h]
  rfl
theorem med_bd {l : List Int} (hP : Pts l) (hl : l ≠ []) : -1099511627776 ≤ med l ∧ med l ≤ 1099511627776 := hP.2 _ (med_mem l hl)
end Go.Proofs.Ytcjgmofgfblmnaa.Seg
namespace Go.Proofs.Ytcjgmofgfblmnaa.Seg
open Go.RowKit Go.Proofs.YtcjgmofgfblmnaaW.PrintWords Go.Proofs.YtcjgmofgfblmnaaW.PrintLast Go.Proofs.YtcjgmofgfblmnaaW.PrintMore Go.Proofs.Ytcjgmofgfblmnaa.Q
set_option linter.unusedVariables false
set_option linter.unusedSimpArgs false
set_option linter.unusedSimpArgs false
theorem drop_cons (l : List Int) (i : Nat) (h : i < l.length) : l.drop i = l.getD i 0 :: l.drop (i + 1) := by
  rw [List.drop_eq_getElem_cons h, List.getD_eq_getElem?_getD, List.getElem?_eq_getElem h]
  rfl
theorem cuts_loop (l cuts : List Int) (hl : l.length ≤ 1024) (hc : cuts.length ≤ 1099511627776) : ∀ (d i : Nat), cuts.length - i = d → i ≤ cuts.length →
    Ev (fun k => segmentation_checkCuts.l0 k l cuts cuts (cuts.length : Int) (i : Int)) (cutErr l.length (if i = 0 then 0 else cuts.getD (i - 1) 0) (cuts.drop i)) := by
  intro d
  induction d with
  | zero =>
    intro i hd hi
    refine Ev.step (f := fun _ => some _) (fun k => ?_) (Ev.now _)
    simp only [segmentation_checkCuts.l0]
    rw [if_neg (by omega), List.drop_eq_nil_of_le (by omega)]
    rfl
  | succ d ih =>
    intro i hd hi
    have hlt : i < cuts.length := by omega
    have next := ih (i + 1) (by omega) (by omega)
    rw [if_neg (by omega), Nat.add_sub_cancel] at next
    rw [drop_cons cuts i hlt]
    simp only [cutErr]
    have ew : wrap64 ((i : Int) + 1) = ((i + 1 : Nat) : Int) := by rw [w64 (by omega) (by omega)]; omega
    by_cases h1 : cuts.getD i 0 < 1
    · rw [if_pos (by omega)]
      refine Ev.step (f := fun k => segmentation_checkCuts.j1 k l cuts (i : Int) (cuts.getD i 0) cuts (cuts.length : Int) (i : Int) true) (fun k => ?_) (Ev.step (f := fun _ => some 2) (fun k => ?_) (Ev.now _))
      · simp only [segmentation_checkCuts.l0]
        rw [if_pos (by omega), if_pos (by omega), if_pos (by omega), rdn, if_pos h1]
      · simp only [segmentation_checkCuts.j1]
        rw [if_pos trivial]
    · by_cases h2 : (l.length : Int) ≤ cuts.getD i 0
      · rw [if_pos (.inr h2)]
        refine Ev.step (f := fun k => segmentation_checkCuts.j1 k l cuts (i : Int) (cuts.getD i 0) cuts (cuts.length : Int) (i : Int) true) (fun k => ?_) (Ev.step (f := fun _ => some 2) (fun k => ?_) (Ev.now _))
        · simp only [segmentation_checkCuts.l0]
          rw [if_pos (by omega), if_pos (by omega), if_pos (by omega), rdn, if_neg h1, decide_eq_true (by omega)]
        · simp only [segmentation_checkCuts.j1]
          rw [if_pos trivial]
      · rw [if_neg (by omega)]
        refine Ev.step (f := fun k => segmentation_checkCuts.j1 k l cuts (i : Int) (cuts.getD i 0) cuts (cuts.length : Int) (i : Int) false) (fun k => ?_) ?_
        · simp only [segmentation_checkCuts.l0]
          rw [if_pos (by omega), if_pos (by omega), if_pos (by omega), rdn, if_neg h1, decide_eq_false (by omega)]
        · by_cases hz : i = 0
          · subst hz
            rw [if_pos rfl, if_neg (by omega)]
            refine Ev.step (fun k => ?_) next
            simp only [segmentation_checkCuts.j1]
            rw [if_neg (by decide), if_neg (by omega), ew]
          · rw [if_neg hz]
            have e1 : wrap64 ((i : Int) - 1) = ((i - 1 : Nat) : Int) := by rw [w64 (by omega) (by omega)]; omega
            by_cases h3 : cuts.getD i 0 ≤ cuts.getD (i - 1) 0
            · rw [if_pos h3]
              refine Ev.step (f := fun _ => some 8) (fun k => ?_) (Ev.now _)
              simp only [segmentation_checkCuts.j1]
              rw [if_neg (by decide), if_pos (by omega), e1, if_pos (by omega), if_pos (by omega), rdn, if_pos h3]
            · rw [if_neg h3]
              refine Ev.step (fun k => ?_) next
              simp only [segmentation_checkCuts.j1]
              rw [if_neg (by decide), if_pos (by omega), e1, if_pos (by omega), if_pos (by omega), rdn, if_neg h3, ew]
theorem cuts_ev (l cuts : List Int) (hl : l.length ≤ 1024) (hc : cuts.length ≤ 1099511627776) : Ev (fun k => segmentation_checkCuts.f k l cuts) (cutErr l.length 0 cuts) := by
  have := cuts_loop l cuts hl hc (cuts.length - 0) 0 rfl (Nat.zero_le _)
  exact this
theorem parts_loop (l cuts : List Int) (hl : l.length ≤ 1024) (hc : cuts.length ≤ 1024) : ∀ (d i a : Nat) (out : List (List Int)), cuts.length - i = d → i ≤ cuts.length → cutErr l.length (a : Int) (cuts.drop i) = 0 → a ≤ l.length → out.length + d ≤ 2048 →
    Ev (fun k => segmentation_parts.l0 k l out (a : Int) cuts (cuts.length : Int) (i : Int)) (out ++ prt l a (cuts.drop i)) := by
  intro d
  induction d with
  | zero =>
    intro i a out hd hi he ha ho
    refine Ev.step (f := fun _ => some _) (fun k => ?_) (Ev.now _)
    simp only [segmentation_parts.l0]
    rw [if_neg (by omega), if_pos (by omega), if_pos (by omega), if_pos (by omega), List.drop_eq_nil_of_le (by omega : cuts.length ≤ i)]
    rfl
  | succ d ih =>
    intro i a out hd hi he ha ho
    have hlt : i < cuts.length := by omega
    rw [drop_cons cuts i hlt] at he ⊢
    simp only [cutErr] at he
    split at he
    · omega
    · split at he
      · omega
      · obtain ⟨c, hcc⟩ := Int.eq_ofNat_of_zero_le (show 0 ≤ cuts.getD i 0 by omega)
        rw [hcc] at he ⊢
        have := ih (i + 1) c (out ++ [(l.take c).drop a]) (by omega) (by omega) he (by omega) (by simp; omega)
        simp only [prt, Int.toNat_natCast]
        rw [List.append_assoc] at this
        refine Ev.step (fun k => ?_) this
        simp only [segmentation_parts.l0]
        rw [if_pos (by omega), if_pos (by omega), if_pos (by omega), if_pos (by omega), rdn, hcc, if_pos (by omega), if_pos (by omega), if_pos (by omega), w64 (by omega) (by omega)]
        rfl
theorem parts_ev (l cuts : List Int) (hl : l.length ≤ 1024) (hc : cuts.length ≤ 1024) (he : cutErr l.length 0 cuts = 0) : Ev (fun k => segmentation_parts.f k l cuts) (prt l 0 cuts) := by
  have := parts_loop l cuts hl hc (cuts.length - 0) 0 0 [] rfl (Nat.zero_le _) he (Nat.zero_le _) (by simp; omega)
  exact this
theorem dropL_cons (l : List (List Int)) (i : Nat) (h : i < l.length) : l.drop i = l.getD i [] :: l.drop (i + 1) := by
  rw [List.drop_eq_getElem_cons h, List.getD_eq_getElem?_getD, List.getElem?_eq_getElem h]
  rfl
theorem memL (l : List (List Int)) (i : Nat) (h : i < l.length) : l.getD i [] ∈ l := by
  rw [List.getD_eq_getElem?_getD, List.getElem?_eq_getElem h]; exact List.getElem_mem h
def GoodParts (r : List (List Int)) : Prop := ∀ x ∈ r, x ≠ [] ∧ Pts x
theorem good_prt {l cuts : List Int} (hP : Pts l) (hl : l ≠ []) (he : cutErr l.length 0 cuts = 0) : GoodParts (prt l 0 cuts) ∧ lens (prt l 0 cuts) = l.length := by
  obtain ⟨h1, h2⟩ := prt_ok l cuts 0 he (List.length_pos_iff.2 hl)
  have h3 : ∀ (r : List (List Int)) (x : List Int), x ∈ r → x.length ≤ lens r := by
    intro r
    induction r with
    | nil => intro x hx; cases hx
    | cons y r ih =>
      intro x hx
      simp only [lens]
      rcases List.mem_cons.1 hx with rfl | hx
      · omega
      · have := ih x hx; omega
  refine ⟨fun x hx => ⟨(h1 x hx).1, ⟨?_, fun y hy => hP.2 y ((h1 x hx).2 y hy)⟩⟩, by omega⟩
  have := h3 _ x hx
  have := hP.1
  omega
end Go.Proofs.Ytcjgmofgfblmnaa.Seg
namespace Go.Proofs.Ytcjgmofgfblmnaa.Seg
open Go.RowKit Go.Proofs.YtcjgmofgfblmnaaW.PrintWords Go.Proofs.YtcjgmofgfblmnaaW.PrintLast Go.Proofs.YtcjgmofgfblmnaaW.PrintMore Go.Proofs.Ytcjgmofgfblmnaa.Q
set_option linter.unusedVariables false
set_option linter.unusedSimpArgs false
set_option linter.unusedSimpArgs false
theorem Ev.same {α : Type} {g : Nat → Option α} {r s : α} (h : Ev g r) (h' : Ev g s) : r = s := by
  obtain ⟨a, ha⟩ := h
  obtain ⟨b, hb⟩ := h'
  have h1 := ha (max a b) (by omega)
  have h2 := hb (max a b) (by omega)
  rw [h1] at h2
  exact Option.some.inj h2
theorem levels_loop (r : List (List Int)) (hr : GoodParts r) (hl : r.length ≤ 2048) : ∀ (d i : Nat) (out : List Int), r.length - i = d → i ≤ r.length → out.length = i →
    Ev (fun k => segmentation_Levels.l0 k out r (r.length : Int) (i : Int)) (out ++ (r.drop i).map med, 0) := by
  intro d
  induction d with
  | zero =>
    intro i out hd hi ho
    refine Ev.step (f := fun _ => some _) (fun k => ?_) (Ev.now _)
    simp only [segmentation_Levels.l0]
    rw [if_neg (by omega), List.drop_eq_nil_of_le (by omega)]
    simp
  | succ d ih =>
    intro i out hd hi ho
    have hlt : i < r.length := by omega
    obtain ⟨g1, g2⟩ := hr _ (memL r i hlt)
    rw [dropL_cons r i hlt, List.map_cons]
    have := ih (i + 1) (out ++ [med (r.getD i [])]) (by omega) (by omega) (by simp [ho])
    rw [List.append_assoc] at this
    refine Ev.step (fun k => ?_) this
    have e : segmentation_median.f (rd_L2 r (i : Int)) = some (med (r.getD i [])) := median_eq _ g1 g2.1
    simp only [segmentation_Levels.l0]
    rw [if_pos (by omega), if_pos (by omega), if_pos (by omega), e, Option.bind_some, if_pos (by omega), w64 (x := (i : Int) + 1) (by omega) (by omega)]
    rfl
theorem levels_ev (l cuts : List Int) (p : Int) (h : chk l p = 0) (hc : cuts.length ≤ 1024) : Ev (fun k => segmentation_Levels.f k l cuts) (if cutErr l.length 0 cuts = 0 then ((prt l 0 cuts).map med, 0) else ([], cutErr l.length 0 cuts)) := by
  obtain ⟨hP, hl, h0, h1⟩ := chk_ok h
  have h00 : chk l 0 = 0 := chk_mk hP hl (by decide) (by decide)
  have hk := check_ev l 0
  rw [h00] at hk
  have he := cuts_ev l cuts hP.1 (by omega)
  unfold segmentation_Levels.f
  refine Ev.bind hk ?_
  simp only [if_true]
  refine Ev.bind he ?_
  by_cases e : cutErr l.length 0 cuts = 0
  · rw [if_pos e]
    obtain ⟨g1, g2⟩ := good_prt hP hl e
    have hpl := prt_length l cuts 0
    have := levels_loop (prt l 0 cuts) g1 (by omega) _ 0 [] rfl (Nat.zero_le _) rfl
    rw [List.drop_zero, List.nil_append] at this
    have hpe := parts_ev l cuts hP.1 hc e
    refine Ev.congr (fun k => if_pos e) ?_
    exact Ev.bind hpe this
  · rw [if_neg e]
    exact Ev.congr (fun k => if_neg e) (Ev.now _)

/-! Of. -/
def mkCh (s5 : Int) (c lev : List Int) : List S41 := (List.range c.length).map fun i => ⟨wrap64 (s5 + c.getD i 0), lev.getD i 0, lev.getD (i + 1) 0⟩
theorem mkCh_length (s5 : Int) (c lev : List Int) : (mkCh s5 c lev).length = c.length := by simp [mkCh]
theorem mkCh_get (s5 : Int) (c lev : List Int) (i : Nat) (h : i < c.length) : rd_T41 (mkCh s5 c lev) (i : Int) = ⟨wrap64 (s5 + c.getD i 0), lev.getD i 0, lev.getD (i + 1) 0⟩ := by
  show (mkCh s5 c lev).getD i z41 = _
  rw [List.getD_eq_getElem?_getD, List.getElem?_eq_getElem (by rw [mkCh_length]; exact h)]
  simp [mkCh]
theorem of_loop (lev c : List Int) (hl : lev.length = c.length + 1) (hc : c.length ≤ 1024) (s0 s1 : ByteArray) (s2 s3 s4 s5 : Int) (l : List Int) : ∀ (d i : Nat), c.length - i = d → i ≤ c.length →
    Ev (fun k => changepoint_Of.l0 k lev ((mkCh s5 c lev).take i) c (c.length : Int) (i : Int) s0 s1 s2 s3 s4 s5 l) (mkCh s5 c lev, 0) := by
  intro d
  induction d with
  | zero =>
    intro i hd hi
    refine Ev.step (f := fun _ => some _) (fun k => ?_) (Ev.now _)
    simp only [changepoint_Of.l0]
    rw [if_neg (by omega), List.take_of_length_le (by rw [mkCh_length]; omega)]
  | succ d ih =>
    intro i hd hi
    have hlt : i < c.length := by omega
    have h1 := ih (i + 1) (by omega) (by omega)
    have e : (mkCh s5 c lev).take (i + 1) = (mkCh s5 c lev).take i ++ [⟨wrap64 (s5 + c.getD i 0), lev.getD i 0, lev.getD (i + 1) 0⟩] := by
      rw [List.take_succ_eq_append_getElem (by rw [mkCh_length]; exact hlt)]
      congr 1
      simp [mkCh]
    rw [e] at h1
    refine Ev.step (fun k => ?_) h1
    have hw : wrap64 ((i : Int) + 1) = ((i + 1 : Nat) : Int) := by rw [w64 (by omega) (by omega)]; omega
    simp only [changepoint_Of.l0]
    rw [hw, if_pos (by omega), if_pos (by omega), if_pos (by omega), if_pos (by omega), if_pos (by omega), if_pos (by omega), if_pos (by rw [List.length_take, mkCh_length]; omega)]
    rfl
theorem of_ok {s0 s1 : ByteArray} {s2 s3 s4 s5 : Int} {l : List Int} {p n : Int} {c lev : List Int} (hs : Ev (fun k => series_Check.f k s0 s1 s2 s3 s4 s5 l) 0) (h : chk l p = 0) (hb : Ev (fun k => segmentation_Best.f k l p) (c, n, 0))
    (hv : Ev (fun k => segmentation_Levels.f k l c) (lev, 0)) (hl : lev.length = c.length + 1) (hc : c.length ≤ 1024) : Ev (fun k => changepoint_Of.f k s0 s1 s2 s3 s4 s5 l p) (mkCh s5 c lev, 0) := by
  have hk := check_ev l p
  rw [h] at hk
  unfold changepoint_Of.f
  refine Ev.bind hs ?_
  simp only [if_true]
  refine Ev.bind hk ?_
  simp only [if_true]
  refine Ev.bind hb ?_
  simp only [if_true]
  refine Ev.bind hv ?_
  simp only [if_true]
  exact of_loop lev c hl hc s0 s1 s2 s3 s4 s5 l _ 0 rfl (Nat.zero_le _)
theorem of_bad1 {s0 s1 : ByteArray} {s2 s3 s4 s5 : Int} {l : List Int} {p sc : Int} (hs : Ev (fun k => series_Check.f k s0 s1 s2 s3 s4 s5 l) sc) (h : sc ≠ 0) : Ev (fun k => changepoint_Of.f k s0 s1 s2 s3 s4 s5 l p) ([], sc) := by
  unfold changepoint_Of.f
  refine Ev.bind hs ?_
  exact Ev.congr (fun k => if_neg h) (Ev.now _)
theorem of_bad2 {s0 s1 : ByteArray} {s2 s3 s4 s5 : Int} {l : List Int} {p : Int} (hs : Ev (fun k => series_Check.f k s0 s1 s2 s3 s4 s5 l) 0) (h : chk l p ≠ 0) : Ev (fun k => changepoint_Of.f k s0 s1 s2 s3 s4 s5 l p) ([], chk l p) := by
  unfold changepoint_Of.f
  refine Ev.bind hs ?_
  simp only [if_true]
  refine Ev.bind (check_ev l p) ?_
  exact Ev.congr (fun k => if_neg h) (Ev.now _)
/-- What Of finds where nothing is wrong. -/
theorem found (l : List Int) (p : Int) (h : chk l p = 0) : ∃ n c lev, Ev (fun k => segmentation_Best.f k l p) (c, n, 0) ∧ Ev (fun k => segmentation_Levels.f k l c) (lev, 0) ∧ lev.length = c.length + 1 ∧ c.length ≤ 1024 := by
  obtain ⟨n, c, hB, e1⟩ := best_ev l p h
  obtain ⟨hP, hl, h0, h1⟩ := chk_ok h
  have hlen := hB.cut.len
  have hP1 := hP.1
  have hv := levels_ev l c p h (by omega)
  rw [if_pos hB.cut.ok] at hv
  exact ⟨n, c, _, e1, hv, by rw [List.length_map, prt_length], by omega⟩
theorem levels_nil (l : List Int) : ∃ r, Ev (fun k => segmentation_Levels.f k l []) r := by
  by_cases h : chk l 0 = 0
  · exact ⟨_, levels_ev l [] 0 h (by simp)⟩
  · refine ⟨([], chk l 0), ?_⟩
    unfold segmentation_Levels.f
    exact Ev.bind (check_ev l 0) (Ev.congr (fun k => if_neg h) (Ev.now _))
/-! points. -/
def ptv (l : List Int) : List Int := (l.take 14).map wrap64
theorem points_loop (l : List Int) (s0 s1 : ByteArray) (s2 s3 s4 s5 : Int) : ∀ (d i : Nat), min l.length 14 - i = d → i ≤ min l.length 14 →
    Ev (fun k => sleuthlaw45_points.l0 k l (i : Int) s0 s1 s2 s3 s4 s5 ((ptv l).take i)) (s0, s1, s2, s3, s4, s5, ptv l) := by
  have hpl : (ptv l).length = min l.length 14 := by unfold ptv; rw [List.length_map, List.length_take]; omega
  intro d
  induction d with
  | zero =>
    intro i hd hi
    refine Ev.step (f := fun _ => some _) (fun k => ?_) (Ev.now _)
    simp only [sleuthlaw45_points.l0]
    rw [List.take_of_length_le (by omega)]
    by_cases h : (i : Int) < (l.length : Int)
    · rw [if_pos h, if_neg (by omega)]
    · rw [if_neg h]
  | succ d ih =>
    intro i hd hi
    have h1 := ih (i + 1) (by omega) (by omega)
    have e : (ptv l).take (i + 1) = (ptv l).take i ++ [wrap64 (l.getD i 0)] := by
      rw [List.take_succ_eq_append_getElem (by omega)]
      congr 1
      simp only [ptv, List.getElem_map, List.getElem_take]
      rw [List.getD_eq_getElem?_getD, List.getElem?_eq_getElem (by omega)]
      rfl
    rw [e] at h1
    refine Ev.step (fun k => ?_) h1
    have hw : wrap64 ((i : Int) + 1) = ((i + 1 : Nat) : Int) := by rw [w64 (by omega) (by omega)]; omega
    simp only [sleuthlaw45_points.l0]
    rw [hw, if_pos (by omega), if_pos (by omega), if_pos (by omega), if_pos (by rw [List.length_take]; omega)]
    rfl
def api : ByteArray := ⟨#[97, 112, 105]⟩
theorem points_ev (a0 : Int) (l : List Int) : Ev (fun k => sleuthlaw45_points.f k a0 l) (api, ⟨#[]⟩, 1, 0, 0, wrap64 a0, ptv l) := by
  have h := points_loop l api ⟨#[]⟩ 1 0 0 (wrap64 a0) _ 0 rfl (Nat.zero_le _)
  exact h
theorem name_api : Ev (fun k => attribute_IsName.f k api) true := Ev.of (fun k => attribute_IsName.mono api k) (show attribute_IsName.f 20 api = some true by kernel_rfl)
/-- series.Check of such points. -/
theorem series_points (a0 : Int) (l : List Int) (h0 : 0 ≤ a0) (h1 : a0 ≤ 255) (hl : l.length ≤ 14) (hx : ∀ x ∈ l, 0 ≤ x ∧ x ≤ 255) : Ev (fun k => series_Check.f k api ⟨#[]⟩ 1 0 0 a0 l) 0 := by
  have hb : l.any HandC.bad = false := by
    rw [List.any_eq_false]
    intro x hm
    have := hx x hm
    unfold HandC.bad
    simp
    omega
  unfold series_Check.f
  refine Ev.bind name_api ?_
  simp only [if_true]
  refine Ev.congr (fun k => if_pos (show (⟨#[]⟩ : ByteArray).toList = [] by unfold ByteArray.toList ByteArray.toList.loop; rfl)) ?_
  refine Ev.step (f := fun k => series_Check.j1 k false api ⟨#[]⟩ 1 0 0 a0 l) (fun k => by simp only [series_Check.j0]; rfl) ?_
  refine Ev.step (f := fun k => series_Check.j2 k false api ⟨#[]⟩ 1 0 0 a0 l) (fun k => by simp only [series_Check.j1]; rfl) ?_
  refine Ev.step (f := fun k => series_Check.j3 k false api ⟨#[]⟩ 1 0 0 a0 l) (fun k => by
    simp only [series_Check.j2]
    rw [if_neg (by decide), if_neg (by omega), show decide (a0 > 1048576) = false from decide_eq_false (by omega)]) ?_
  refine Ev.step (f := fun _ => some 0) (fun k => ?_) (Ev.now _)
  simp only [series_Check.j3]
  rw [if_neg (by decide), if_neg (by omega), if_neg (by rw [w64 (by omega) (by omega)]; omega)]
  unfold slices_ContainsFunc_int_int.f
  rw [hb]
  rfl
/-! The example. -/
theorem med_sorted (l : List Int) (h : l.Pairwise (· ≤ ·)) : med l = l.getD ((l.length - 1) / 2) 0 := by
  unfold med
  rw [List.mergeSort_of_pairwise (h.imp (fun h => by simpa using h))]
theorem k_best : segmentation_Best.f 60 [5, 5, 6, 20, 21] 4 = some ([3], 6, 0) := by kernel_rfl
theorem k_test : changepoint_Test.f [1, 2] [5, 6] = some (2, 6, 0) := by kernel_rfl
theorem k_match : changepoint_Match.f [⟨10, 0, 1⟩, ⟨20, 0, 1⟩] [⟨12, 0, 1⟩, ⟨19, 0, 1⟩] 1 = some ([⟨1, 1⟩], 0) := by kernel_rfl
theorem k_of : Ev (fun k => changepoint_Of.f k api ⟨#[]⟩ 1 0 0 100 [5, 5, 6, 20, 21] 4) ([⟨103, 5, 20⟩], 0) := by
  have hc : chk [5, 5, 6, 20, 21] 4 = 0 := by decide
  have hb := Ev.of (fun k => segmentation_Best.mono [5, 5, 6, 20, 21] 4 k) k_best
  have hv := levels_ev [5, 5, 6, 20, 21] [3] 4 hc (by decide)
  rw [if_pos (by decide), show prt [5, 5, 6, 20, 21] 0 [3] = [[5, 5, 6], [20, 21]] from rfl] at hv
  simp only [List.map_cons, List.map_nil] at hv
  rw [med_sorted [5, 5, 6] (by decide), med_sorted [20, 21] (by decide)] at hv
  have hs := series_points 100 [5, 5, 6, 20, 21] (by decide) (by decide) (by decide) (by decide)
  have h := of_ok hs hc hb hv rfl (by decide)
  exact (show (mkCh 100 [3] [[5, 5, 6].getD ((([5, 5, 6] : List Int).length - 1) / 2) 0, [20, 21].getD ((([20, 21] : List Int).length - 1) / 2) 0]) = [⟨103, 5, 20⟩] by kernel_rfl) ▸ h
theorem k_j0 : sleuthlaw45_known.j0 4 [⟨103, 5, 20⟩] 0 2 6 0 [⟨1, 1⟩] 0 = some true := by kernel_rfl
theorem known_ev : Ev (fun k => sleuthlaw45_known.f k) true := by
  have hp : Ev (fun k => sleuthlaw45_points.f k 100 [5, 5, 6, 20, 21]) (api, ⟨#[]⟩, 1, 0, 0, 100, [5, 5, 6, 20, 21]) := by
    have h := points_ev 100 [5, 5, 6, 20, 21]
    rw [show ptv [5, 5, 6, 20, 21] = [5, 5, 6, 20, 21] by kernel_rfl, show wrap64 100 = 100 by kernel_rfl] at h
    exact h
  unfold sleuthlaw45_known.f
  refine Ev.bind hp ?_
  refine Ev.bind k_of ?_
  rw [k_test, k_match]
  simp only [Option.bind_some]
  exact Ev.of (fun k => sleuthlaw45_known.mono_l k _ _ _ _ _ _ _) k_j0
theorem u8_bd {x : Int} (h : (Lit.int .u8 x).wf = true) : 0 ≤ x ∧ x ≤ 255 := by
  simp only [Lit.wf, IntKind.min, IntKind.max, IntKind.signed, IntKind.bits, Bool.and_eq_true, decide_eq_true_eq] at h
  simpa using h
theorem ptv_ok (l : List Int) (hx : ∀ x ∈ l, 0 ≤ x ∧ x ≤ 255) : (ptv l).length ≤ 14 ∧ ∀ x ∈ ptv l, 0 ≤ x ∧ x ≤ 255 := by
  unfold ptv
  refine ⟨by rw [List.length_map, List.length_take]; omega, fun x hm => ?_⟩
  obtain ⟨y, hy, rfl⟩ := List.mem_map.1 hm
  have := hx y (List.mem_of_mem_take hy)
  rw [w64 (by omega) (by omega)]
  omega
end Go.Proofs.Ytcjgmofgfblmnaa.Seg
