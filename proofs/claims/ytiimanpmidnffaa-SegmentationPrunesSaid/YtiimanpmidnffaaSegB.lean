/- What the printed functions of segmentation compute, part B: binary search, the costs of all parts that end at an index. -/
import Derived.Test.YtiimanpmidnffaaSegA
import Derived.Test.YtiimanpmidnffaaQx2
namespace Go.Proofs.Ytiimanpmidnffaa.Seg
open Go.RowKit Go.Proofs.YtiimanpmidnffaaW.PrintWords Go.Proofs.YtiimanpmidnffaaW.PrintLast Go.Proofs.YtiimanpmidnffaaW.PrintMore Go.Proofs.Ytiimanpmidnffaa.Q
set_option linter.unusedVariables false
set_option linter.unusedSimpArgs false
theorem w64 {x : Int} (h1 : -9223372036854775808 ≤ x) (h2 : x ≤ 9223372036854775807) : wrap64 x = x := by unfold wrap64; omega
theorem rdn (xs : List Int) (i : Nat) : rd xs (i : Int) = xs.getD i 0 := rfl
theorem getD_mem {xs : List Int} {i : Nat} (h : i < xs.length) : xs.getD i 0 ∈ xs := by
  rw [List.getD_eq_getElem?_getD, List.getElem?_eq_getElem h]; exact List.getElem_mem h
theorem u64mid (i j : Nat) (h : i + j < 4611686018427387904) : wrap64 ((IntKind.u64.wrap (wrap64 ((i : Int) + (j : Int)))) / 2) = (((i + j) / 2 : Nat) : Int) := by
  have e1 : wrap64 ((i : Int) + (j : Int)) = (i : Int) + j := w64 (by omega) (by omega)
  have : IntKind.u64.wrap ((i : Int) + (j : Int)) = (i : Int) + j := by
    simp [IntKind.wrap, IntKind.bits, IntKind.signed]
    omega
  rw [e1, this, w64 (by omega) (by omega)]
  omega
theorem bs_loop (xs : List Int) (x : Int) (hs : xs.Pairwise (· ≤ ·)) (hn : xs.length ≤ 1099511627776) : ∀ (d i j : Nat), j - i = d → i ≤ j → j ≤ xs.length →
    (∀ q, q < i → xs.getD q 0 < x) → (∀ q, j ≤ q → q < xs.length → x ≤ xs.getD q 0) →
    ∃ (p : Nat) (b : Bool), Ev (fun k => slices_BinarySearch_int_int.l0 k xs x (xs.length : Int) i j) ((p : Int), b) ∧ p ≤ xs.length ∧ (∀ q, q < p → xs.getD q 0 < x) ∧ (∀ q, p ≤ q → q < xs.length → x ≤ xs.getD q 0) := by
  intro d
  induction d using Nat.strongRecOn with
  | _ d ih =>
  intro i j hd hij hj hlo hhi
  by_cases h : i < j
  · have hm := u64mid i j (by omega)
    generalize hmd : (i + j) / 2 = m at hm
    have hmi : i ≤ m := by omega
    have hmj : m < j := by omega
    have hsort : ∀ a b : Nat, a ≤ b → b < xs.length → xs.getD a 0 ≤ xs.getD b 0 := by
      intro a b hab hb
      rcases Nat.eq_or_lt_of_le hab with rfl | hlt
      · exact Int.le_refl _
      · rw [List.getD_eq_getElem?_getD, List.getD_eq_getElem?_getD, List.getElem?_eq_getElem (by omega), List.getElem?_eq_getElem hb]
        exact List.pairwise_iff_getElem.1 hs a b (by omega) hb hlt
    by_cases hlt : xs.getD m 0 < x
    · obtain ⟨p, b, hev, hp⟩ := ih (j - (m + 1)) (by omega) (m + 1) j rfl (by omega) hj (fun q hq => by
        have := hsort q m (by omega) (by omega); omega) hhi
      refine ⟨p, b, Ev.step (fun k => ?_) hev, hp⟩
      simp only [slices_BinarySearch_int_int.l0]
      rw [if_pos (by omega), hm, if_pos (by omega), if_pos (by omega)]
      simp only [cmp_Less_int.f, cmp_isNaN_int.f, Option.bind_some, rdn, bne_self_eq_false, Bool.false_eq_true, if_false, hlt, decide_true, if_true]
      rw [w64 (by omega) (by omega)]
      rfl
    · obtain ⟨p, b, hev, hp⟩ := ih (m - i) (by omega) i m rfl hmi (by omega) hlo (fun q hq hq2 => by
        have := hsort m q hq hq2; omega)
      refine ⟨p, b, Ev.step (fun k => ?_) hev, hp⟩
      simp only [slices_BinarySearch_int_int.l0]
      rw [if_pos (by omega), hm, if_pos (by omega), if_pos (by omega)]
      simp only [cmp_Less_int.f, cmp_isNaN_int.f, Option.bind_some, rdn, bne_self_eq_false, Bool.false_eq_true, if_false, hlt, decide_false]
  · have e : i = j := by omega
    subst e
    by_cases h2 : i < xs.length
    · by_cases h3 : xs.getD i 0 = x
      · refine ⟨i, true, Ev.step (f := fun _ => some ((i : Int), true)) (fun k => ?_) (Ev.now _), by omega, hlo, hhi⟩
        simp only [slices_BinarySearch_int_int.l0]
        rw [if_neg (by omega), if_pos (by omega), if_pos (by omega), if_pos (by omega), rdn, if_pos h3]
      · refine ⟨i, false, Ev.step (f := fun _ => some ((i : Int), false)) (fun k => ?_) (Ev.now _), by omega, hlo, hhi⟩
        simp only [slices_BinarySearch_int_int.l0]
        rw [if_neg (by omega), if_pos (by omega), if_pos (by omega), if_pos (by omega), rdn, if_neg h3]
        simp [slices_isNaN_int.f]
    · refine ⟨i, false, Ev.step (f := fun _ => some ((i : Int), false)) (fun k => ?_) (Ev.now _), by omega, hlo, hhi⟩
      simp only [slices_BinarySearch_int_int.l0]
      rw [if_neg (by omega), if_neg (by omega)]
theorem bs_ev (xs : List Int) (x : Int) (hs : xs.Pairwise (· ≤ ·)) (hn : xs.length ≤ 1099511627776) :
    ∃ (p : Nat) (b : Bool), Ev (fun k => slices_BinarySearch_int_int.f k xs x) ((p : Int), b) ∧ p ≤ xs.length ∧ (∀ q, q < p → xs.getD q 0 < x) ∧ (∀ q, p ≤ q → q < xs.length → x ≤ xs.getD q 0) := by
  have := bs_loop xs x hs hn (xs.length - 0) 0 xs.length rfl (Nat.zero_le _) (Nat.le_refl _) (fun q hq => by omega) (fun q h1 h2 => by omega)
  exact this
/-- An element put where the search says: the order stays. -/
theorem insert_sorted (xs : List Int) (x : Int) (hs : xs.Pairwise (· ≤ ·)) (p : Nat) (hp : p ≤ xs.length) (h1 : ∀ q, q < p → xs.getD q 0 < x) (h2 : ∀ q, p ≤ q → q < xs.length → x ≤ xs.getD q 0) :
    (xs.take p ++ [x] ++ xs.drop p).Pairwise (· ≤ ·) := by
  rw [List.append_assoc, List.pairwise_append, List.pairwise_append]
  have ht : ∀ a ∈ xs.take p, a < x := by
    intro a ha
    obtain ⟨q, hq, rfl⟩ := List.mem_iff_getElem.1 ha
    have hq' : q < p ∧ q < xs.length := by rw [List.length_take] at hq; omega
    have := h1 q hq'.1
    rw [List.getD_eq_getElem?_getD, List.getElem?_eq_getElem hq'.2] at this
    simpa using this
  have hd : ∀ b ∈ xs.drop p, x ≤ b := by
    intro b hb
    obtain ⟨q, hq, rfl⟩ := List.mem_iff_getElem.1 hb
    have hq' : p + q < xs.length := by have : q < xs.length - p := by simpa using hq
                                       omega
    have := h2 (p + q) (by omega) hq'
    rw [List.getD_eq_getElem?_getD, List.getElem?_eq_getElem hq'] at this
    simpa using this
  refine ⟨hs.sublist (List.take_sublist _ _), ⟨List.pairwise_singleton _ _, hs.sublist (List.drop_sublist _ _), ?_⟩, ?_⟩
  · intro a ha b hb
    rw [List.mem_singleton.1 ha]
    exact hd b hb
  · intro a ha b hb
    rcases List.mem_append.1 hb with hb | hb
    · rw [List.mem_singleton.1 hb]; exact Int.le_of_lt (ht a ha)
    · exact Int.le_of_lt (Int.lt_of_lt_of_le (ht a ha) (hd b hb))
theorem insert_perm (xs : List Int) (x : Int) (p : Nat) : (xs.take p ++ [x] ++ xs.drop p).Perm (x :: xs) := by
  have e : xs.take p ++ [x] ++ xs.drop p = xs.take p ++ x :: xs.drop p := by simp
  rw [e]
  refine List.perm_middle.trans ?_
  rw [List.take_append_drop]
theorem insert_eq (xs : List Int) (x : Int) (p : Nat) (hp : p ≤ xs.length) (hn : xs.length ≤ 1099511627776) : slices_Insert_int_int.f xs (p : Int) [x] = some (xs.take p ++ [x] ++ xs.drop p) := by
  unfold slices_Insert_int_int.f
  rw [if_pos ⟨by omega, by omega, by simp, by simp; omega⟩]
  rfl
/-- Points that may be segmented. -/
def Pts (l : List Int) : Prop := l.length ≤ 1024 ∧ ∀ x ∈ l, -1099511627776 ≤ x ∧ x ≤ 1099511627776
theorem sm_bd (l : List Int) (h : ∀ x ∈ l, -1099511627776 ≤ x ∧ x ≤ 1099511627776) : -1099511627776 * (l.length : Int) ≤ sm l ∧ sm l ≤ 1099511627776 * (l.length : Int) := by
  induction l with
  | nil => simp [sm]
  | cons x l ih =>
    have h1 := h x List.mem_cons_self
    have h2 := ih (fun y hy => h y (List.mem_cons_of_mem _ hy))
    simp only [sm, List.length_cons]
    push_cast
    omega
/-- The two halves of a part. -/
structure Half (part low high : List Int) : Prop where
  perm : (low ++ high).Perm part
  sl : low.Pairwise (· ≤ ·)
  sh : high.Pairwise (· ≤ ·)
  ord : ∀ a ∈ low, ∀ b ∈ high, a ≤ b
theorem dev_low (l : List Int) (m : Int) (h : ∀ a ∈ l, a ≤ m) : dev l m = m * (l.length : Int) - sm l := by
  induction l with
  | nil => simp [dev, sm]
  | cons x l ih =>
    have h1 := h x List.mem_cons_self
    simp only [dev, sm, List.length_cons, ih (fun a ha => h a (List.mem_cons_of_mem _ ha))]
    push_cast
    rw [Int.mul_add]
    omega
theorem dev_high (l : List Int) (m : Int) (h : ∀ a ∈ l, m ≤ a) : dev l m = sm l - m * (l.length : Int) := by
  induction l with
  | nil => simp [dev, sm]
  | cons x l ih =>
    have h1 := h x List.mem_cons_self
    simp only [dev, sm, List.length_cons, ih (fun a ha => h a (List.mem_cons_of_mem _ ha))]
    push_cast
    rw [Int.mul_add]
    omega
theorem le_all (l : List Int) (m : Int) (h : ∀ a ∈ l, a ≤ m) : le m l = l.length := by
  unfold le
  rw [List.filter_eq_self.2 (by simpa using h)]
theorem lt_none (l : List Int) (m : Int) (h : ∀ a ∈ l, m ≤ a) : lt m l = 0 := by
  unfold lt
  rw [List.filter_eq_nil_iff.2 (by intro a ha; have := h a ha; simp; omega)]
  rfl
theorem last_max (l : List Int) (hs : l.Pairwise (· ≤ ·)) : ∀ a ∈ l, a ≤ l.getD (l.length - 1) 0 := by
  intro a ha
  obtain ⟨q, hq, rfl⟩ := List.mem_iff_getElem.1 ha
  rw [List.getD_eq_getElem?_getD, List.getElem?_eq_getElem (by omega)]
  rcases Nat.eq_or_lt_of_le (show q ≤ l.length - 1 by omega) with e | e
  · simp [e]
  · exact List.pairwise_iff_getElem.1 hs q (l.length - 1) hq (by omega) e
theorem Half.cost {part low high : List Int} (h : Half part low high) (h1 : high.length ≤ low.length) (h2 : low.length ≤ high.length + 1) (h0 : low ≠ []) :
    (low.getD (low.length - 1) 0) * (low.length : Int) - sm low + sm high - (low.getD (low.length - 1) 0) * (high.length : Int) = cst part := by
  have hl : 0 < low.length := List.length_pos_iff.2 h0
  have hm := last_max low h.sl
  have hmem : low.getD (low.length - 1) 0 ∈ low := getD_mem (by omega)
  generalize low.getD (low.length - 1) 0 = m at hm hmem ⊢
  have hh : ∀ a ∈ high, m ≤ a := fun a ha => h.ord m hmem a ha
  have hmed : IsMed (low ++ high) m := by
    constructor
    · rw [le_append, le_all low m hm]; simp; omega
    · rw [lt_append, lt_none high m hh]
      have : lt m low + 1 ≤ low.length := by
        have h3 : lt m low < low.length := by
          unfold lt
          rcases Nat.lt_or_ge (low.filter fun x => decide (x < m)).length low.length with h4 | h4
          · exact h4
          · have h5 := List.Sublist.eq_of_length_le List.filter_sublist h4
            have h6 : m ∈ low.filter fun x => decide (x < m) := by rw [h5]; exact hmem
            simp at h6
        omega
      simp
      omega
  have hne : low ++ high ≠ [] := by simp [h0]
  have e := cst_of_isMed hmed hne
  rw [cst_perm h.perm, dev_append, dev_low low m hm, dev_high high m hh] at e
  omega
theorem Half.insLow {part low high : List Int} {x : Int} (h : Half part low high) (p : Nat) (hp : p ≤ low.length) (h1 : ∀ q, q < p → low.getD q 0 < x) (h2 : ∀ q, p ≤ q → q < low.length → x ≤ low.getD q 0)
    (hx : ∀ b ∈ high, x ≤ b) : Half (x :: part) (low.take p ++ [x] ++ low.drop p) high := by
  refine ⟨((insert_perm low x p).append_right high).trans (List.Perm.cons x h.perm), insert_sorted low x h.sl p hp h1 h2, h.sh, fun a ha b hb => ?_⟩
  rcases List.mem_cons.1 ((insert_perm low x p).mem_iff.1 ha) with rfl | ha
  · exact hx b hb
  · exact h.ord a ha b hb
theorem Half.insHigh {part low high : List Int} {x : Int} (h : Half part low high) (p : Nat) (hp : p ≤ high.length) (h1 : ∀ q, q < p → high.getD q 0 < x) (h2 : ∀ q, p ≤ q → q < high.length → x ≤ high.getD q 0)
    (hx : ∀ a ∈ low, a ≤ x) : Half (x :: part) low (high.take p ++ [x] ++ high.drop p) := by
  refine ⟨((insert_perm high x p).append_left low).trans (List.perm_middle.trans (List.Perm.cons x h.perm)), h.sl, insert_sorted high x h.sh p hp h1 h2, fun a ha b hb => ?_⟩
  rcases List.mem_cons.1 ((insert_perm high x p).mem_iff.1 hb) with rfl | hb
  · exact hx a ha
  · exact h.ord a ha b hb
theorem snoc_of (l : List Int) (h : l ≠ []) : l = l.take (l.length - 1) ++ [l.getD (l.length - 1) 0] := by
  have hl : 0 < l.length := List.length_pos_iff.2 h
  conv => lhs; rw [← List.take_append_drop (l.length - 1) l]
  rw [List.drop_eq_getElem_cons (by omega), List.drop_eq_nil_of_le (by omega), List.getD_eq_getElem?_getD, List.getElem?_eq_getElem (by omega)]
  rfl
theorem cons_of (l : List Int) (h : l ≠ []) : l = l.getD 0 0 :: l.drop 1 := by
  cases l with
  | nil => exact absurd rfl h
  | cons x l => rfl
theorem Half.down {part low high : List Int} (h : Half part low high) (h0 : low ≠ []) : Half part (low.take (low.length - 1)) (low.getD (low.length - 1) 0 :: high) := by
  have e := snoc_of low h0
  have hm := last_max low h.sl
  have hmem : low.getD (low.length - 1) 0 ∈ low := getD_mem (by have := List.length_pos_iff.2 h0; omega)
  generalize low.getD (low.length - 1) 0 = m at e hm hmem ⊢
  generalize hT : low.take (low.length - 1) = T at e ⊢
  have hT2 : ∀ a ∈ T, a ∈ low := fun a ha => by rw [e]; exact List.mem_append_left _ ha
  refine ⟨?_, ?_, ?_, ?_⟩
  · refine List.Perm.trans ?_ h.perm
    conv => rhs; rw [e]
    rw [List.append_assoc]
    exact List.Perm.refl _
  · rw [← hT]; exact h.sl.sublist (List.take_sublist _ _)
  · exact List.pairwise_cons.2 ⟨fun b hb => h.ord m hmem b hb, h.sh⟩
  · intro a ha b hb
    rcases List.mem_cons.1 hb with rfl | hb
    · exact hm a (hT2 a ha)
    · exact h.ord a (hT2 a ha) b hb
theorem Half.up {part low high : List Int} (h : Half part low high) (h0 : high ≠ []) : Half part (low ++ [high.getD 0 0]) (high.drop 1) := by
  have e := cons_of high h0
  have hmem : high.getD 0 0 ∈ high := getD_mem (List.length_pos_iff.2 h0)
  have hsh := h.sh
  rw [e] at hsh
  rw [List.pairwise_cons] at hsh
  generalize high.getD 0 0 = m at e hmem hsh ⊢
  generalize hT : high.drop 1 = T at e hsh ⊢
  have hT2 : ∀ a ∈ T, a ∈ high := fun a ha => by rw [e]; exact List.mem_cons_of_mem _ ha
  refine ⟨?_, ?_, hsh.2, ?_⟩
  · refine List.Perm.trans ?_ h.perm
    conv => rhs; rw [e]
    rw [List.append_assoc]
    exact List.Perm.refl _
  · exact List.pairwise_append.2 ⟨h.sl, List.pairwise_singleton _ _, fun a ha b hb => by rw [List.mem_singleton.1 hb]; exact h.ord a ha m hmem⟩
  · intro a ha b hb
    rcases List.mem_append.1 ha with ha | ha
    · exact h.ord a ha b (hT2 b hb)
    · rw [List.mem_singleton.1 ha]; exact hsh.1 b hb
end Go.Proofs.Ytiimanpmidnffaa.Seg
