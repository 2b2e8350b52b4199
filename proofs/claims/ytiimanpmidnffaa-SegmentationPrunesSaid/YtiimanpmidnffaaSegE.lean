/- What the printed functions of segmentation compute, part E: comparison and 'solve' without pruning. -/
import Derived.Test.YtiimanpmidnffaaSegC
import Derived.Test.YtiimanpmidnffaaSegD
import Derived.Test.YtiimanpmidnffaaQx4
namespace Go.Proofs.Ytiimanpmidnffaa.Seg
open Go.RowKit Go.Proofs.YtiimanpmidnffaaW.PrintWords Go.Proofs.YtiimanpmidnffaaW.PrintLast Go.Proofs.YtiimanpmidnffaaW.PrintMore Go.Proofs.Ytiimanpmidnffaa.Q
set_option linter.unusedVariables false
set_option linter.unusedSimpArgs false
theorem cmp_eq (x y : Int) : cmp_Compare_int.f x y = some (if x < y then -1 else if x > y then 1 else 0) := by
  unfold cmp_Compare_int.f cmp_isNaN_int.f
  simp only [Option.bind_some, bne_self_eq_false, Bool.false_eq_true, if_false]
  split
  · rfl
  · split <;> rfl
theorem compare_loop (a b : List Int) (ha : a.length ≤ 1099511627776) : ∀ (d i : Nat), a.length - i = d → i ≤ a.length → a.take i = b.take i → i ≤ b.length →
    ∃ r, Ev (fun k => slices_Compare_int_int.l0 k a b a (a.length : Int) (i : Int)) r ∧ (r < 0 ↔ lex (a.drop i) (b.drop i) = true) := by
  intro d
  induction d with
  | zero =>
    intro i hd hi he hb
    have e : i = a.length := by omega
    refine ⟨if (a.length : Int) < (b.length : Int) then -1 else 0, Ev.step (f := fun _ => some _) (fun k => ?_) (Ev.now _), ?_⟩
    · simp only [slices_Compare_int_int.l0]
      rw [if_neg (by omega)]
      split <;> rfl
    · rw [List.drop_eq_nil_of_le (by omega : a.length ≤ i)]
      by_cases h : a.length < b.length
      · rw [if_pos (by omega), List.drop_eq_getElem_cons (by omega : i < b.length)]
        simp [lex]
      · rw [if_neg (by omega), List.drop_eq_nil_of_le (by omega : b.length ≤ i)]
        simp [lex]
  | succ d ih =>
    intro i hd hi he hb
    have hia : i < a.length := by omega
    by_cases hib : b.length ≤ i
    · refine ⟨1, Ev.step (f := fun _ => some _) (fun k => ?_) (Ev.now _), ?_⟩
      · simp only [slices_Compare_int_int.l0]
        rw [if_pos (by omega), if_pos (by omega), if_pos (by omega), if_pos (by omega)]
      · rw [List.drop_eq_nil_of_le hib, List.drop_eq_getElem_cons hia]
        simp [lex]
    · have hib' : i < b.length := by omega
      have ea : a.getD i 0 = a[i] := by rw [List.getD_eq_getElem?_getD, List.getElem?_eq_getElem hia]; rfl
      have eb : b.getD i 0 = b[i] := by rw [List.getD_eq_getElem?_getD, List.getElem?_eq_getElem hib']; rfl
      rw [List.drop_eq_getElem_cons hia, List.drop_eq_getElem_cons hib']
      by_cases h : a[i] = b[i]
      · obtain ⟨r, hev, hr⟩ := ih (i + 1) (by omega) (by omega) (by rw [List.take_succ_eq_append_getElem hia, List.take_succ_eq_append_getElem hib', he, h]) (by omega)
        refine ⟨r, Ev.step (fun k => ?_) hev, ?_⟩
        · simp only [slices_Compare_int_int.l0]
          rw [if_pos (by omega), if_pos (by omega), if_pos (by omega), if_neg (by omega), if_pos (by omega), rdn, rdn, cmp_eq, ea, eb, h]
          have hv : (if b[i] < b[i] then (-1 : Int) else if b[i] > b[i] then 1 else 0) = 0 := by rw [if_neg (by omega), if_neg (by omega)]
          simp only [Option.bind_some]
          rw [hv, if_pos rfl, w64 (by omega) (by omega)]
          rfl
        · rw [hr]; simp [lex, h]
      · refine ⟨if a[i] < b[i] then -1 else 1, Ev.step (f := fun _ => some _) (fun k => ?_) (Ev.now _), ?_⟩
        · simp only [slices_Compare_int_int.l0]
          rw [if_pos (by omega), if_pos (by omega), if_pos (by omega), if_neg (by omega), if_pos (by omega), rdn, rdn, cmp_eq, ea, eb]
          simp only [Option.bind_some]
          by_cases h2 : a[i] < b[i]
          · have hv : (if a[i] < b[i] then (-1 : Int) else if a[i] > b[i] then 1 else 0) = -1 := if_pos h2
            rw [hv, if_neg (by omega), if_pos h2]
          · have hv : (if a[i] < b[i] then (-1 : Int) else if a[i] > b[i] then 1 else 0) = 1 := by rw [if_neg h2, if_pos (by omega)]
            rw [hv, if_neg (by omega), if_neg h2]
        · by_cases h2 : a[i] < b[i]
          · rw [if_pos h2]; simp [lex, h2]
          · rw [if_neg h2]; simp [lex, h2, h]
theorem better_ev (n : Int) (c : List Int) (m : Int) (d : List Int) (hc : c.length ≤ 1099511627776) : ∃ b : Bool, Ev (fun k => segmentation_best_better.f k n c m d) b ∧ (b = true ↔ kl n c m d) := by
  by_cases h : n = m
  · by_cases h2 : c.length = d.length
    · obtain ⟨r, hev, hr⟩ := compare_loop c d hc (c.length - 0) 0 rfl (by omega) (by simp) (by omega)
      refine ⟨decide (r < 0), ?_, ?_⟩
      · have := Ev.bind (f := fun _ t => some (decide (t < 0))) hev (Ev.now _)
        refine Ev.congr (fun k => ?_) this
        unfold segmentation_best_better.f slices_Compare_int_int.f
        rw [if_pos h, if_pos (by omega)]
        rfl
      · simp only [decide_eq_true_eq, hr, List.drop_zero]
        constructor
        · intro h3; exact .inr ⟨h, .inr ⟨h2, h3⟩⟩
        · rintro (h3 | ⟨_, h3 | ⟨_, h3⟩⟩)
          · omega
          · omega
          · exact h3
    · refine ⟨decide ((c.length : Int) < (d.length : Int)), Ev.congr (fun k => ?_) (Ev.now _), ?_⟩
      · unfold segmentation_best_better.f
        rw [if_pos h, if_neg (by omega)]
      · simp only [decide_eq_true_eq]
        constructor
        · intro h3; exact .inr ⟨h, .inl (by omega)⟩
        · rintro (h3 | ⟨_, h3 | ⟨h4, _⟩⟩)
          · omega
          · omega
          · omega
  · refine ⟨decide (n < m), Ev.congr (fun k => ?_) (Ev.now _), ?_⟩
    · unfold segmentation_best_better.f
      rw [if_neg h]
    · simp only [decide_eq_true_eq]
      constructor
      · intro h3; exact .inl h3
      · rintro (h3 | ⟨h3, _⟩)
        · exact h3
        · exact absurd h3 h
/-- The rows of the first t indices. -/
def Rows (pts : List Int) (p : Int) (all : List S74) : Prop := ∀ s, s < all.length → Row pts p s (all.getD s z74).f0 (all.getD s z74).f1
theorem Row.bd {pts : List Int} {p : Int} (hP : Pts pts) (h0 : 0 ≤ p) (h1 : p ≤ 1099511627776) {s : Nat} (hs : s ≤ pts.length) {n : Int} {c : List Int} (h : Row pts p s n c) : -1099511627776 ≤ n ∧ n ≤ 4503599627370496 ∧ c.length ≤ 1024 := by
  have := hP.1
  rcases h with ⟨_, rfl, rfl⟩ | h
  · exact ⟨by omega, by omega, by simp⟩
  · have h2 := h.cut.bd hP.2 h0 h1
    have h3 := h.cut.len
    exact ⟨by omega, by omega, by omega⟩
theorem after_eq {pts : List Int} {p : Int} (hP : Pts pts) (h0 : 0 ≤ p) (h1 : p ≤ 1099511627776) {s t : Nat} (hs : s < t) (ht : t ≤ pts.length) {n : Int} {c : List Int} (h : Row pts p s n c) :
    segmentation_best_after.f n c (s : Int) (wrap64 (p + C pts s t)) = some (candN pts p t s n, candC s c) := by
  have hb := Row.bd hP h0 h1 (by omega) h
  have hl := hP.1
  have hC := C_bd pts hP.2 s t
  have hC0 := C_nonneg pts s t
  have e1 : wrap64 (p + C pts s t) = p + C pts s t := w64 (by omega) (by omega)
  have e2 : wrap64 (n + (p + C pts s t)) = n + (p + C pts s t) := w64 (by omega) (by omega)
  unfold segmentation_best_after.f candN candC slices_Clone_int_int.f
  rw [e1, e2]
  by_cases h2 : 0 < s
  · rw [if_pos (by omega), if_pos (by omega), if_pos h2]
    simp only [Option.bind_some]
    rw [if_pos (by omega)]
    congr 2
    omega
  · rw [if_neg (by omega), if_neg h2]
    congr 2
    omega
theorem costsOf_getD (pts : List Int) (t s : Nat) (h : s < t) : (costsOf pts t).getD s 0 = C pts s t := by
  unfold costsOf C
  rw [List.getD_eq_getElem?_getD, List.getElem?_map, List.getElem?_range h]
  rfl
theorem costsOf_length (pts : List Int) (t : Nat) : (costsOf pts t).length = t := by simp [costsOf]
/-- The candidates in order. -/
def upto (t : Nat) : List Int := (List.range t).map fun (s : Nat) => (s : Int)
theorem upto_length (t : Nat) : (upto t).length = t := by simp [upto]
theorem upto_getD (t s : Nat) (h : s < t) : (upto t).getD s 0 = (s : Int) := by
  unfold upto
  rw [List.getD_eq_getElem?_getD, List.getElem?_map, List.getElem?_range h]
  rfl
theorem upto_succ (t : Nat) : upto (t + 1) = upto t ++ [(t : Int)] := by simp [upto, List.range_succ]
def rowN (all : List S74) (s : Nat) : Int := (all.getD s z74).f0
def rowK (all : List S74) (s : Nat) : List Int := (all.getD s z74).f1
def cN (pts : List Int) (p : Int) (t : Nat) (all : List S74) (s : Nat) : Int := candN pts p t s (rowN all s)
def cK (all : List S74) (s : Nat) : List Int := candC s (rowK all s)
/-- What stands at an inner round. -/
structure Rnd (pts : List Int) (p : Int) (all : List S74) (t : Nat) (asked : Int) : Prop where
  hP : Pts pts
  h0 : 0 ≤ p
  h1 : p ≤ 1099511627776
  rows : Rows pts p all
  len : all.length = t
  one : 1 ≤ t
  top : t ≤ pts.length
  ask0 : 0 ≤ asked
  ask1 : asked ≤ 4398046511104
section
variable {pts : List Int} {p : Int} {all : List S74} {t : Nat} {asked : Int}
theorem Rnd.small (h : Rnd pts p all t asked) : t ≤ 1024 := Nat.le_trans h.top h.hP.1
theorem Rnd.row (h : Rnd pts p all t asked) {i : Nat} (hi : i < t) : Row pts p i (rowN all i) (rowK all i) := h.rows i (by rw [h.len]; exact hi)
theorem Rnd.bds (h : Rnd pts p all t asked) {i : Nat} (hi : i < t) : -1099511627776 ≤ rowN all i ∧ rowN all i ≤ 4503599627370496 ∧ (rowK all i).length ≤ 1024 := Row.bd h.hP h.h0 h.h1 (Nat.le_of_lt (Nat.lt_of_lt_of_le hi h.top)) (h.row hi)
theorem Rnd.C (h : Rnd pts p all t asked) {i : Nat} (hi : i < t) : 0 ≤ C pts i t ∧ C pts i t ≤ 2251799813685248 := by
  have h1 := C_bd pts h.hP.2 i t
  have h2 := C_nonneg pts i t
  have h3 := h.small
  omega
theorem cK_len (h : Rnd pts p all t asked) {i : Nat} (hi : i < t) : (cK all i).length ≤ 1025 := by
  have h1 := (h.bds hi).2.2
  unfold cK candC
  split
  · rw [List.length_append, List.length_singleton]; omega
  · omega
theorem Rnd.asks (h : Rnd pts p all t asked) {i : Nat} (hi : i < t) : wrap64 (asked + (i : Int) + 1) = asked + ((i + 1 : Nat) : Int) := by
  have h1 := h.small
  have h2 := h.ask0
  have h3 := h.ask1
  rw [w64 (by omega) (by omega)]; omega
theorem Rnd.ix (h : Rnd pts p all t asked) {i : Nat} (hi : i < t) : wrap64 ((i : Int) + 1) = ((i + 1 : Nat) : Int) := by
  have h1 := h.small
  rw [w64 (by omega) (by omega)]; omega
theorem Rnd.sum (h : Rnd pts p all t asked) {i : Nat} (hi : i < t) : wrap64 ((wrap64 (rowN all i + p)) + Seg.C pts i t) = cN pts p t all i := by
  have h1 := h.bds hi
  have h2 := h.C hi
  have h3 := h.h0
  have h4 := h.h1
  have e : wrap64 (rowN all i + p) = rowN all i + p := w64 (by omega) (by omega)
  rw [e, w64 (by omega) (by omega)]
  rfl
theorem Rnd.after (h : Rnd pts p all t asked) {i : Nat} (hi : i < t) : segmentation_best_after.f (rowN all i) (rowK all i) (i : Int) (wrap64 (p + Seg.C pts i t)) = some (cN pts p t all i, cK all i) :=
  after_eq h.hP h.h0 h.h1 hi h.top (h.row hi)
theorem Rnd.cost (h : Rnd pts p all t asked) {i : Nat} (hi : i < t) : rd (costsOf pts t) (i : Int) = Seg.C pts i t := by rw [rdn, costsOf_getD pts t i hi]
theorem rd_upto {i : Nat} (hi : i < t) : rd (upto t) (i : Int) = (i : Int) := by rw [rdn, upto_getD t i hi]
theorem E1 (h : Rnd pts p all t asked) (k : Nat) (n : Int) (c : List Int) : segmentation_solve.l1 (k + 1) pts p false (upto t) (asked + (t : Int)) (t : Int) (t : Int) (t : Int) all (costsOf pts t) n c =
    segmentation_solve.l0 k pts p false (upto (t + 1)) (asked + (t : Int)) ((t : Int) + 1) (all ++ [(⟨n, c⟩ : S74)]) := by
  have h1 := h.small
  have h2 := h.len
  simp only [segmentation_solve.l1]
  rw [if_neg (Int.lt_irrefl _), if_pos (by omega), if_neg (by decide), if_pos (by rw [upto_length]; omega), w64 (by omega) (by omega), upto_succ]
theorem E2 (h : Rnd pts p all t asked) (k : Nat) (n : Int) (c : List Int) : segmentation_solve.l1 (k + 1) pts p false (upto t) (asked + ((0 : Nat) : Int)) (t : Int) (t : Int) ((0 : Nat) : Int) all (costsOf pts t) n c =
    segmentation_solve.j2 k pts p false (upto t) (asked + ((0 + 1 : Nat) : Int)) (t : Int) ((0 : Nat) : Int) ((0 : Nat) : Int) (t : Int) ((0 : Nat) : Int) false all (costsOf pts t) n c := by
  have h1 := h.one
  have e1 := h.asks (i := 0) (by omega)
  have e2 := rd_upto (t := t) (i := 0) (by omega)
  simp only [segmentation_solve.l1]
  rw [if_pos (by omega), if_pos (by omega), if_pos (by rw [upto_length]; omega), if_neg (by omega), e1, e2]
theorem E3 (h : Rnd pts p all t asked) (k : Nat) {i : Nat} (hi : i < t) (hz : 0 < i) (n : Int) (c : List Int) : segmentation_solve.l1 (k + 1) pts p false (upto t) (asked + (i : Int)) (t : Int) (t : Int) (i : Int) all (costsOf pts t) n c =
    segmentation_solve.j2 k pts p false (upto t) (asked + ((i + 1 : Nat) : Int)) (t : Int) (i : Int) (i : Int) (t : Int) (i : Int) (decide (cN pts p t all i > n)) all (costsOf pts t) n c := by
  have h1 := h.len
  have e1 := h.asks hi
  have e2 := rd_upto hi
  have e3 := h.cost hi
  have e4 := h.sum hi
  have ea : (rd_T74 all (i : Int)).f0 = rowN all i := rfl
  simp only [segmentation_solve.l1]
  rw [if_pos (by omega), if_pos (by omega), if_pos (by rw [upto_length]; omega), if_pos (by omega), e2, if_pos (by omega), if_pos (by omega), costsOf_length, if_pos (by omega), ea, e3, e4, e1]
theorem E4 (h : Rnd pts p all t asked) (k : Nat) {i : Nat} (hi : i < t) (n : Int) (c : List Int) (a : Int) : segmentation_solve.j2 (k + 1) pts p false (upto t) a (t : Int) (i : Int) (i : Int) (t : Int) (i : Int) true all (costsOf pts t) n c =
    segmentation_solve.l1 k pts p false (upto t) a (t : Int) (t : Int) ((i + 1 : Nat) : Int) all (costsOf pts t) n c := by
  have e1 := h.ix hi
  simp only [segmentation_solve.j2]
  rw [if_pos trivial, e1]
theorem E5 (h : Rnd pts p all t asked) (k : Nat) (n : Int) (c : List Int) (a : Int) : segmentation_solve.j2 (k + 1) pts p false (upto t) a (t : Int) ((0 : Nat) : Int) ((0 : Nat) : Int) (t : Int) ((0 : Nat) : Int) false all (costsOf pts t) n c =
    segmentation_solve.j3 k pts p false (upto t) a (t : Int) (t : Int) ((0 : Nat) : Int) true all (costsOf pts t) n c (cN pts p t all 0) (cK all 0) := by
  have h1 := h.len
  have h2 := h.one
  have e2 := h.cost (i := 0) (by omega)
  have e3 := h.after (i := 0) (by omega)
  have ea : (rd_T74 all ((0 : Nat) : Int)).f0 = rowN all 0 := rfl
  have eb : (rd_T74 all ((0 : Nat) : Int)).f1 = rowK all 0 := rfl
  simp only [segmentation_solve.j2, costsOf_length]
  rw [if_neg (by decide), if_pos (by omega), if_pos (by omega), if_pos (by omega), e2, ea, eb, e3]
  simp only [Option.bind_some]
  rw [if_pos (by rfl)]
theorem E6 (h : Rnd pts p all t asked) (k : Nat) {i : Nat} (hi : i < t) (hz : 0 < i) (n : Int) (c : List Int) (a : Int) : segmentation_solve.j2 (k + 1) pts p false (upto t) a (t : Int) (i : Int) (i : Int) (t : Int) (i : Int) false all (costsOf pts t) n c =
    (segmentation_best_better.f k (cN pts p t all i) (cK all i) n c).bind fun b => segmentation_solve.j3 k pts p false (upto t) a (t : Int) (t : Int) (i : Int) b all (costsOf pts t) n c (cN pts p t all i) (cK all i) := by
  have h1 := h.len
  have e2 := h.cost hi
  have e3 := h.after hi
  have ea : (rd_T74 all (i : Int)).f0 = rowN all i := rfl
  have eb : (rd_T74 all (i : Int)).f1 = rowK all i := rfl
  simp only [segmentation_solve.j2, costsOf_length]
  rw [if_neg (by decide), if_pos (by omega), if_pos (by omega), if_pos (by omega), e2, ea, eb, e3]
  simp only [Option.bind_some]
  rw [if_neg (by omega)]
theorem E7 (h : Rnd pts p all t asked) (k : Nat) {i : Nat} (hi : i < t) (n m : Int) (c d : List Int) (a : Int) : segmentation_solve.j3 (k + 1) pts p false (upto t) a (t : Int) (t : Int) (i : Int) true all (costsOf pts t) n c m d =
    segmentation_solve.l1 k pts p false (upto t) a (t : Int) (t : Int) ((i + 1 : Nat) : Int) all (costsOf pts t) m d := by
  have e1 := h.ix hi
  simp only [segmentation_solve.j3]
  rw [if_pos trivial, e1]
theorem E8 (h : Rnd pts p all t asked) (k : Nat) {i : Nat} (hi : i < t) (n m : Int) (c d : List Int) (a : Int) : segmentation_solve.j3 (k + 1) pts p false (upto t) a (t : Int) (t : Int) (i : Int) false all (costsOf pts t) n c m d =
    segmentation_solve.l1 k pts p false (upto t) a (t : Int) (t : Int) ((i + 1 : Nat) : Int) all (costsOf pts t) n c := by
  have e1 := h.ix hi
  simp only [segmentation_solve.j3]
  rw [if_neg (by decide), e1]
end
/-- n and c are the first one of the candidates before i. -/
def Least (pts : List Int) (p : Int) (t : Nat) (all : List S74) (i : Nat) (n : Int) (c : List Int) : Prop :=
  (∃ s, s < i ∧ n = cN pts p t all s ∧ c = cK all s) ∧ ∀ s, s < i → ¬ kl (cN pts p t all s) (cK all s) n c
theorem Least.first {pts : List Int} {p : Int} {t : Nat} {all : List S74} : Least pts p t all 1 (cN pts p t all 0) (cK all 0) :=
  ⟨⟨0, by omega, rfl, rfl⟩, fun s hs => by cases (show s = 0 by omega); exact kl_irr _ _⟩
theorem Least.take {pts : List Int} {p : Int} {t : Nat} {all : List S74} {i : Nat} {n : Int} {c : List Int} (h : Least pts p t all i n c) (hk : kl (cN pts p t all i) (cK all i) n c) : Least pts p t all (i + 1) (cN pts p t all i) (cK all i) := by
  refine ⟨⟨i, by omega, rfl, rfl⟩, fun s hs => ?_⟩
  rcases Nat.lt_or_ge s i with h3 | h3
  · intro h4; exact h.2 s h3 (kl_trans h4 hk)
  · cases (show s = i by omega); exact kl_irr _ _
theorem Least.pass {pts : List Int} {p : Int} {t : Nat} {all : List S74} {i : Nat} {n : Int} {c : List Int} (h : Least pts p t all i n c) (hk : ¬ kl (cN pts p t all i) (cK all i) n c) : Least pts p t all (i + 1) n c := by
  obtain ⟨⟨s, hs, e1, e2⟩, hm⟩ := h
  refine ⟨⟨s, by omega, e1, e2⟩, fun s' hs' => ?_⟩
  rcases Nat.lt_or_ge s' i with h3 | h3
  · exact hm s' h3
  · cases (show s' = i by omega); exact hk
theorem Least.best {pts : List Int} {p : Int} {t : Nat} {all : List S74} {asked : Int} {n : Int} {c : List Int} (h : Least pts p t all t n c) (g : Rnd pts p all t asked) : Best pts p t n c := by
  obtain ⟨⟨s, hs, e1, e2⟩, hm⟩ := h
  have hcut : Cut pts p t c n := by rw [e1, e2]; exact cand_cut (g.row hs) hs
  exact best_of_cands (rowN all) (rowK all) (fun s hs => g.row hs) hcut hm
theorem Least.ex {pts : List Int} {p : Int} {t : Nat} {all : List S74} : ∀ i, 1 ≤ i → ∃ n c, Least pts p t all i n c := by
  intro i hi
  induction i with
  | zero => omega
  | succ i ih =>
    by_cases hz : i = 0
    · subst hz; exact ⟨_, _, Least.first⟩
    · obtain ⟨n, c, h⟩ := ih (by omega)
      rcases Classical.em (kl (cN pts p t all i) (cK all i) n c) with hk | hk
      · exact ⟨_, _, h.take hk⟩
      · exact ⟨n, c, h.pass hk⟩
/-- The inner loop. -/
theorem solve_inner {pts : List Int} {p : Int} {all : List S74} {t : Nat} {asked : Int} (g : Rnd pts p all t asked) (r : (List S74) × Int)
    (next : ∀ n c, Best pts p t n c → Ev (fun k => segmentation_solve.l0 k pts p false (upto (t + 1)) (asked + (t : Int)) ((t : Int) + 1) (all ++ [(⟨n, c⟩ : S74)])) r) :
    ∀ (d i : Nat) (n : Int) (c : List Int), t - i = d → i ≤ t → (i = 0 ∨ Least pts p t all i n c) →
      Ev (fun k => segmentation_solve.l1 k pts p false (upto t) (asked + (i : Int)) (t : Int) (t : Int) (i : Int) all (costsOf pts t) n c) r := by
  have g1 := g.one
  intro d
  induction d with
  | zero =>
    intro i n c hd hi hinv
    obtain rfl : i = t := by omega
    rcases hinv with h | h
    · omega
    · exact Ev.step (fun k => E1 g k n c) (next n c (h.best g))
  | succ d ih =>
    intro i n c hd hi hinv
    have hit : i < t := by omega
    by_cases hz : i = 0
    · subst hz
      have := ih (0 + 1) (cN pts p t all 0) (cK all 0) (by omega) (by omega) (.inr Least.first)
      exact Ev.step (fun k => E2 g k n c) (Ev.step (fun k => E5 g k n c _) (Ev.step (fun k => E7 g k (by omega) n _ c _ _) this))
    · rcases hinv with h | h
      · exact absurd h hz
      have hz' : 0 < i := by omega
      by_cases hsk : cN pts p t all i > n
      · have hp : ¬ kl (cN pts p t all i) (cK all i) n c := by rintro (h4 | ⟨h4, _⟩) <;> omega
        have := ih (i + 1) n c (by omega) (by omega) (.inr (h.pass hp))
        refine Ev.step (fun k => E3 g k hit hz' n c) ?_
        rw [decide_eq_true hsk]
        exact Ev.step (fun k => E4 g k hit n c _) this
      · obtain ⟨b, hev, hbt⟩ := better_ev (cN pts p t all i) (cK all i) n c (by have := cK_len g hit; omega)
        refine Ev.step (fun k => E3 g k hit hz' n c) ?_
        rw [decide_eq_false hsk]
        refine Ev.step (fun k => E6 g k hit hz' n c _) ?_
        cases b with
        | true =>
          have := ih (i + 1) (cN pts p t all i) (cK all i) (by omega) (by omega) (.inr (h.take (hbt.1 rfl)))
          exact Ev.bind (f := fun k b => segmentation_solve.j3 k pts p false (upto t) (asked + ((i + 1 : Nat) : Int)) (t : Int) (t : Int) (i : Int) b all (costsOf pts t) n c (cN pts p t all i) (cK all i)) hev (Ev.step (fun k => E7 g k hit n _ c _ _) this)
        | false =>
          have hk : ¬ kl (cN pts p t all i) (cK all i) n c := fun h => by have := hbt.2 h; cases this
          have := ih (i + 1) n c (by omega) (by omega) (.inr (h.pass hk))
          exact Ev.bind (f := fun k b => segmentation_solve.j3 k pts p false (upto t) (asked + ((i + 1 : Nat) : Int)) (t : Int) (t : Int) (i : Int) b all (costsOf pts t) n c (cN pts p t all i) (cK all i)) hev (Ev.step (fun k => E8 g k hit n _ c _ _) this)
theorem Rows.snoc {pts : List Int} {p : Int} {all : List S74} (h : Rows pts p all) {n : Int} {c : List Int} (hb : Best pts p all.length n c) : Rows pts p (all ++ [(⟨n, c⟩ : S74)]) := by
  intro s hs
  rcases Nat.lt_or_ge s all.length with h1 | h1
  · have := h s h1
    rw [List.getD_eq_getElem?_getD, List.getElem?_append_left h1, ← List.getD_eq_getElem?_getD]
    exact this
  · have e : s = all.length := by simp at hs; omega
    subst e
    have e2 : (all ++ [(⟨n, c⟩ : S74)]).getD all.length z74 = ⟨n, c⟩ := by
      rw [List.getD_eq_getElem?_getD, List.getElem?_append_right (Nat.le_refl _)]; simp
    rw [e2]
    exact .inr hb
/-- 'solve' without pruning: the best segmentations of all beginnings. -/
theorem solve_ev (pts : List Int) (p : Int) (hP : Pts pts) (h0 : 0 ≤ p) (h1 : p ≤ 1099511627776) : ∃ (all : List S74) (asked : Int), Ev (fun k => segmentation_solve.f k pts p false) (all, asked) ∧ all.length = pts.length + 1 ∧ Rows pts p all := by
  have hl := hP.1
  have main : ∀ (d t : Nat) (all : List S74) (asked : Int), pts.length + 1 - t = d → 1 ≤ t → t ≤ pts.length + 1 → all.length = t → Rows pts p all → 0 ≤ asked → asked ≤ 1024 * (t : Int) →
      ∃ (all' : List S74) (asked' : Int), Ev (fun k => segmentation_solve.l0 k pts p false (upto t) asked (t : Int) all) (all', asked') ∧ all'.length = pts.length + 1 ∧ Rows pts p all' := by
    intro d
    induction d with
    | zero =>
      intro t all asked hd ht ht2 hlen hrows _ _
      refine ⟨all, asked, Ev.step (f := fun _ => some _) (fun k => ?_) (Ev.now _), by omega, hrows⟩
      simp only [segmentation_solve.l0]
      rw [if_neg (by omega)]
    | succ d ih =>
      intro t all asked hd ht ht2 hlen hrows ha0 ha1
      have htp : t ≤ pts.length := by omega
      have g : Rnd pts p all t asked := ⟨hP, h0, h1, hrows, hlen, ht, htp, ha0, by omega⟩
      obtain ⟨n, c, hleast⟩ := Least.ex (pts := pts) (p := p) (t := t) (all := all) t ht
      have hbest := hleast.best g
      obtain ⟨all', asked', hev, h2, h3⟩ := ih (t + 1) (all ++ [(⟨n, c⟩ : S74)]) (asked + (t : Int)) (by omega) (by omega) (by omega) (by rw [List.length_append, List.length_singleton]; omega) (hrows.snoc (by rw [hlen]; exact hbest)) (by omega) (by omega)
      refine ⟨all', asked', ?_, h2, h3⟩
      have hin := solve_inner g (all', asked') (fun n' c' hb' => by
        obtain ⟨rfl, rfl⟩ := hbest.uniq hb'
        exact hev) (t - 0) 0 0 [] rfl (Nat.zero_le _) (.inl rfl)
      have := Ev.bind (f := fun k t178 => segmentation_solve.l1 k pts p false (upto t) asked (t : Int) ((upto t).length : Int) 0 all t178 0 []) (costs_ev pts hP t htp) (by simpa [upto_length] using hin)
      refine Ev.step (fun k => ?_) this
      simp only [segmentation_solve.l0]
      rw [if_pos (by omega)]
  have e0 : wrap64 (-p) = -p := w64 (by omega) (by omega)
  obtain ⟨all, asked, hev, h2, h3⟩ := main (pts.length + 1 - 1) 1 [(⟨-p, []⟩ : S74)] 0 rfl (by omega) (by omega) rfl (fun s hs => by
    cases (show s = 0 by rw [List.length_singleton] at hs; omega)
    exact .inl ⟨rfl, rfl, rfl⟩) (by omega) (by omega)
  refine ⟨all, asked, Ev.congr (fun k => ?_) hev, h2, h3⟩
  unfold segmentation_solve.f
  rw [e0]
  rfl
end Go.Proofs.Ytiimanpmidnffaa.Seg
