/- Plain mathematics of segmentation, part D: the order of segmentations, and which one is the best. -/
import Derived.Test.YtiimanpmidnffaaSegA
namespace Go.Proofs.Ytiimanpmidnffaa.Seg
set_option linter.unusedVariables false
set_option linter.unusedSimpArgs false
/-- One list comes before another one. -/
def lex : List Int → List Int → Bool
  | [], [] => false
  | [], _ :: _ => true
  | _ :: _, [] => false
  | x :: a, y :: b => decide (x < y) || (decide (x = y) && lex a b)
theorem lex_irr (a : List Int) : lex a a = false := by
  induction a with
  | nil => rfl
  | cons x a ih => simp [lex, ih]
theorem lex_trans : ∀ {a b c : List Int}, lex a b = true → lex b c = true → lex a c = true := by
  intro a
  induction a with
  | nil =>
    intro b c h1 h2
    cases b with
    | nil => simp [lex] at h1
    | cons y b => cases c with
      | nil => simp [lex] at h2
      | cons z c => rfl
  | cons x a ih =>
    intro b c h1 h2
    cases b with
    | nil => simp [lex] at h1
    | cons y b => cases c with
      | nil => simp [lex] at h2
      | cons z c =>
        simp only [lex, Bool.or_eq_true, Bool.and_eq_true, decide_eq_true_eq] at h1 h2 ⊢
        rcases h1 with h1 | ⟨rfl, h1⟩
        · rcases h2 with h2 | ⟨rfl, h2⟩
          · left; omega
          · left; exact h1
        · rcases h2 with h2 | ⟨rfl, h2⟩
          · left; exact h2
          · right; exact ⟨rfl, ih h1 h2⟩
theorem lex_total : ∀ (a b : List Int), lex a b = true ∨ a = b ∨ lex b a = true := by
  intro a
  induction a with
  | nil => intro b; cases b with
    | nil => exact .inr (.inl rfl)
    | cons y b => exact .inl rfl
  | cons x a ih => intro b; cases b with
    | nil => exact .inr (.inr rfl)
    | cons y b =>
      simp only [lex, Bool.or_eq_true, Bool.and_eq_true, decide_eq_true_eq]
      rcases Int.lt_trichotomy x y with h | rfl | h
      · exact .inl (.inl h)
      · rcases ih b with h | rfl | h
        · exact .inl (.inr ⟨rfl, h⟩)
        · exact .inr (.inl rfl)
        · exact .inr (.inr (.inr ⟨rfl, h⟩))
      · exact .inr (.inr (.inl h))
theorem lex_snoc : ∀ (a b : List Int) (s : Int), a.length = b.length → lex (a ++ [s]) (b ++ [s]) = lex a b := by
  intro a
  induction a with
  | nil => intro b s h; cases b with
    | nil => simp [lex]
    | cons y b => simp at h
  | cons x a ih => intro b s h; cases b with
    | nil => simp at h
    | cons y b => simp only [List.cons_append, lex]; rw [ih b s (by simpa using h)]
/-- A total and cuts come before others. -/
def kl (n : Int) (c : List Int) (m : Int) (d : List Int) : Prop := n < m ∨ n = m ∧ (c.length < d.length ∨ c.length = d.length ∧ lex c d = true)
theorem kl_irr (n : Int) (c : List Int) : ¬ kl n c n c := by
  rintro (h | ⟨_, h | ⟨_, h⟩⟩)
  · omega
  · omega
  · rw [lex_irr] at h; cases h
theorem kl_trans {n m o : Int} {c d e : List Int} (h1 : kl n c m d) (h2 : kl m d o e) : kl n c o e := by
  rcases h1 with h1 | ⟨rfl, h1⟩
  · rcases h2 with h2 | ⟨rfl, h2⟩
    · left; omega
    · left; omega
  · rcases h2 with h2 | ⟨rfl, h2⟩
    · left; exact h2
    · right
      refine ⟨rfl, ?_⟩
      rcases h1 with h1 | ⟨e1, h1⟩
      · rcases h2 with h2 | ⟨e2, h2⟩
        · left; omega
        · left; omega
      · rcases h2 with h2 | ⟨e2, h2⟩
        · left; omega
        · right; exact ⟨by omega, lex_trans h1 h2⟩
theorem kl_total (n m : Int) (c d : List Int) : kl n c m d ∨ (n = m ∧ c = d) ∨ kl m d n c := by
  rcases Int.lt_trichotomy n m with h | rfl | h
  · exact .inl (.inl h)
  · rcases Nat.lt_trichotomy c.length d.length with h | h | h
    · exact .inl (.inr ⟨rfl, .inl h⟩)
    · rcases lex_total c d with h2 | rfl | h2
      · exact .inl (.inr ⟨rfl, .inr ⟨h, h2⟩⟩)
      · exact .inr (.inl ⟨rfl, rfl⟩)
      · exact .inr (.inr (.inr ⟨rfl, .inr ⟨h.symm, h2⟩⟩))
    · exact .inr (.inr (.inr ⟨rfl, .inl h⟩))
  · exact .inr (.inr (.inl h))
theorem kl_snoc {n m : Int} {c d : List Int} (s k : Int) : kl (n + k) (c ++ [s]) (m + k) (d ++ [s]) ↔ kl n c m d := by
  unfold kl
  simp only [List.length_append, List.length_singleton]
  constructor
  · rintro (h | ⟨h, h2 | ⟨h2, h3⟩⟩)
    · left; omega
    · right; exact ⟨by omega, .inl (by omega)⟩
    · right; exact ⟨by omega, .inr ⟨by omega, by rwa [lex_snoc _ _ _ (by omega)] at h3⟩⟩
  · rintro (h | ⟨h, h2 | ⟨h2, h3⟩⟩)
    · left; omega
    · right; exact ⟨by omega, .inl (by omega)⟩
    · right; exact ⟨by omega, .inr ⟨by omega, by rw [lex_snoc _ _ _ h2]; exact h3⟩⟩
/-- What is not behind by a chain. -/
theorem not_kl_trans {n m o : Int} {c d e : List Int} (h1 : ¬ kl n c m d) (h2 : ¬ kl m d o e) : ¬ kl n c o e := by
  intro h
  rcases kl_total m o d e with h3 | ⟨rfl, rfl⟩ | h3
  · exact h2 h3
  · exact h1 h
  · exact h1 (kl_trans h h3)
/-- The cost of the points from a up to b. -/
def C (pts : List Int) (a b : Nat) : Int := cst ((pts.take b).drop a)
theorem C_nonneg (pts : List Int) (a b : Nat) : 0 ≤ C pts a b := cst_nonneg _
/-- 'Cut pts p t c n': c are right cuts of the first t points, and their total is n. -/
inductive Cut (pts : List Int) (p : Int) : Nat → List Int → Int → Prop
  | whole (t : Nat) (h : 1 ≤ t) : Cut pts p t [] (C pts 0 t)
  | more (s t : Nat) (c : List Int) (n : Int) (h1 : s < t) (h : Cut pts p s c n) : Cut pts p t (c ++ [(s : Int)]) (n + p + C pts s t)
theorem Cut.pos {pts : List Int} {p : Int} {t : Nat} {c : List Int} {n : Int} (h : Cut pts p t c n) : 1 ≤ t := by
  cases h with
  | whole _ h => exact h
  | more s t c n h1 h => omega
theorem Cut.det {pts : List Int} {p : Int} {t : Nat} {c : List Int} {n : Int} (h : Cut pts p t c n) : ∀ {m : Int}, Cut pts p t c m → n = m := by
  induction h with
  | whole t h =>
    intro m h'
    generalize hc : ([] : List Int) = c at h'
    cases h' with
    | whole => rfl
    | more s t c n h1 h => simp at hc
  | more s t c n h1 h ih =>
    intro m h'
    generalize hc : c ++ [(s : Int)] = d at h'
    cases h' with
    | whole => simp at hc
    | more s' t c' n' h1' h' =>
      have := List.append_inj' hc rfl
      obtain ⟨rfl, h2⟩ := this
      obtain rfl : s = s' := by
        have h3 : (s : Int) = (s' : Int) := by simpa using h2
        omega
      rw [ih h']
/-- The best one of the first t points. -/
structure Best (pts : List Int) (p : Int) (t : Nat) (n : Int) (c : List Int) : Prop where
  cut : Cut pts p t c n
  min : ∀ c' n', Cut pts p t c' n' → ¬ kl n' c' n c
theorem Best.uniq {pts : List Int} {p : Int} {t : Nat} {n m : Int} {c d : List Int} (h : Best pts p t n c) (h' : Best pts p t m d) : n = m ∧ c = d := by
  rcases kl_total n m c d with h2 | h2 | h2
  · exact absurd h2 (h'.min _ _ h.cut)
  · exact h2
  · exact absurd h2 (h.min _ _ h'.cut)
theorem Best.le {pts : List Int} {p : Int} {t : Nat} {n : Int} {c : List Int} (h : Best pts p t n c) {c' : List Int} {n' : Int} (h' : Cut pts p t c' n') : n ≤ n' := by
  rcases Int.lt_or_le n' n with h2 | h2
  · exact absurd (.inl h2) (h.min _ _ h')
  · exact h2
/-- What is stored of the first s points: the best segmentation, or the start. -/
def Row (pts : List Int) (p : Int) (s : Nat) (n : Int) (c : List Int) : Prop := (s = 0 ∧ n = -p ∧ c = []) ∨ Best pts p s n c
/-- The segmentation that goes on from s. -/
def candN (pts : List Int) (p : Int) (t s : Nat) (n : Int) : Int := n + p + C pts s t
def candC (s : Nat) (c : List Int) : List Int := if 0 < s then c ++ [(s : Int)] else c
theorem cand_cut {pts : List Int} {p : Int} {t s : Nat} {n : Int} {c : List Int} (h : Row pts p s n c) (hs : s < t) : Cut pts p t (candC s c) (candN pts p t s n) := by
  rcases h with ⟨rfl, rfl, rfl⟩ | h
  · have := Cut.whole (pts := pts) (p := p) t (by omega)
    unfold candN candC
    rw [if_neg (by omega)]
    have e : -p + p + C pts 0 t = C pts 0 t := by omega
    rw [e]
    exact this
  · have := h.cut.pos
    unfold candN candC
    rw [if_pos (by omega)]
    exact Cut.more s t c n hs h.cut
/-- If for each s < t the row is known, then what no candidate comes before is the best. -/
theorem best_of_cands {pts : List Int} {p : Int} {t : Nat} (N : Nat → Int) (K : Nat → List Int) (hrow : ∀ s, s < t → Row pts p s (N s) (K s)) {n : Int} {c : List Int} (hc : Cut pts p t c n)
    (hmin : ∀ s, s < t → ¬ kl (candN pts p t s (N s)) (candC s (K s)) n c) : Best pts p t n c := by
  refine ⟨hc, fun c' n' h' => ?_⟩
  cases h' with
  | whole _ h =>
    have h0 := hmin 0 (by omega)
    rcases hrow 0 (by omega) with ⟨_, e1, e2⟩ | hb
    · have e3 : candN pts p t 0 (N 0) = C pts 0 t := by unfold candN; rw [e1]; omega
      have e4 : candC 0 (K 0) = [] := by unfold candC; rw [if_neg (by omega)]; exact e2
      rw [e3, e4] at h0
      exact h0
    · exact absurd hb.cut.pos (by omega)
  | more s t c2 n2 h1 h2 =>
    have h0 := hmin s h1
    have hp := h2.pos
    rcases hrow s h1 with ⟨e, _, _⟩ | hb
    · omega
    · have h3 := hb.min _ _ h2
      have e4 : candC s (K s) = K s ++ [(s : Int)] := by unfold candC; rw [if_pos (by omega)]
      rw [e4] at h0
      refine not_kl_trans ?_ h0
      intro h5
      apply h3
      have e5 : n2 + p + C pts s t = n2 + (p + C pts s t) := by omega
      have e6 : candN pts p t s (N s) = N s + (p + C pts s t) := by unfold candN; omega
      rw [e5, e6] at h5
      exact (kl_snoc _ _).1 h5
theorem cst_bd (l : List Int) (B : Int) (h : ∀ x ∈ l, -B ≤ x ∧ x ≤ B) : cst l ≤ 2 * B * (l.length : Int) := by
  by_cases hl : l = []
  · subst hl; simp [cst, dev]
  · have h1 := cst_min l (med l)
    have hm := h _ (med_mem l hl)
    unfold cst
    generalize med l = m at hm
    clear h1 hl
    induction l with
    | nil => simp [dev]
    | cons x l ih =>
      have hx := h x List.mem_cons_self
      have := ih (fun y hy => h y (List.mem_cons_of_mem _ hy))
      simp only [dev, List.length_cons]
      push_cast
      rw [Int.mul_add]
      omega
theorem C_bd (pts : List Int) (h : ∀ x ∈ pts, -1099511627776 ≤ x ∧ x ≤ 1099511627776) (a b : Nat) : C pts a b ≤ 2199023255552 * ((b - a : Nat) : Int) := by
  have := cst_bd ((pts.take b).drop a) 1099511627776 (fun x hx => h x (List.mem_of_mem_take (List.mem_of_mem_drop hx)))
  have h2 : ((pts.take b).drop a).length ≤ b - a := by rw [List.length_drop, List.length_take]; omega
  unfold C
  omega
theorem Cut.bd {pts : List Int} {p : Int} (hp : ∀ x ∈ pts, -1099511627776 ≤ x ∧ x ≤ 1099511627776) (h0 : 0 ≤ p) (h1 : p ≤ 1099511627776) {t : Nat} {c : List Int} {n : Int} (h : Cut pts p t c n) : 0 ≤ n ∧ n ≤ 3298534883328 * (t : Int) := by
  induction h with
  | whole t h =>
    have := C_bd pts hp 0 t
    have := C_nonneg pts 0 t
    omega
  | more s t c n h2 h ih =>
    have := C_bd pts hp s t
    have := C_nonneg pts s t
    omega
theorem Cut.len {pts : List Int} {p : Int} {t : Nat} {c : List Int} {n : Int} (h : Cut pts p t c n) : c.length + 1 ≤ t := by
  induction h with
  | whole t h => simpa using h
  | more s t c n h1 h ih => simp; omega
end Go.Proofs.Ytiimanpmidnffaa.Seg
