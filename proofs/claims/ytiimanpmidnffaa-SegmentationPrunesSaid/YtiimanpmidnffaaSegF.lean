/- Plain mathematics of segmentation, part F: right cuts, their parts and totals. -/
import Derived.Test.YtiimanpmidnffaaSegD
namespace Go.Proofs.Ytiimanpmidnffaa.Seg
set_option linter.unusedVariables false
set_option linter.unusedSimpArgs false
/-- The error of cuts behind 'a'. -/
def cutErr (n : Nat) (a : Int) : List Int → Int
  | [] => 0
  | c :: cs => if c < 1 ∨ (n : Int) ≤ c then 2 else if c ≤ a then 8 else cutErr n c cs
/-- The total of the parts from 'a' on. -/
def fw (pts : List Int) (t a : Nat) : List Int → Int
  | [] => C pts a t
  | c :: cs => C pts a c.toNat + fw pts t c.toNat cs
/-- The parts from 'a' on. -/
def prt (l : List Int) (a : Nat) : List Int → List (List Int)
  | [] => [l.drop a]
  | c :: cs => (l.take c.toNat).drop a :: prt l c.toNat cs
def sumc : List (List Int) → Int
  | [] => 0
  | x :: r => cst x + sumc r
def tot (l : List Int) (p : Int) (c : List Int) : Int := p * (c.length : Int) + fw l l.length 0 c
theorem sumc_prt (l : List Int) : ∀ (cs : List Int) (a : Nat), sumc (prt l a cs) = fw l l.length a cs := by
  intro cs
  induction cs with
  | nil => intro a; simp only [prt, sumc, fw, C, List.take_length]; omega
  | cons c cs ih => intro a; simp only [prt, sumc, fw, ih, C]
theorem prt_length (l : List Int) : ∀ (cs : List Int) (a : Nat), (prt l a cs).length = cs.length + 1 := by
  intro cs
  induction cs with
  | nil => intro a; rfl
  | cons c cs ih => intro a; simp only [prt, List.length_cons, ih]
theorem fw_snoc (pts : List Int) (t s : Nat) : ∀ (cs : List Int) (a : Nat), fw pts t a (cs ++ [(s : Int)]) = fw pts s a cs + C pts s t := by
  intro cs
  induction cs with
  | nil => intro a; simp [fw]
  | cons c cs ih => intro a; simp only [List.cons_append, fw, ih]; omega
theorem cutErr_snoc (n s : Nat) (hs : s < n) : ∀ (cs : List Int) (a : Int), cutErr n a (cs ++ [(s : Int)]) = 0 → cutErr s a cs = 0 ∧ a < (s : Int) ∧ 1 ≤ s := by
  intro cs
  induction cs with
  | nil =>
    intro a h
    simp only [List.nil_append, cutErr] at h
    split at h
    · omega
    · split at h
      · omega
      · exact ⟨rfl, by omega, by omega⟩
  | cons c cs ih =>
    intro a h
    simp only [List.cons_append, cutErr] at h
    split at h
    · omega
    · split at h
      · omega
      · obtain ⟨h1, h2, h3⟩ := ih c h
        refine ⟨?_, by omega, h3⟩
        simp only [cutErr]
        rw [if_neg (by omega), if_neg (by omega)]
        exact h1
theorem cutErr_mk (n s : Nat) (hs : s < n) (h1 : 1 ≤ s) : ∀ (cs : List Int) (a : Int), a < (s : Int) → cutErr s a cs = 0 → cutErr n a (cs ++ [(s : Int)]) = 0 := by
  intro cs
  induction cs with
  | nil => intro a ha _; simp only [List.nil_append, cutErr]; rw [if_neg (by omega), if_neg (by omega)]
  | cons c cs ih =>
    intro a ha h
    simp only [cutErr] at h
    split at h
    · omega
    · split at h
      · omega
      · simp only [List.cons_append, cutErr]
        rw [if_neg (by omega), if_neg (by omega)]
        exact ih c (by omega) h
theorem cutErr_mem (n : Nat) : ∀ (cs : List Int) (a : Int), cutErr n a cs = 0 → ∀ c ∈ cs, 1 ≤ c ∧ c < (n : Int) := by
  intro cs
  induction cs with
  | nil => intro a _ c hc; cases hc
  | cons x cs ih =>
    intro a h c hc
    simp only [cutErr] at h
    split at h
    · omega
    · split at h
      · omega
      · rcases List.mem_cons.1 hc with rfl | hc
        · omega
        · exact ih x h c hc
/-- Right cuts have exactly one total. -/
theorem Cut.of (pts : List Int) (p : Int) : ∀ (k t : Nat) (c : List Int), c.length = k → 1 ≤ t → cutErr t 0 c = 0 → Cut pts p t c (p * (c.length : Int) + fw pts t 0 c) := by
  intro k
  induction k with
  | zero =>
    intro t c hc ht _
    obtain rfl : c = [] := List.length_eq_zero_iff.1 hc
    have := Cut.whole (pts := pts) (p := p) t ht
    simpa [fw] using this
  | succ k ih =>
    intro t c hc ht h
    rcases List.eq_nil_or_concat c with rfl | ⟨c', x, rfl⟩
    · simp at hc
    · have hm := cutErr_mem t _ 0 h x (by simp)
      obtain ⟨s, rfl⟩ := Int.eq_ofNat_of_zero_le (show 0 ≤ x by omega)
      simp only [List.concat_eq_append] at h hc ⊢
      have hst : s < t := by omega
      obtain ⟨h1, _, h2⟩ := cutErr_snoc t s hst c' 0 h
      have := Cut.more s t c' _ hst (ih s c' (by simpa using hc) h2 h1)
      rw [fw_snoc]
      have e : p * (c'.length : Int) + fw pts s 0 c' + p + C pts s t = p * (((c' ++ [(s : Int)]).length : Nat) : Int) + (fw pts s 0 c' + C pts s t) := by
        rw [List.length_append, List.length_singleton]; push_cast; rw [Int.mul_add]; omega
      rw [← e]
      exact this
theorem Cut.ok {pts : List Int} {p : Int} {t : Nat} {c : List Int} {n : Int} (h : Cut pts p t c n) : cutErr t 0 c = 0 := by
  induction h with
  | whole t h => rfl
  | more s t c n h1 h ih => exact cutErr_mk t s h1 h.pos c 0 (by have := h.pos; omega) ih
theorem Cut.total {l : List Int} {p : Int} {c : List Int} {n : Int} (h : Cut l p l.length c n) : n = tot l p c := h.det (Cut.of l p _ l.length c rfl h.pos h.ok)
theorem Cut.mk {l : List Int} {p : Int} {c : List Int} (hl : l ≠ []) (h : cutErr l.length 0 c = 0) : Cut l p l.length c (tot l p c) := Cut.of l p _ l.length c rfl (List.length_pos_iff.2 hl) h
/-- Parts of points. -/
def lens : List (List Int) → Nat
  | [] => 0
  | x :: r => x.length + lens r
theorem prt_ok (l : List Int) : ∀ (cs : List Int) (a : Nat), cutErr l.length a cs = 0 → a < l.length → (∀ x ∈ prt l a cs, x ≠ [] ∧ ∀ y ∈ x, y ∈ l) ∧ lens (prt l a cs) = l.length - a := by
  intro cs
  induction cs with
  | nil =>
    intro a _ ha
    refine ⟨fun x hx => ?_, ?_⟩
    · simp only [prt, List.mem_singleton] at hx
      subst hx
      exact ⟨fun e => by have := congrArg List.length e; simp at this; omega, fun y hy => List.mem_of_mem_drop hy⟩
    · simp [prt, lens]
  | cons c cs ih =>
    intro a h ha
    simp only [cutErr] at h
    split at h
    · omega
    · split at h
      · omega
      · have e : (c.toNat : Int) = c := Int.toNat_of_nonneg (by omega)
        obtain ⟨h1, h2⟩ := ih c.toNat (by rw [e]; exact h) (by omega)
        refine ⟨fun x hx => ?_, ?_⟩
        · simp only [prt, List.mem_cons] at hx
          rcases hx with rfl | hx
          · refine ⟨fun e => ?_, fun y hy => List.mem_of_mem_take (List.mem_of_mem_drop hy)⟩
            have := congrArg List.length e
            rw [List.length_drop, List.length_take] at this
            simp at this
            omega
          · exact h1 x hx
        · simp only [prt, lens, h2, List.length_drop, List.length_take]
          omega
theorem cutErr_len (n : Nat) : ∀ (cs : List Int) (a : Nat), cutErr n (a : Int) cs = 0 → a < n → a + cs.length < n := by
  intro cs
  induction cs with
  | nil => intro a _ h; simpa using h
  | cons c cs ih =>
    intro a h ha
    simp only [cutErr] at h
    split at h
    · omega
    · split at h
      · omega
      · have e : (c.toNat : Int) = c := Int.toNat_of_nonneg (by omega)
        have := ih c.toNat (by rw [e]; exact h) (by omega)
        simp only [List.length_cons]
        omega
theorem sumc_bd : ∀ (r : List (List Int)), (∀ x ∈ r, ∀ y ∈ x, -1099511627776 ≤ y ∧ y ≤ 1099511627776) → 0 ≤ sumc r ∧ sumc r ≤ 2199023255552 * (lens r : Int) := by
  intro r
  induction r with
  | nil => intro _; simp [sumc, lens]
  | cons x r ih =>
    intro h
    have h1 := ih (fun y hy => h y (List.mem_cons_of_mem _ hy))
    have h2 := cst_bd x 1099511627776 (h x List.mem_cons_self)
    have h3 := cst_nonneg x
    simp only [sumc, lens]
    push_cast
    omega
end Go.Proofs.Ytiimanpmidnffaa.Seg
