/- changepoint.Test: the plain mathematics, the walk, the contract. -/
import Derived.Test.YtcjgmofgfblmnaaHd
import Derived.Test.YtcjgmofgfblmnaaWd
import Derived.Laws.Rows
import Derived.Lib.Hide
import Derived.RegionTactic
import Derived.ChangeAlike
import Derived.BigRegion
import Derived.StillTailTactics
import Derived.Outline
import Derived.Test.YtcjgmofgfblmnaaQgChg
namespace Go.Proofs.Ytcjgmofgfblmnaa.Tst
set_option linter.unusedVariables false
set_option linter.unusedSimpArgs false
set_option linter.unusedSimpArgs false
/-- The sum of a list. -/
def sm : List Int → Int
  | [] => 0
  | x :: l => x + sm l
theorem sm_append (a b : List Int) : sm (a ++ b) = sm a + sm b := by
  induction a with
  | nil => simp [sm]
  | cons x a ih => simp only [List.cons_append, sm, ih]; omega
theorem sm_perm {a b : List Int} (h : a.Perm b) : sm a = sm b := by
  induction h with
  | nil => rfl
  | cons x _ ih => simp only [sm, ih]
  | swap x y l => simp only [sm]; omega
  | trans _ _ h1 h2 => exact h1.trans h2
/-- The sizes and the sums of all choices of some numbers. -/
def subs : List Int → List (Nat × Int)
  | [] => [(0, 0)]
  | r :: l => subs l ++ (subs l).map fun p => (p.1 + 1, p.2 + r)
theorem subs_perm {a b : List Int} (h : a.Perm b) : (subs a).Perm (subs b) := by
  induction h with
  | nil => exact .refl _
  | cons x _ ih => exact ih.append (ih.map _)
  | swap x y l =>
    simp only [subs, List.map_append, List.map_map]
    have e : ((fun p : Nat × Int => (p.1 + 1, p.2 + y)) ∘ fun p : Nat × Int => (p.1 + 1, p.2 + x)) = ((fun p : Nat × Int => (p.1 + 1, p.2 + x)) ∘ fun p : Nat × Int => (p.1 + 1, p.2 + y)) := by
      funext p
      simp only [Function.comp, Prod.mk.injEq, true_and]
      omega
    rw [e, List.append_assoc, List.append_assoc]
    refine List.Perm.append_left _ ?_
    rw [← List.append_assoc, ← List.append_assoc]
    exact List.Perm.append_right _ List.perm_append_comm
  | trans _ _ h1 h2 => exact h1.trans h2
theorem subs_size {l : List Int} : ∀ p ∈ subs l, p.1 ≤ l.length := by
  induction l with
  | nil => intro p hp; simp [subs] at hp; simp [hp]
  | cons r l ih =>
    intro p hp
    simp only [subs, List.mem_append, List.mem_map] at hp
    rcases hp with hp | ⟨q, hq, rfl⟩
    · have := ih p hp; simp only [List.length_cons]; omega
    · have := ih q hq; simp only [List.length_cons]; omega
theorem subs_sum {l : List Int} (h : ∀ x ∈ l, 0 ≤ x) : ∀ p ∈ subs l, 0 ≤ p.2 ∧ p.2 ≤ sm l := by
  induction l with
  | nil => intro p hp; simp [subs] at hp; simp [hp, sm]
  | cons r l ih =>
    have h0 := h r List.mem_cons_self
    have ih := ih (fun x hx => h x (List.mem_cons_of_mem _ hx))
    intro p hp
    simp only [subs, List.mem_append, List.mem_map] at hp
    simp only [sm]
    rcases hp with hp | ⟨q, hq, rfl⟩
    · have := ih p hp; omega
    · have := ih q hq; simp only; omega
/-- How many choices of so many numbers there are. -/
def total (l : List Int) (m : Nat) : Nat := (subs l).countP fun p => decide (p.1 = m)
/-- How many of them are as far from the middle. -/
def ext (l : List Int) (m : Nat) (mid far : Int) : Nat := (subs l).countP fun p => decide (p.1 = m) && decide (far ≤ max (p.2 - mid) (mid - p.2))
theorem total_perm {a b : List Int} (h : a.Perm b) (m : Nat) : total a m = total b m := (subs_perm h).countP_eq _
theorem ext_perm {a b : List Int} (h : a.Perm b) (m : Nat) (mid far : Int) : ext a m mid far = ext b m mid far := (subs_perm h).countP_eq _
theorem countP_congr' {α : Type} (p q : α → Bool) (l : List α) (h : ∀ x ∈ l, p x = q x) : l.countP p = l.countP q := by
  induction l with
  | nil => rfl
  | cons x l ih =>
    rw [List.countP_cons, List.countP_cons, h x List.mem_cons_self, ih (fun y hy => h y (List.mem_cons_of_mem _ hy))]
/-! The number of choices. -/
def ch : Nat → Nat → Nat
  | _, 0 => 1
  | 0, _ + 1 => 0
  | n + 1, k + 1 => ch n k + ch n (k + 1)
theorem total_cons (r : Int) (l : List Int) (k : Nat) : total (r :: l) (k + 1) = total l (k + 1) + total l k := by
  unfold total
  simp only [subs, List.countP_append, List.countP_map]
  congr 1
  refine countP_congr' _ _ _ (fun p _ => ?_)
  simp only [Function.comp, decide_eq_decide]
  omega
theorem total_zero (l : List Int) : total l 0 = 1 := by
  induction l with
  | nil => rfl
  | cons r l ih =>
    unfold total at ih ⊢
    simp only [subs, List.countP_append, List.countP_map, ih]
    rw [show (subs l).countP ((fun p => decide (p.1 = 0)) ∘ fun p => (p.1 + 1, p.2 + r)) = 0 from by
      rw [List.countP_eq_zero]
      intro p _
      simp]
theorem total_ch (l : List Int) : ∀ k, total l k = ch l.length k := by
  induction l with
  | nil =>
    intro k
    cases k with
    | zero => rfl
    | succ k => simp [total, subs, ch]
  | cons r l ih =>
    intro k
    cases k with
    | zero => rw [total_zero]; simp [ch]
    | succ k => rw [total_cons, ih, ih, List.length_cons, ch]; omega
theorem ch_le (n : Nat) : ∀ k, ch n k ≤ 2 ^ n := by
  induction n with
  | zero => intro k; cases k <;> simp [ch]
  | succ n ih =>
    intro k
    cases k with
    | zero => simp [ch]; exact Nat.one_le_two_pow
    | succ k => have h1 := ih k; have h2 := ih (k + 1); rw [ch, Nat.pow_succ]; omega
/-! Midranks. -/
def less (l : List Int) (v : Int) : Nat := l.countP fun w => decide (w < v)
def eqs (l : List Int) (v : Int) : Nat := l.countP fun w => decide (w = v)
def mid (l : List Int) (v : Int) : Int := 2 * (less l v : Int) + (eqs l v : Int) + 1
def ranks (l : List Int) : List Int := l.map (mid l)
theorem ranks_length (l : List Int) : (ranks l).length = l.length := List.length_map ..
theorem mid_bd (l : List Int) (v : Int) : 1 ≤ mid l v ∧ mid l v ≤ 2 * (l.length : Int) + 1 := by
  have h : less l v + eqs l v ≤ l.length := by
    induction l with
    | nil => simp [less, eqs]
    | cons x l ih =>
      unfold less eqs at ih ⊢
      rw [List.countP_cons, List.countP_cons, List.length_cons]
      by_cases h1 : x < v
      · have h2 : ¬ x = v := by omega
        simp [h1, h2]; omega
      · by_cases h2 : x = v <;> simp [h1, h2] <;> omega
  unfold mid
  omega
/-- All ranks together. -/
theorem cnt (p : Int → Bool) (x : Int) (l : List Int) : (x :: l).countP p = (if p x = true then 1 else 0) + l.countP p := by rw [List.countP_cons]; omega
theorem mid_cons (x : Int) (l : List Int) (v : Int) : mid (x :: l) v = mid l v + 2 * (if x < v then 1 else 0) + (if x = v then 1 else 0) := by
  unfold mid less eqs
  rw [cnt, cnt]
  simp only [decide_eq_true_eq]
  split <;> split <;> omega
theorem sm_pair (l k : List Int) (x : Int) : sm (k.map fun v => mid (x :: l) v) = sm (k.map fun v => mid l v) + 2 * (k.countP fun v => decide (x < v) : Nat) + (k.countP fun v => decide (x = v) : Nat) := by
  induction k with
  | nil => simp [sm]
  | cons v k ih =>
    simp only [List.map_cons, sm, ih, cnt, decide_eq_true_eq]
    rw [mid_cons x l v]
    split <;> split <;> omega
theorem three (l : List Int) (x : Int) : (l.countP fun v => decide (x < v)) + (l.countP fun v => decide (x = v)) + less l x = l.length := by
  induction l with
  | nil => rfl
  | cons v l ih =>
    unfold less at ih ⊢
    simp only [cnt, List.length_cons, decide_eq_true_eq]
    split <;> split <;> split <;> omega
theorem eqs_comm (l : List Int) (x : Int) : (l.countP fun v => decide (x = v)) = eqs l x := by
  unfold eqs
  refine countP_congr' _ _ _ (fun v _ => ?_)
  simp only [decide_eq_decide]
  exact eq_comm
theorem sm_ranks (l : List Int) : sm (ranks l) = (l.length : Int) * ((l.length : Int) + 1) := by
  induction l with
  | nil => rfl
  | cons x l ih =>
    unfold ranks at ih ⊢
    rw [List.map_cons]
    simp only [sm]
    rw [sm_pair, ih]
    have h3 := three l x
    have h4 := eqs_comm l x
    have e : mid (x :: l) x = mid l x + 1 := by
      unfold mid less eqs
      simp [List.countP_cons]
      omega
    rw [e]
    unfold mid
    rw [List.length_cons, Int.natCast_add]
    have e2 : ((l.length : Int) + (1 : Nat)) * ((l.length : Int) + (1 : Nat) + 1) = (l.length : Int) * ((l.length : Int) + 1) + 2 * (l.length : Int) + 2 := by
      simp only [Int.mul_add, Int.add_mul]
      omega
    rw [e2]
    omega
theorem sm_take_drop (l : List Int) (m : Nat) : sm (l.take m) + sm (l.drop m) = sm l := by rw [← sm_append, List.take_append_drop]
/-! Adding a number, changing the signs. -/
/-! The table of the ways. -/
def ways (l : List Int) (k : Nat) (s : Int) : Nat := (subs l).countP fun p => decide (p.1 = k) && decide (p.2 = s)
theorem ways_cons (r : Int) (l : List Int) (k : Nat) (s : Int) : ways (r :: l) (k + 1) s = ways l (k + 1) s + ways l k (s - r) := by
  unfold ways
  simp only [subs, List.countP_append, List.countP_map]
  congr 1
  refine countP_congr' _ _ _ (fun p _ => ?_)
  simp only [Function.comp]
  congr 1
  · simp only [decide_eq_decide]; omega
  · simp only [decide_eq_decide]; omega
theorem ways_zero (r : Int) (l : List Int) (s : Int) : ways (r :: l) 0 s = ways l 0 s := by
  unfold ways
  simp only [subs, List.countP_append, List.countP_map]
  rw [show (subs l).countP ((fun p => decide (p.1 = 0) && decide (p.2 = s)) ∘ fun p => (p.1 + 1, p.2 + r)) = 0 from by
    rw [List.countP_eq_zero]
    intro p _
    simp]
  omega
theorem ways_none (l : List Int) (k : Nat) (s : Int) (h : l.length < k) : ways l k s = 0 := by
  unfold ways
  rw [List.countP_eq_zero]
  intro p hp
  have := subs_size p hp
  have : ¬ p.1 = k := by omega
  simp [this]
theorem ways_neg (l : List Int) (hl : ∀ x ∈ l, 0 ≤ x) (k : Nat) (s : Int) (h : s < 0) : ways l k s = 0 := by
  unfold ways
  rw [List.countP_eq_zero]
  intro p hp
  have := subs_sum hl p hp
  have : ¬ p.2 = s := by omega
  simp [this]
theorem ways_le (l : List Int) (k : Nat) (s : Int) : ways l k s ≤ total l k := by
  unfold ways total
  refine List.countP_mono_left (fun p _ h => ?_)
  simp only [Bool.and_eq_true] at h
  exact h.1
theorem ways_bd (l : List Int) (k : Nat) (s : Int) : ways l k s ≤ 2 ^ l.length := Nat.le_trans (ways_le l k s) (by rw [total_ch]; exact ch_le _ _)
/-- Sums over the sums from 0 on. -/
def upto (f : Nat → Nat) : Nat → Nat
  | 0 => 0
  | n + 1 => upto f n + f n
theorem upto_countP {α : Type} (L : List α) (g : α → Int) (q : α → Bool) (N : Nat) : upto (fun s => L.countP fun p => q p && decide (g p = (s : Int))) N = L.countP fun p => q p && (decide (0 ≤ g p) && decide (g p < (N : Int))) := by
  induction N with
  | zero =>
    rw [upto]
    symm
    rw [List.countP_eq_zero]
    intro p _
    have : ¬ (0 ≤ g p ∧ g p < ((0 : Nat) : Int)) := by omega
    simp only [Bool.and_eq_true, decide_eq_true_eq]
    omega
  | succ N ih =>
    rw [upto, ih]
    clear ih
    induction L with
    | nil => rfl
    | cons p L ih =>
      simp only [List.countP_cons]
      rw [← ih]
      have e : (if (q p && (decide (0 ≤ g p) && decide (g p < ((N + 1 : Nat) : Int)))) = true then 1 else 0) = (if (q p && (decide (0 ≤ g p) && decide (g p < (N : Int)))) = true then 1 else 0) + (if (q p && decide (g p = (N : Int))) = true then 1 else 0 : Nat) := by
        cases q p with
        | false => simp
        | true =>
          by_cases h1 : g p = (N : Int)
          · have h2 : ¬ g p < (N : Int) := by omega
            have h3 : g p < ((N + 1 : Nat) : Int) := by omega
            have h4 : 0 ≤ g p := by omega
            simp [h1]
            omega
          · have e3 : decide (g p < ((N + 1 : Nat) : Int)) = decide (g p < (N : Int)) := by simp only [decide_eq_decide]; omega
            rw [e3]
            simp [h1]
      omega
theorem upto_congr (f g : Nat → Nat) (N : Nat) (h : ∀ s, s < N → f s = g s) : upto f N = upto g N := by
  induction N with
  | zero => rfl
  | succ N ih => rw [upto, upto, ih (fun s hs => h s (by omega)), h N (by omega)]
theorem upto_ways (l : List Int) (hl : ∀ x ∈ l, 0 ≤ x) (k N : Nat) (hN : sm l < (N : Int)) : upto (fun s => ways l k (s : Int)) N = total l k := by
  unfold ways total
  rw [upto_countP (subs l) (fun p => p.2) (fun p => decide (p.1 = k)) N]
  refine countP_congr' _ _ _ (fun p hp => ?_)
  have := subs_sum hl p hp
  have h1 : 0 ≤ p.2 := by omega
  have h2 : p.2 < (N : Int) := by omega
  simp [h1, h2]
theorem upto_ext (l : List Int) (hl : ∀ x ∈ l, 0 ≤ x) (k N : Nat) (hN : sm l < (N : Int)) (m far : Int) : upto (fun s => if far ≤ max ((s : Int) - m) (m - (s : Int)) then ways l k (s : Int) else 0) N = ext l k m far := by
  unfold ways ext
  have e : ∀ s : Nat, (if far ≤ max ((s : Int) - m) (m - (s : Int)) then (subs l).countP (fun p => decide (p.1 = k) && decide (p.2 = (s : Int))) else 0) = (subs l).countP fun p => (decide (p.1 = k) && decide (far ≤ max (p.2 - m) (m - p.2))) && decide (p.2 = (s : Int)) := by
    intro s
    split
    · rename_i h
      refine countP_congr' _ _ _ (fun p _ => ?_)
      by_cases e : p.2 = (s : Int)
      · simp [e, h]
      · simp [e]
    · rename_i h
      symm
      rw [List.countP_eq_zero]
      intro p _
      by_cases e : p.2 = (s : Int)
      · simp [e, h]
      · simp [e]
  rw [upto_congr _ _ N (fun s _ => e s), upto_countP (subs l) (fun p => p.2) (fun p => decide (p.1 = k) && decide (far ≤ max (p.2 - m) (m - p.2))) N]
  refine countP_congr' _ _ _ (fun p hp => ?_)
  have := subs_sum hl p hp
  have h1 : 0 ≤ p.2 := by omega
  have h2 : p.2 < (N : Int) := by omega
  simp [h1, h2]
end Go.Proofs.Ytcjgmofgfblmnaa.Tst
namespace Go.Proofs.Ytcjgmofgfblmnaa.TstV
open Go.RowKit Go.Shelf Go.Proofs.YtcjgmofgfblmnaaW.PrintWords Go.Proofs.YtcjgmofgfblmnaaW.PrintLast Go.Proofs.YtcjgmofgfblmnaaW.PrintMore
attribute [local go_sem] max2_int min2_int max_two min_two max_three min_three max_four min_four
set_option linter.unusedVariables false
set_option linter.unusedSimpArgs false
set_option linter.unusedSimpArgs false
def isZ : Value → Bool
  | .int .i64 (.ofNat 0) => true
  | _ => false
theorem isZ_eq {v : Value} (h : isZ v = true) : v = .int .i64 0 := by
  unfold isZ at h
  split at h
  · rfl
  · cases h
def allZ : List Value → Bool
  | [] => true
  | v :: l => isZ v && allZ l
theorem allZ_mem {l : List Value} (h : allZ l = true) : ∀ v ∈ l, v = .int .i64 0 := by
  induction l with
  | nil => intro v hv; cases hv
  | cons x l ih =>
    simp only [allZ, Bool.and_eq_true] at h
    intro v hv
    rcases List.mem_cons.1 hv with rfl | hv
    · exact isZ_eq h.1
    · exact ih h.2 v hv
theorem zTab : allZ Try.zeroCells89.toList = true := by kernel_rfl
/-- The table of the ways, in its block. -/
def Tab (w : World) (g : Nat) (F : Nat → Nat → Int) : Prop := ∃ cs, w.heap[g]? = some (.cells cs 89 (0, 0)) ∧ cs.size = 34881 ∧ ∀ k s, k < 33 → s < 1057 → cs[k * 1057 + s]? = some (.int .i64 (F k s))
theorem Tab.zero (w : World) : Tab (w.alloc (.cells Try.zeroCells89 89)) w.heap.size (fun _ _ => 0) := by
  refine ⟨_, heap_alloc_new _ _, Try.zeroCells89_size, fun k s hk hs => ?_⟩
  have hlt : k * 1057 + s < Try.zeroCells89.size := by rw [Try.zeroCells89_size]; omega
  rw [Array.getElem?_eq_getElem hlt]
  congr 1
  exact allZ_mem zTab _ (by rw [Array.mem_toList_iff]; exact Array.getElem_mem hlt)
theorem Tab.cell {w : World} {g : Nat} {F : Nat → Nat → Int} (h : Tab w g F) (k s : Nat) (hk : k < 33) (hs : s < 1057) : w.cell? ⟨g, k * 1057 + s, none⟩ = some (.int .i64 (F k s)) := by
  obtain ⟨cs, hc, _, h3⟩ := h
  rw [blk_cell hc, h3 k s hk hs]
theorem Tab.frozen {w : World} {g : Nat} {F : Nat → Nat → Int} (h : Tab w g F) (j : Nat) : w.frozen? ⟨g, j, none⟩ = false := by
  obtain ⟨cs, hc, _, h3⟩ := h
  exact blk_frozen hc _
theorem Tab.congr {w : World} {g : Nat} {F G : Nat → Nat → Int} (h : Tab w g F) (e : ∀ k s, k < 33 → s < 1057 → F k s = G k s) : Tab w g G := by
  obtain ⟨cs, hc, hz, h3⟩ := h
  exact ⟨cs, hc, hz, fun k s hk hs => by rw [h3 k s hk hs, e k s hk hs]⟩
def put (F : Nat → Nat → Int) (k s : Nat) (v : Int) : Nat → Nat → Int := fun k' s' => if k' = k ∧ s' = s then v else F k' s'
theorem Tab.set {w : World} {g : Nat} {F : Nat → Nat → Int} (h : Tab w g F) (k s : Nat) (hk : k < 33) (hs : s < 1057) (v : Int) : Tab (w.setCell ⟨g, k * 1057 + s, none⟩ (.int .i64 v)) g (put F k s v) := by
  obtain ⟨cs, hc, hz, h3⟩ := h
  refine ⟨_, blk_set hc _ _, by simpa using hz, fun k' s' hk' hs' => ?_⟩
  rw [Array.getElem?_setIfInBounds]
  unfold put
  by_cases e : k' = k ∧ s' = s
  · rw [if_pos (by rw [e.1, e.2]), if_pos (by rw [hz]; omega), if_pos e]
  · rw [if_neg (by omega), if_neg e, h3 k' s' hk' hs']
theorem Tab.start (w : World) (m : Nat) (F : Nat → Nat → Int) (hF : put (fun _ _ => 0) 0 0 1 = F) : Tab (w.alloc (.cells (Try.zeroCells89.setIfInBounds 0 (.int .i64 1)) 89)) w.heap.size F := by
  obtain ⟨cs, hc, hz, h3⟩ := Tab.zero w
  rw [heap_alloc_new] at hc
  injection hc with hc
  injection hc with hc _ _
  subst hc
  refine ⟨_, heap_alloc_new _ _, by simp, fun k s hk hs => ?_⟩
  rw [← hF, Array.getElem?_setIfInBounds]
  unfold put
  by_cases e : k = 0 ∧ s = 0
  · rw [if_pos (by omega), if_pos (by omega), if_pos e]
  · rw [if_neg (by omega), if_neg e, h3 k s hk hs]
theorem Tab.drewN {w : World} {g : Nat} {F : Nat → Nat → Int} (h : Tab w g F) (n : Nat) : Tab (w.drewN n) g F := h
theorem Tab.drew {w : World} {g : Nat} {F : Nat → Nat → Int} (h : Tab w g F) : Tab w.drew g F := h
theorem Tab.below {w w1 : World} {g : Nat} {F : Nat → Nat → Int} (h : Tab w g F) (hb : Below w.heap.size w w1) : Tab w1 g F := by
  obtain ⟨cs, hc, hz, h3⟩ := h
  exact ⟨cs, (hb.block g (blk_lt hc)).trans hc, hz, h3⟩
/-- An element of a row that was read out whole. -/
theorem idx88 (cs : Array Value) (i : Nat) (v : Value) (hi : i < 1057) (hv : cs[i]? = some v) (h1 : v.oneCell' = true) (w : World) : (Instr.index 88 (.agg cs) (.int .i64 i)).run Try.prog w = .ok v w := by
  have hu := run_underlying Try.underlying88
  have hs := Try.sizeOf3
  have ha := Try.isAgg3
  unfold Instr.index
  simp only [asIntOf, Sem.run_bind, Sem.run_pure, Result.andThen_ok, hu]
  rw [if_pos ⟨by omega, by omega⟩]
  simp only [Sem.run_bind, hs, Result.andThen_ok, Int.toNat_natCast, Nat.mul_one]
  unfold part
  simp only [Sem.run_bind, ha, Result.andThen_ok, hv]
  simp
theorem loadRow {w : World} {g : Nat} {F : Nat → Nat → Int} (h : Tab w g F) (k : Nat) (hk : k < 33) : ∃ row : Array Value, (loadVar 88 ⟨g, k * 1057, none⟩).run Try.prog w = .ok (.agg row) w ∧ ∀ s, s < 1057 → row[s]? = some (.int .i64 (F k s)) := by
  refine ⟨((List.range 1057).map fun s => Value.int .i64 (F k s)).toArray, ?_, fun s hs => ?_⟩
  · have hl := run_loadCells_list (P := Try.prog) w ⟨g, k * 1057, none⟩ ((List.range 1057).map fun s => Value.int .i64 (F k s)) (fun j v hv => by
      have hj : j < 1057 := by
        have := (List.getElem?_eq_some_iff.1 hv).1
        simpa using this
      rw [List.getElem?_map, List.getElem?_range hj] at hv
      have hadd : (⟨g, k * 1057, none⟩ : Addr).add j = ⟨g, k * 1057 + j, none⟩ := by unfold Addr.add; split <;> simp_all
      rw [hadd, h.cell k j hk hj]
      exact hv)
    rw [List.length_map, List.length_range] at hl
    unfold loadVar
    simp only [Sem.run_bind, Try.isAgg88, Try.sizeOf88, Result.andThen_ok, if_true, hl, Sem.run_pure]
  · simp [hs]
/-! What the rounds do to the table. -/
def add (F : Nat → Nat → Int) (k r d : Nat) : Nat → Nat → Int := fun k' j => if k' = k + 1 ∧ d + r ≤ j then wrap64 (F (k + 1) j + F k (j - r)) else F k' j
theorem add_put (F : Nat → Nat → Int) (k r d : Nat) : put (add F k r (d + 1)) (k + 1) (d + r) (wrap64 (add F k r (d + 1) (k + 1) (d + r) + add F k r (d + 1) k d)) = add F k r d := by
  funext k' j
  unfold put add
  rw [if_neg (show ¬ (k + 1 = k + 1 ∧ d + 1 + r ≤ d + r) by omega), if_neg (show ¬ (k = k + 1 ∧ d + 1 + r ≤ d) by omega)]
  by_cases e : k' = k + 1 ∧ j = d + r
  · rw [if_pos e, if_pos (by omega), e.2, Nat.add_sub_cancel]
  · rw [if_neg e]
    by_cases e2 : k' = k + 1 ∧ d + 1 + r ≤ j
    · rw [if_pos e2, if_pos (by omega)]
    · rw [if_neg e2, if_neg (by omega)]
theorem Tab.add_start {w : World} {g : Nat} {F : Nat → Nat → Int} (h : Tab w g F) (k r e : Nat) (he : e + r = 1057) : Tab w g (add F k r e) :=
  h.congr (fun k' s hk hs => by unfold add; rw [if_neg (by omega)])
/-- The rows above d are done, up to K + 1. -/
def addk (F : Nat → Nat → Int) (r K d : Nat) : Nat → Nat → Int := fun k' j => if d < k' ∧ k' ≤ K + 1 ∧ r ≤ j then wrap64 (F k' j + F (k' - 1) (j - r)) else F k' j
theorem addk_start (F : Nat → Nat → Int) (r K : Nat) : addk F r K (K + 1) = F := by
  funext k' j
  unfold addk
  rw [if_neg (by omega)]
theorem addk_add (F : Nat → Nat → Int) (r K d : Nat) (hd : d ≤ K) : add (addk F r K (d + 1)) d r 0 = addk F r K d := by
  funext k' j
  unfold add addk
  rw [if_neg (show ¬ (d + 1 < d + 1 ∧ d + 1 ≤ K + 1 ∧ r ≤ j) by omega), if_neg (show ¬ (d + 1 < d ∧ d ≤ K + 1 ∧ r ≤ j - r) by omega)]
  by_cases e : k' = d + 1 ∧ 0 + r ≤ j
  · rw [if_pos e, if_pos (by omega), e.1, Nat.add_sub_cancel]
  · rw [if_neg e]
    by_cases e2 : d + 1 < k' ∧ k' ≤ K + 1 ∧ r ≤ j
    · rw [if_pos e2, if_pos (by omega)]
    · rw [if_neg e2, if_neg (by omega)]
open Go.Proofs.Ytcjgmofgfblmnaa.Tst
/-- The table behind some ranks: for choices of at most m. -/
def WF (m : Nat) (L : List Int) : Nat → Nat → Int := fun k s => if k ≤ m then (Tst.ways L k (s : Int) : Int) else 0
theorem WF_nil (m : Nat) (hm : 0 < m) : put (fun _ _ => (0 : Int)) 0 0 1 = WF m [] := by
  funext k s
  unfold put WF Tst.ways
  by_cases e : k = 0 ∧ s = 0
  · rw [if_pos e, if_pos (by omega), e.1, e.2]
    rfl
  · rw [if_neg e]
    split
    · simp only [subs, List.countP_cons, List.countP_nil]
      by_cases e1 : (0 : Nat) = k
      · have e2 : ¬ ((0 : Int) = (s : Int)) := by omega
        simp [e2]
      · simp [e1]
    · rfl
theorem WF_step (m : Nat) (L : List Int) (r : Nat) (hL : ∀ x ∈ L, 0 ≤ x) (hl : L.length < 33) (hm : 1 ≤ m) : addk (WF m L) r (min L.length (m - 1)) 0 = WF m ((r : Int) :: L) := by
  have hb : ∀ k s, Tst.ways L k s ≤ 4294967296 := fun k s => Nat.le_trans (ways_bd L k s) (by
    have : 2 ^ L.length ≤ 2 ^ 32 := Nat.pow_le_pow_right (by omega) (by omega)
    omega)
  funext k j
  unfold addk
  rcases Nat.eq_zero_or_pos k with rfl | hk
  · rw [if_neg (by omega)]
    unfold WF
    rw [if_pos (Nat.zero_le _), if_pos (Nat.zero_le _), ways_zero]
  · obtain ⟨q, rfl⟩ : ∃ q, k = q + 1 := ⟨k - 1, by omega⟩
    rw [Nat.add_sub_cancel]
    unfold WF
    by_cases hq : q + 1 ≤ m
    · rw [if_pos hq, if_pos hq, if_pos (show q ≤ m by omega), ways_cons]
      by_cases hlen : q + 1 ≤ min L.length (m - 1) + 1
      · by_cases hr : r ≤ j
        · rw [if_pos ⟨by omega, hlen, hr⟩]
          have h1 := hb (q + 1) j
          have h2 := hb q ((j - r : Nat) : Int)
          have e : ((j - r : Nat) : Int) = (j : Int) - (r : Int) := by omega
          rw [e] at h2 ⊢
          unfold wrap64
          omega
        · rw [if_neg (by omega), ways_neg L hL q _ (by omega)]
          simp
      · rw [if_neg (by omega), ways_none L (q + 1) _ (by omega), ways_none L q _ (by omega)]
    · rw [if_neg hq, if_neg hq]
      split
      · omega
      · rfl
theorem upto_mono (f : Nat → Nat) {s N : Nat} (h : s ≤ N) : upto f s ≤ upto f N := by
  induction N with
  | zero => obtain rfl : s = 0 := by omega
            exact Nat.le_refl _
  | succ N ih =>
    rcases Nat.lt_or_ge s (N + 1) with h1 | h1
    · have := ih (by omega); rw [upto]; omega
    · obtain rfl : s = N + 1 := by omega
      exact Nat.le_refl _
theorem upto_le {f g : Nat → Nat} (h : ∀ s, f s ≤ g s) (N : Nat) : upto f N ≤ upto g N := by
  induction N with
  | zero => exact Nat.le_refl _
  | succ N ih => have := h N; rw [upto, upto]; omega
/-- The middle. -/
def mu (m k : Nat) : Int := (m : Int) * ((m : Int) + (k : Int) + 1)
/-- A number's magnitude. -/
def ab (x : Int) : Int := max x (-x)
theorem ab_mx (x : Int) (h1 : -1000000 ≤ x) (h2 : x ≤ 1000000) : mx x (wrap64 (-x)) = ab x := by unfold mx ab wrap64; split <;> omega
/-- What has been counted up to a sum. -/
def totS (L : List Int) (m s : Nat) : Nat := upto (fun s => Tst.ways L m (s : Int)) s
def extS (L : List Int) (m : Nat) (M far : Int) (s : Nat) : Nat := upto (fun s => if far ≤ ab ((s : Int) - M) then Tst.ways L m (s : Int) else 0) s
theorem totS_bd (L : List Int) (m s : Nat) (hL : ∀ x ∈ L, 0 ≤ x) (hl : L.length ≤ 32) (hs : s ≤ 1057) (hsm : sm L < 1057) : totS L m s ≤ 4294967296 := by
  unfold totS
  refine Nat.le_trans (upto_mono _ hs) ?_
  rw [upto_ways L hL m 1057 (by omega), total_ch]
  refine Nat.le_trans (ch_le _ _) ?_
  have : 2 ^ L.length ≤ 2 ^ 32 := Nat.pow_le_pow_right (by omega) hl
  omega
theorem extS_le (L : List Int) (m : Nat) (M far : Int) (s : Nat) : extS L m M far s ≤ totS L m s := by
  unfold extS totS
  refine upto_le (fun s => ?_) s
  split
  · exact Nat.le_refl _
  · exact Nat.zero_le _
theorem totS_all (L : List Int) (m : Nat) (hL : ∀ x ∈ L, 0 ≤ x) (hsm : sm L < 1057) : totS L m 1057 = total L m := upto_ways L hL m 1057 (by omega)
theorem extS_all (L : List Int) (m : Nat) (M far : Int) (hL : ∀ x ∈ L, 0 ≤ x) (hsm : sm L < 1057) : extS L m M far 1057 = Tst.ext L m M far := by
  rw [← upto_ext L hL m 1057 (by omega)]
  unfold extS ab
  refine upto_congr _ _ _ (fun s _ => ?_)
  rw [show -((s : Int) - M) = M - (s : Int) by omega]
theorem totS_succ (L : List Int) (m s : Nat) : totS L m (s + 1) = totS L m s + Tst.ways L m (s : Int) := rfl
theorem extS_succ (L : List Int) (m : Nat) (M far : Int) (s : Nat) : extS L m M far (s + 1) = extS L m M far s + (if far ≤ ab ((s : Int) - M) then Tst.ways L m (s : Int) else 0) := rfl
section
variable {P : Program} {ops : Array Oper} {rest : List Oper} {o : Oper} {a : Act} {w : World} {Q : Exit → Act → World → Prop}
/-- A load whose value is known. -/
theorem wpList_load_at (hgd : o.guard = none) (ty : TypeId) (x : Operand) (ho : o.op = .load ty x) (ad : Addr) (hx : a.eval x = .pointer (some ad)) (v : Value) (hl : (loadVar ty ad).run P w = .ok v w)
    (h : wpList P ops Q rest (a.put o.dst v) w) : wpList P ops Q (o :: rest) a w :=
  wpList_plain hgd fun _ hK => by
    unfold Oper.wp execOp
    simp only [ho, hx, Instr.loadAt, Instr.sureAddr, Sem.run_bind, Sem.run_pure, Result.andThen_ok, hl]
    exact hK _ _ h
end
end Go.Proofs.Ytcjgmofgfblmnaa.TstV
namespace Go.Proofs.Ytcjgmofgfblmnaa.TstW
open Go.RowKit Go.Shelf Go.Proofs.YtcjgmofgfblmnaaW.PrintWords Go.Proofs.YtcjgmofgfblmnaaW.PrintLast Go.Proofs.YtcjgmofgfblmnaaW.PrintMore Go.Proofs.Ytcjgmofgfblmnaa.Q Go.Proofs.Ytcjgmofgfblmnaa.TstV
attribute [local go_sem] max2_int min2_int max_two min_two max_three min_three max_four min_four
set_option linter.unusedVariables false
set_option linter.unusedSimpArgs false
set_option linter.unusedSimpArgs false
/-- Two rows in a row. -/
theorem C_two {w : World} {A0 A1 : Option Addr} {c0 c1 : Nat} {l0 l1 : List Int} (hr0 : Kd.C (Kd.int .i64) w A0 l0.length l0) (hc0 : l0.length ≤ c0) (hr1 : Kd.C (Kd.int .i64) w A1 l1.length l1) (hc1 : l1.length ≤ c1) :
    Kd.C (Kd.slice 3 (Kd.int .i64)) (w.alloc (.cells #[.slice A0 l0.length c0, .slice A1 l1.length c1] 26)) (some ⟨w.heap.size, 0, none⟩) 2 [l0, l1] := by
  have hb : Below w.heap.size w (w.alloc (.cells #[.slice A0 l0.length c0, .slice A1 l1.length c1] 26)) := below_alloc (Below.refl _ _) _
  refine ⟨rfl, by decide, fun _ => ⟨_, rfl, fun j p hj => ?_⟩⟩
  have hcell : ∀ i u, (#[Value.slice A0 l0.length c0, Value.slice A1 l1.length c1] : Array Value)[i]? = some u → (w.alloc (.cells #[.slice A0 l0.length c0, .slice A1 l1.length c1] 26)).cell? ((⟨w.heap.size, 0, none⟩ : Addr).add i) = some u := fun i u hu => by
    rw [add_plain, blk_cell (heap_alloc_new _ _)]
    exact hu
  match j, hj with
  | 0, hj =>
    obtain rfl : l0 = p := by simpa using hj
    refine ⟨[.slice A0 l0.length c0], rfl, ⟨A0, c0, rfl, hc0, Kd.C_below hr0 hb⟩, fun i u hu => ?_⟩
    match i, hu with
    | 0, hu => exact hcell 0 u hu
  | 1, hj =>
    obtain rfl : l1 = p := by simpa using hj
    refine ⟨[.slice A1 l1.length c1], rfl, ⟨A1, c1, rfl, hc1, Kd.C_below hr1 hb⟩, fun i u hu => ?_⟩
    match i, hu with
    | 0, hu => exact hcell 1 u hu
theorem concat_two (A0 : Option Addr) (c0 : Nat) (l0 l1 : List Int) (w : World) (hr0 : Kd.C (Kd.slice 3 (Kd.int .i64)) w A0 2 [l0, l1]) (hc0 : 2 ≤ c0) (ht : (l0 ++ l1).length < 17592186044416) (hp : 0 < (l0 ++ l1).length) :
    Calls Try.prog 45 #[.slice A0 2 c0] w fun e w' => ∃ v0_ : Value, e = .returned v0_ ∧ Kd.R (Kd.int .i64) 3 w' w.heap.size (fun _ => True) v0_ (l0 ++ l1) ∧ Below w.heap.size w w' := by
  have e : [l0, l1].flatten = l0 ++ l1 := by simp
  have h := HandC.concat_calls A0 c0 [l0, l1] w hr0 hc0 (by rw [e]; exact ht) (by rw [e]; exact hp)
  rw [e] at h
  exact h
set_option maxHeartbeats 1000000 in
set_option maxRecDepth 100000 in
theorem test_calls (A0 : Option Addr) (c0 : Nat) (l0 : List Int) (A1 : Option Addr) (c1 : Nat) (l1 : List Int) (w : World) (hr0 : Kd.C (Kd.int .i64) w A0 l0.length l0) (hc0 : l0.length ≤ c0) (hr1 : Kd.C (Kd.int .i64) w A1 l1.length l1) (hc1 : l1.length ≤ c1)
    (h0 : 0 < l0.length) (h1 : 0 < l1.length) (hn : l0.length + l1.length ≤ 32) (kr : Nat) (R : List Int) (hR : changepoint_ranks.f kr (l0 ++ l1) = some R) (hRl : R.length = l0.length + l1.length) (hRb : ∀ x ∈ R, 1 ≤ x ∧ x ≤ 65) (hsm : Tst.sm R < 1057)
    (FAR : Int) (hFAR' : FAR = -mu l0.length l1.length + Tst.sm (R.take l0.length)) :
    Calls Try.prog 20 #[.slice A0 l0.length c0, .slice A1 l1.length c1] w fun e w' => e = .returned (.tuple #[.int .i64 (Tst.ext R l0.length (mu l0.length l1.length) (ab FAR) : Nat), .int .i64 (Tst.total R l0.length : Nat), .int .i64 0]) ∧ Below w.heap.size w w' := by
  have HC := Aside0.mk (C_two hr0 hc0 hr1 hc1)
  have HR := Aside0.mk hR
  have HL := Aside0.mk hRl
  have HF := Aside0.mk hFAR'
  clear hFAR'
  have e1 : ((l0.length : Int) == 0) = false := by rw [beq_eq_false_iff_ne]; omega
  have e2 : (((l0.length : Int) + (l1.length : Int)) == (l0.length : Int)) = false := by rw [beq_eq_false_iff_ne]; omega
  have e3 : decide (((l0.length : Int) + (l1.length : Int)) > 32) = false := decide_eq_false (by omega)
  clear hr0 hc0 hr1 hc1 hR hRl
  go_enter Try.func20, Try.ntmps20
  go_wp2_with fail
  (with_reducible refine (concat_two _ _ l0 l1 _ HC.out (Nat.le_refl 2) ?hT1 ?hT2).mono ?_)
  case hT1 => rw [List.length_append]; omega
  case hT2 => rw [List.length_append]; omega
  rintro e w1 ⟨v1, rfl, HO1, HB1⟩
  have HB1' : Below w.heap.size w w1 := (below_alloc (Below.refl _ _) _).trans (HB1.mono (by simp))
  obtain ⟨Ac, cc, rfl⟩ := Kd.R_slice HO1
  obtain ⟨hcl, hcc, HCc⟩ := Kd.R_reads' HO1
  generalize hL : l0 ++ l1 = L at *
  go_wp2_with fail
  (with_reducible refine (changepoint_ranks.calls kr Ac cc L R w1 HCc hcc HR.out).mono ?_)
  rintro e w2 ⟨v2, rfl, HO2, HB2⟩
  have HB2' : Below w.heap.size w w2 := HB1'.trans (HB2.mono HB1'.size)
  obtain ⟨Ar, cr, rfl⟩ := Kd.R_slice HO2
  obtain ⟨hrl, hrc, HCr⟩ := Kd.R_reads' HO2
  have hz := Try.zeroCells89_size
  have hzne := Try.zeroCells89_ne
  go_wp2_with fail
  have HT : Aside0 (Tab (w2.alloc (.cells (Try.zeroCells89.setIfInBounds 0 (.int .i64 1)) 89)) w2.heap.size (WF l0.length (R.take 0).reverse)) := ⟨Tab.start w2 l0.length _ (WF_nil _ h0)⟩
  have HBW : Aside0 (Below w2.heap.size w2 (w2.alloc (.cells (Try.zeroCells89.setIfInBounds 0 (.int .i64 1)) 89))) := ⟨below_alloc (Below.refl _ _) _⟩
  generalize w2.alloc (.cells (Try.zeroCells89.setIfInBounds 0 (.int .i64 1)) 89) = W3 at *
  obtain ⟨ad, hAr, _⟩ := Kd.at_int HCr 0 (Int.le_refl _) (by rw [HL.out]; omega)
  subst hAr
  have HCr' := Aside0.mk HCr
  have hRn : R.length ≤ 32 := by rw [HL.out]; exact hn
  have hRpos : 0 < R.length := by rw [HL.out]; omega
  have hm31 : l0.length ≤ 31 := by omega
  generalize hg : w2.heap.size = g at *
  have Hg := Aside0.mk hg
  have hrc' : l0.length ≤ cr := by have := HL.out; omega
  clear HO1 HO2 HB1 HB2 HCr hz hzne hL hg hcl hcc HCc hrl hrc HC e1 e2 e3
  have HB1'' := Aside0.mk HB1'
  have HB2'' := Aside0.mk HB2'
  clear HB1' HB2'
  go_loopw [47] (fun v47 w' => ∃ i : Nat, i ≤ R.length ∧ v47 = .int .i64 (i : Nat) ∧ Aside0 (Tab w' g (WF l0.length (R.take i).reverse)) ∧ Aside0 (Below g w2 w')) (fun v47 _ => R.length - (intOf v47).toNat)
  case atStart => exact ⟨0, Nat.zero_le _, rfl, HT, HBW⟩
  case round =>
    clear HT HBW
    obtain ⟨i, hi, rfl, HT, HBW⟩ := hrel
    by_cases hlt : i < R.length
    · obtain ⟨ad', e, hx⟩ := Kd.at_int HCr'.out (i : Int) (by omega) (by omega)
      cases e
      obtain ⟨r, hr⟩ : ∃ r : Nat, rd R (i : Int) = (r : Int) := ⟨(rd R (i : Int)).toNat, by
        have := hRb _ (show rd R (i : Int) ∈ R by show R.getD i 0 ∈ R; rw [List.getD_eq_getElem?_getD, List.getElem?_eq_getElem hlt]; exact List.getElem_mem hlt)
        omega⟩
      have hr1 : 1 ≤ r ∧ r ≤ 65 := by
        have := hRb _ (show rd R (i : Int) ∈ R by show R.getD i 0 ∈ R; rw [List.getD_eq_getElem?_getD, List.getElem?_eq_getElem hlt]; exact List.getElem_mem hlt)
        omega
      rw [hr, Int.toNat_natCast] at hx
      have hx' := pw_cell_below (w1 := wr) (by rw [Hg.out]; exact HBW.out) hx
      have Hr := Aside0.mk hr
      clear hx hr
      obtain ⟨K, hKd⟩ : ∃ K, K = min i (l0.length - 1) := ⟨_, rfl⟩
      have hKi : (if ((l0.length : Int) - 1) < (i : Int) then (l0.length : Int) - 1 else (i : Int)) = (K : Int) := by subst hKd; split <;> omega
      have HKd := Aside0.mk hKd
      have hKle : K + 1 ≤ l0.length := by omega
      clear hKd
      go_wp2_with fail
      have HT0 := HT.out
      rw [← addk_start (WF l0.length (R.take i).reverse) r K] at HT0
      have HT' := Aside0.mk HT0
      clear HT HT0
      go_loopw [13] (fun v13 w' => ∃ d : Nat, d ≤ K + 1 ∧ v13 = .int .i64 ((d : Int) - 1) ∧ Aside0 (Tab w' g (addk (WF l0.length (R.take i).reverse) r K d)) ∧ Aside0 (Below g w2 w')) (fun v13 _ => (intOf v13 + 1).toNat)
      case atStart => exact ⟨K + 1, Nat.le_refl _, by go_num, HT', HBW⟩
      case round =>
        clear HT' HBW hx'
        obtain ⟨d, hd, rfl, HT, HBW⟩ := hrel
        cases d with
        | zero =>
          have HT1 := HT.out
          have hlr : (R.take i).reverse.length = i := by rw [List.length_reverse, List.length_take]; omega
          have e1 := WF_step l0.length (R.take i).reverse r (fun x hx => by have := hRb x (List.mem_of_mem_take (List.mem_reverse.1 hx)); omega) (by omega) (by omega)
          rw [hlr, ← HKd.out] at e1
          have e2 : (R.take (i + 1)).reverse = (r : Int) :: (R.take i).reverse := by
            rw [List.take_succ_eq_append_getElem hlt, List.reverse_append]
            have h := Hr.out
            rw [show rd R (i : Int) = R.getD i 0 from rfl, List.getD_eq_getElem?_getD, List.getElem?_eq_getElem hlt] at h
            simpa using h
          rw [e1, ← e2] at HT1
          have HT2 := Aside0.mk HT1
          clear HT1 e1 e2
          go_wp2
          exact ⟨⟨i + 1, by omega, by go_num, HT2, HBW⟩, by simp [intOf]; omega⟩
        | succ q =>
          rw [show ((q + 1 : Nat) : Int) - 1 = (q : Int) by omega]
          go_wp2_with fail
          have HT0 := Aside0.mk (HT.out.add_start q r (1057 - r) (by omega))
          go_loopw [14] (fun v14 w' => ∃ s : Nat, s + r ≤ 1057 ∧ v14 = .int .i64 ((s : Int) - 1) ∧ Aside0 (Tab w' g (add (addk (WF l0.length (R.take i).reverse) r K (q + 1)) q r s)) ∧ Aside0 (Below g w2 w')) (fun v14 _ => (intOf v14 + 1).toNat)
          case atStart => exact ⟨1057 - r, by omega, by go_num, HT0, HBW⟩
          case round =>
            clear HT HBW HT0
            obtain ⟨s, hs, rfl, HT, HBW⟩ := hrel
            cases s with
            | zero =>
              have HT1 := HT.out
              rw [addk_add _ _ _ _ (by omega)] at HT1
              have HT2 := Aside0.mk HT1
              clear HT1
              go_wp2
              exact ⟨⟨q, by omega, rfl, HT2, HBW⟩, by simp [intOf]⟩
            | succ p =>
              rw [show ((p + 1 : Nat) : Int) - 1 = (p : Int) by omega]
              have hc1 := HT.out.cell (q + 1) (p + r) (by omega) (by omega)
              have hc2 := HT.out.cell q p (by omega) (by omega)
              have hf1 := HT.out.frozen ((q + 1) * 1057 + (p + r))
              have HS := HT.out.set (q + 1) (p + r) (by omega) (by omega) (wrap64 (add (addk (WF l0.length (R.take i).reverse) r K (q + 1)) q r (p + 1) (q + 1) (p + r) + add (addk (WF l0.length (R.take i).reverse) r K (q + 1)) q r (p + 1) q p))
              rw [add_put] at HS
              have HS' := Aside0.mk HS
              clear HS
              generalize add (addk (WF l0.length (R.take i).reverse) r K (q + 1)) q r (p + 1) (q + 1) (p + r) = X at *
              generalize add (addk (WF l0.length (R.take i).reverse) r K (q + 1)) q r (p + 1) q p = Y at *
              go_wp2_with fail
              go_region
              go_wp2
              go_roundw
              case rel => exact ⟨p, by omega, rfl, ⟨HS'.out⟩, ⟨(HBW.out.setCell (Nat.le_refl g) _).drew⟩⟩
              case measure => simp [intOf]
    · obtain rfl : i = R.length := by omega
      rw [List.take_length] at HT
      have hM : mu l0.length l1.length = (l0.length : Int) * ((l0.length : Int) + (l1.length : Int) + 1) := rfl
      have hM0 : 0 ≤ mu l0.length l1.length := by rw [hM]; exact Int.mul_nonneg (by omega) (by omega)
      have hM1 : mu l0.length l1.length ≤ 1023 := by
        rw [hM]
        exact Int.le_trans (Int.mul_le_mul (show (l0.length : Int) ≤ 31 by omega) (show (l0.length : Int) + (l1.length : Int) + 1 ≤ 33 by omega) (by omega) (by omega)) (by decide)
      have hMn : wrap64 (-(l0.length : Int) * ((l0.length : Int) + (l1.length : Int) + 1)) = -mu l0.length l1.length := by
        rw [Int.neg_mul, ← hM]; unfold wrap64; omega
      have hMp : wrap64 ((l0.length : Int) * ((l0.length : Int) + (l1.length : Int) + 1)) = mu l0.length l1.length := by
        rw [← hM]; unfold wrap64; omega
      clear hM
      have hsm0 : ∀ j, 0 ≤ Tst.sm (R.take j) ∧ Tst.sm (R.take j) < 1057 := fun j => by
        have hp : ∀ l : List Int, (∀ x ∈ l, 1 ≤ x ∧ x ≤ 65) → 0 ≤ Tst.sm l := fun l => by
          induction l with
          | nil => intro _; exact Int.le_refl _
          | cons x l ih => intro h; have := h x List.mem_cons_self; have := ih (fun y hy => h y (List.mem_cons_of_mem _ hy)); simp only [Tst.sm]; omega
        have h1 := hp (R.take j) (fun x hx => hRb x (List.mem_of_mem_take hx))
        have h2 := hp (R.drop j) (fun x hx => hRb x (List.mem_of_mem_drop hx))
        have h3 := Tst.sm_take_drop R j
        omega
      have HSM := Aside0.mk hsm0
      clear hsm0
      go_wp2_with fail
      go_loop [15, 92] (fun v15 v92 => ∃ j : Nat, j ≤ l0.length ∧ v15 = .int .i64 (-mu l0.length l1.length + Tst.sm (R.take j)) ∧ v92 = .int .i64 (j : Nat)) (fun _ v92 => l0.length - (intOf v92).toNat)
      case atStart => exact ⟨0, Nat.zero_le _, congrArg (Value.int .i64) (by rw [hMn]; simp [Tst.sm]), rfl⟩
      case round =>
        obtain ⟨j, hj, rfl, rfl⟩ := hrel
        by_cases hjl : j < l0.length
        · have hjR : j < R.length := by have := HL.out; omega
          obtain ⟨ad', e, hx⟩ := Kd.at_int HCr'.out (j : Int) (by omega) (by omega)
          cases e
          rw [Int.toNat_natCast] at hx
          have hx' := pw_cell_below (w1 := wr) (by rw [Hg.out]; exact HBW.out) hx
          clear hx
          have e2 : Tst.sm (R.take (j + 1)) = Tst.sm (R.take j) + rd R (j : Int) := by
            rw [List.take_succ_eq_append_getElem hjR, Tst.sm_append, show rd R (j : Int) = R.getD j 0 from rfl, List.getD_eq_getElem?_getD, List.getElem?_eq_getElem hjR]
            simp [Tst.sm]
          have b1 := HSM.out j
          have b2 := HSM.out (j + 1)
          have E2 := Aside0.mk e2
          have b3 : -2000 ≤ rd R (j : Int) ∧ rd R (j : Int) ≤ 2000 := by omega
          clear e2 b2
          generalize rd R (j : Int) = x at *
          go_wp2
          go_round
          case rel => exact ⟨j + 1, by omega, by rw [E2.out]; go_num, by go_num⟩
          case measure => simp [intOf]; omega
        · obtain rfl : j = l0.length := by omega
          have b1 := HSM.out l0.length
          have hFAR := HF.out
          rw [← hFAR]
          have bF : -5000 ≤ FAR ∧ FAR ≤ 5000 := by omega
          clear hFAR b1
          obtain ⟨row, hrow, hrc⟩ := loadRow HT.out l0.length (by omega)
          go_wp2_with (first | (refine wpList_load_at rfl 88 (.tmp 101) rfl ⟨g, l0.length * 1057, none⟩ rfl (.agg row) hrow ?_) | fail)
          have hL0 : ∀ x ∈ R.reverse, 0 ≤ x := fun x hx => by have := hRb x (List.mem_reverse.1 hx); omega
          have hLl : R.reverse.length ≤ 32 := by rw [List.length_reverse]; exact hRn
          have hLs : Tst.sm R.reverse < 1057 := by rw [Tst.sm_perm (List.reverse_perm R)]; exact hsm
          have HBD := Aside0.mk (fun s hs => totS_bd R.reverse l0.length s hL0 hLl hs hLs)
          have HTA := Aside0.mk (totS_all R.reverse l0.length hL0 hLs)
          have HEA := Aside0.mk (extS_all R.reverse l0.length (mu l0.length l1.length) (ab FAR) hL0 hLs)
          have HRW := Aside0.mk hrc
          have HB3 : Aside0 (Below w.heap.size w wr) := ⟨HB2''.out.trans ((show Below w2.heap.size w2 wr by rw [Hg.out]; exact HBW.out).mono HB2''.out.size)⟩
          clear hL0 hLl hLs hrow hrc HBW hMn
          go_loopw [4, 5, 18, 19, 103] (fun v4 v5 v18 v19 v103 w' => ∃ s : Nat, s ≤ 1057 ∧ v4 = .int .i64 (extS R.reverse l0.length (mu l0.length l1.length) (ab FAR) s : Nat) ∧ v5 = .int .i64 (totS R.reverse l0.length s : Nat) ∧ v103 = .int .i64 (s : Nat) ∧ Aside0 (Below w.heap.size w w')) (fun _ _ _ _ v103 _ => 1057 - (intOf v103).toNat)
          case atStart => exact ⟨0, Nat.zero_le _, rfl, rfl, rfl, HB3⟩
          case round =>
            obtain ⟨s, hs, rfl, rfl, rfl, HB4⟩ := hrel
            by_cases hsl : s < 1057
            · have hix := idx88 row s _ hsl (HRW.out s hsl) rfl
              rw [show WF l0.length R.reverse l0.length s = ((Tst.ways R.reverse l0.length (s : Int) : Nat) : Int) by unfold WF; rw [if_pos (Nat.le_refl _)]] at hix
              have b1 := HBD.out s hs
              have b2 := HBD.out (s + 1) (by omega)
              have b3 := extS_le R.reverse l0.length (mu l0.length l1.length) (ab FAR) s
              have b4 := extS_le R.reverse l0.length (mu l0.length l1.length) (ab FAR) (s + 1)
              have e1 := totS_succ R.reverse l0.length s
              have e2 := extS_succ R.reverse l0.length (mu l0.length l1.length) (ab FAR) s
              have b5 : totS R.reverse l0.length s + Tst.ways R.reverse l0.length (s : Int) ≤ 4294967296 := by omega
              have b6 : extS R.reverse l0.length (mu l0.length l1.length) (ab FAR) s + Tst.ways R.reverse l0.length (s : Int) ≤ 4294967296 := by omega
              have E1 := Aside0.mk e1
              have E2 := Aside0.mk e2
              clear b1 b2 b3 b4 e1 e2
              have Habs : Aside0 (changepoint_abs.f ((s : Int) - mu l0.length l1.length) = some (ab ((s : Int) - mu l0.length l1.length))) := ⟨by unfold changepoint_abs.f; rw [ab_mx _ (by omega) (by omega)]⟩
              have Habs2 : Aside0 (changepoint_abs.f FAR = some (ab FAR)) := ⟨by unfold changepoint_abs.f; rw [ab_mx _ (by omega) (by omega)]⟩
              by_cases hq : ab FAR ≤ ab ((s : Int) - mu l0.length l1.length)
              · have E3 : Aside0 (extS R.reverse l0.length (mu l0.length l1.length) (ab FAR) (s + 1) = extS R.reverse l0.length (mu l0.length l1.length) (ab FAR) s + Tst.ways R.reverse l0.length (s : Int)) := ⟨by rw [E2.out, if_pos hq]⟩
                generalize Tst.ways R.reverse l0.length (s : Int) = W0 at *
                go_wp2_with fail
                (with_reducible refine (changepoint_abs.calls _ _ _ Habs.out).mono ?_)
                rintro e w5 ⟨rfl, HB5⟩
                go_wp2_with fail
                (with_reducible refine (changepoint_abs.calls _ _ _ Habs2.out).mono ?_)
                rintro e w6 ⟨rfl, HB6⟩
                have HB7 : Aside0 (Below w.heap.size w w6) := ⟨(HB4.out.trans (HB5.mono HB4.out.size)).trans (HB6.mono (Nat.le_trans HB4.out.size HB5.size))⟩
                clear HB5 HB6
                go_wp2
                exact ⟨⟨s + 1, by omega, by rw [E3.out]; go_num, by rw [E1.out]; go_num, by go_num, HB7⟩, by simp [intOf]; omega⟩
              · have E3 : Aside0 (extS R.reverse l0.length (mu l0.length l1.length) (ab FAR) (s + 1) = extS R.reverse l0.length (mu l0.length l1.length) (ab FAR) s) := ⟨by rw [E2.out, if_neg hq]; rfl⟩
                generalize Tst.ways R.reverse l0.length (s : Int) = W0 at *
                go_wp2_with fail
                (with_reducible refine (changepoint_abs.calls _ _ _ Habs.out).mono ?_)
                rintro e w5 ⟨rfl, HB5⟩
                go_wp2_with fail
                (with_reducible refine (changepoint_abs.calls _ _ _ Habs2.out).mono ?_)
                rintro e w6 ⟨rfl, HB6⟩
                have HB7 : Aside0 (Below w.heap.size w w6) := ⟨(HB4.out.trans (HB5.mono HB4.out.size)).trans (HB6.mono (Nat.le_trans HB4.out.size HB5.size))⟩
                clear HB5 HB6
                go_wp2
                exact ⟨⟨s + 1, by omega, by rw [E3.out], by rw [E1.out]; go_num, by go_num, HB7⟩, by simp [intOf]; omega⟩
            · obtain rfl : s = 1057 := by omega
              rw [HTA.out, HEA.out, Tst.total_perm (List.reverse_perm R), Tst.ext_perm (List.reverse_perm R)]
              clear HTA HEA HBD
              go_wp2
              go_ret3
              exact ⟨rfl, HB4.out⟩
end Go.Proofs.Ytcjgmofgfblmnaa.TstW
namespace Go.Proofs.Ytcjgmofgfblmnaa.TstX
open Go.RowKit Go.Shelf Go.Proofs.YtcjgmofgfblmnaaW.PrintWords Go.Proofs.YtcjgmofgfblmnaaW.PrintLast Go.Proofs.YtcjgmofgfblmnaaW.PrintMore Go.Proofs.Ytcjgmofgfblmnaa.Q Go.Proofs.Ytcjgmofgfblmnaa.TstV Go.Proofs.Ytcjgmofgfblmnaa.TstW
set_option linter.unusedVariables false
set_option linter.unusedSimpArgs false
set_option linter.unusedSimpArgs false
theorem w64 {x : Int} (h1 : -9223372036854775808 ≤ x) (h2 : x ≤ 9223372036854775807) : wrap64 x = x := by unfold wrap64; omega
/-! changepoint.ranks comes to the midranks. -/
theorem inner_ev (L : List Int) (hn : L.length ≤ 1099511627776) (v : Int) (x3 x10 : List Int) (x11 x12 : Int) (R : List Int) (hk : Ev (fun k => changepoint_ranks.l0 k L (x3 ++ [Tst.mid L v]) x10 x11 (wrap64 (x12 + 1))) R) (h3 : x3.length < 17592186044416) :
    ∀ (d i : Nat), L.length - i = d → i ≤ L.length → Ev (fun k => changepoint_ranks.l1 k L x3 v (Tst.less (L.take i) v : Nat) (Tst.eqs (L.take i) v : Nat) x10 x11 x12 L (L.length : Int) (i : Int)) R := by
  intro d
  induction d with
  | zero =>
    intro i hd hi
    obtain rfl : i = L.length := by omega
    rw [List.take_length]
    refine Ev.step (f := fun k => changepoint_ranks.l0 k L (x3 ++ [Tst.mid L v]) x10 x11 (wrap64 (x12 + 1))) (fun k => ?_) hk
    have h1 : Tst.less L v ≤ L.length := List.countP_le_length
    have h2 : Tst.eqs L v ≤ L.length := List.countP_le_length
    simp only [changepoint_ranks.l1]
    rw [if_neg (by omega), if_pos h3]
    rw [w64 (x := 2 * (Tst.less L v : Int)) (by omega) (by omega), w64 (x := 2 * (Tst.less L v : Int) + (Tst.eqs L v : Int)) (by omega) (by omega), w64 (x := 2 * (Tst.less L v : Int) + (Tst.eqs L v : Int) + 1) (by omega) (by omega)]
    rfl
  | succ d ih =>
    intro i hd hi
    have hlt : i < L.length := by omega
    have hx : rd L (i : Int) = L[i] := by
      show L.getD i 0 = _
      rw [List.getD_eq_getElem?_getD, List.getElem?_eq_getElem hlt]
      rfl
    have e1 : Tst.less (L.take (i + 1)) v = Tst.less (L.take i) v + (if L[i] < v then 1 else 0) := by
      unfold Tst.less
      rw [List.take_succ_eq_append_getElem hlt, List.countP_append, Tst.cnt, List.countP_nil]
      simp only [decide_eq_true_eq]; omega
    have e2 : Tst.eqs (L.take (i + 1)) v = Tst.eqs (L.take i) v + (if L[i] = v then 1 else 0) := by
      unfold Tst.eqs
      rw [List.take_succ_eq_append_getElem hlt, List.countP_append, Tst.cnt, List.countP_nil]
      simp only [decide_eq_true_eq]; omega
    have b1 : Tst.less (L.take i) v ≤ i := Nat.le_trans List.countP_le_length (by rw [List.length_take]; omega)
    have b2 : Tst.eqs (L.take i) v ≤ i := Nat.le_trans List.countP_le_length (by rw [List.length_take]; omega)
    have hi2 := ih (i + 1) (by omega) (by omega)
    rw [e1, e2] at hi2
    refine Ev.step (fun k => ?_) hi2
    simp only [changepoint_ranks.l1]
    rw [if_pos (by omega), if_pos (by omega), if_pos (by omega), hx, w64 (x := (i : Int) + 1) (by omega) (by omega)]
    by_cases h1 : L[i] < v
    · rw [if_pos h1, if_pos h1, if_neg (by omega), w64 (by omega) (by omega)]
      simp
    · rw [if_neg h1, if_neg h1]
      by_cases h2 : L[i] = v
      · rw [if_pos h2, if_pos h2, w64 (by omega) (by omega)]
        simp
      · rw [if_neg h2, if_neg h2]
        simp
theorem ranks_ev (L : List Int) (hn : L.length ≤ 1099511627776) : Ev (fun k => changepoint_ranks.f k L) (Tst.ranks L) := by
  have : ∀ (d i : Nat), L.length - i = d → i ≤ L.length → Ev (fun k => changepoint_ranks.l0 k L ((L.take i).map (Tst.mid L)) L (L.length : Int) (i : Int)) (Tst.ranks L) := by
    intro d
    induction d with
    | zero =>
      intro i hd hi
      obtain rfl : i = L.length := by omega
      rw [List.take_length]
      refine Ev.step (f := fun _ => some (Tst.ranks L)) (fun k => ?_) (Ev.now _)
      simp only [changepoint_ranks.l0]
      rw [if_neg (by omega)]
      rfl
    | succ d ih =>
      intro i hd hi
      have hlt : i < L.length := by omega
      have hx : rd L (i : Int) = L[i] := by
        show L.getD i 0 = _
        rw [List.getD_eq_getElem?_getD, List.getElem?_eq_getElem hlt]
        rfl
      have h1 := ih (i + 1) (by omega) (by omega)
      have e : (L.take (i + 1)).map (Tst.mid L) = (L.take i).map (Tst.mid L) ++ [Tst.mid L (rd L (i : Int))] := by
        rw [List.take_succ_eq_append_getElem hlt, List.map_append, hx]; rfl
      rw [e] at h1
      have h2 := inner_ev L hn (rd L (i : Int)) ((L.take i).map (Tst.mid L)) L (L.length : Int) (i : Int) (Tst.ranks L) (by rw [w64 (x := (i : Int) + 1) (by omega) (by omega)]; exact h1) (by rw [List.length_map, List.length_take]; omega) L.length 0 (by omega) (Nat.zero_le _)
      refine Ev.step (fun k => ?_) h2
      simp only [changepoint_ranks.l0]
      rw [if_pos (by omega), if_pos (by omega), if_pos (by omega)]
      rfl
  exact this L.length 0 (by omega) (Nat.zero_le _)
set_option maxHeartbeats 1000000 in
set_option maxRecDepth 100000 in
theorem test_empty0 (A0 : Option Addr) (c0 n0 : Nat) (A1 : Option Addr) (c1 n1 : Nat) (w : World) (h0 : n0 = 0) :
    Calls Try.prog 20 #[.slice A0 n0 c0, .slice A1 n1 c1] w fun e w' => e = .returned (.tuple #[.int .i64 0, .int .i64 0, .int .i64 7]) ∧ Below w.heap.size w w' := by
  have e1 : ((n0 : Int) == 0) = true := by rw [beq_iff_eq]; omega
  clear h0
  go_enter Try.func20, Try.ntmps20
  go_wp2
  go_ret3
  exact ⟨rfl, Below.refl _ _⟩
set_option maxHeartbeats 1000000 in
set_option maxRecDepth 100000 in
theorem test_empty1 (A0 : Option Addr) (c0 n0 : Nat) (A1 : Option Addr) (c1 n1 : Nat) (w : World) (h0 : 0 < n0) (h1 : n1 = 0) (hm : n0 ≤ 4611686018427387904) :
    Calls Try.prog 20 #[.slice A0 n0 c0, .slice A1 n1 c1] w fun e w' => e = .returned (.tuple #[.int .i64 0, .int .i64 0, .int .i64 7]) ∧ Below w.heap.size w w' := by
  subst h1
  have e1 : ((n0 : Int) == 0) = false := by rw [beq_eq_false_iff_ne]; omega
  go_enter Try.func20, Try.ntmps20
  go_wp2
  go_ret3
  exact ⟨rfl, Below.refl _ _⟩
set_option maxHeartbeats 1000000 in
set_option maxRecDepth 100000 in
theorem test_limit (A0 : Option Addr) (c0 n0 : Nat) (A1 : Option Addr) (c1 n1 : Nat) (w : World) (h0 : 0 < n0) (h1 : 0 < n1) (hm : n0 + n1 ≤ 4611686018427387904) (h32 : 32 < n0 + n1) :
    Calls Try.prog 20 #[.slice A0 n0 c0, .slice A1 n1 c1] w fun e w' => e = .returned (.tuple #[.int .i64 0, .int .i64 0, .int .i64 6]) ∧ Below w.heap.size w w' := by
  have e1 : ((n0 : Int) == 0) = false := by rw [beq_eq_false_iff_ne]; omega
  have e2 : (((n0 : Int) + (n1 : Int)) == (n0 : Int)) = false := by rw [beq_eq_false_iff_ne]; omega
  have e3 : decide (((n0 : Int) + (n1 : Int)) > 32) = true := decide_eq_true (by omega)
  go_enter Try.func20, Try.ntmps20
  go_wp2
  go_ret3
  exact ⟨rfl, Below.refl _ _⟩
/-- What Test returns of two lists of more than none and at most 32. -/
def testE (l0 l1 : List Int) : Nat := Tst.ext (Tst.ranks (l0 ++ l1)) l0.length (mu l0.length l1.length) (ab (-mu l0.length l1.length + Tst.sm ((Tst.ranks (l0 ++ l1)).take l0.length)))
def testT (l0 l1 : List Int) : Nat := Tst.total (Tst.ranks (l0 ++ l1)) l0.length
def testF (l0 l1 : List Int) : Option (Int × Int × Int) :=
  if l0.length = 0 ∨ l1.length = 0 then (if l0.length ≤ 4611686018427387904 then some (0, 0, 7) else none)
  else if 32 < l0.length + l1.length then (if l0.length + l1.length ≤ 4611686018427387904 then some (0, 0, 6) else none)
  else some ((testE l0 l1 : Nat), (testT l0 l1 : Nat), 0)
theorem testF_calls (A0 : Option Addr) (c0 : Nat) (l0 : List Int) (A1 : Option Addr) (c1 : Nat) (l1 : List Int) (r1 r2 r3 : Int) (w : World) (hr0 : Kd.C (Kd.int .i64) w A0 l0.length l0) (hc0 : l0.length ≤ c0) (hr1 : Kd.C (Kd.int .i64) w A1 l1.length l1) (hc1 : l1.length ≤ c1) (h : testF l0 l1 = some (r1, r2, r3)) :
    Calls Try.prog 20 #[.slice A0 l0.length c0, .slice A1 l1.length c1] w fun e w' => e = .returned (.tuple #[.int .i64 r1, .int .i64 r2, .int .i64 r3]) ∧ Below w.heap.size w w' := by
  unfold testF at h
  by_cases hz : l0.length = 0 ∨ l1.length = 0
  · rw [if_pos hz] at h
    split at h
    · rename_i hb
      cases h
      by_cases h0 : l0.length = 0
      · exact test_empty0 A0 c0 _ A1 c1 _ w h0
      · exact test_empty1 A0 c0 _ A1 c1 _ w (by omega) (by omega) hb
    · cases h
  · rw [if_neg hz] at h
    by_cases h32 : 32 < l0.length + l1.length
    · rw [if_pos h32] at h
      split at h
      · rename_i hb
        cases h
        exact test_limit A0 c0 _ A1 c1 _ w (by omega) (by omega) hb h32
      · cases h
    · rw [if_neg h32] at h
      cases h
      have hlen : (l0 ++ l1).length = l0.length + l1.length := List.length_append
      obtain ⟨k, hk⟩ := (ranks_ev (l0 ++ l1) (by omega)).rounds
      refine test_calls A0 c0 l0 A1 c1 l1 w hr0 hc0 hr1 hc1 (by omega) (by omega) (by omega) k (Tst.ranks (l0 ++ l1)) hk (by rw [Tst.ranks_length, hlen]) (fun x hx => ?_) ?_ _ rfl
      · obtain ⟨v, _, rfl⟩ := List.mem_map.1 hx
        have := Tst.mid_bd (l0 ++ l1) v
        omega
      · rw [Tst.sm_ranks, hlen]
        refine Int.lt_of_le_of_lt (Int.mul_le_mul (show ((l0.length + l1.length : Nat) : Int) ≤ 32 by omega) (show ((l0.length + l1.length : Nat) : Int) + 1 ≤ 33 by omega) (by omega) (by omega)) (by decide)
end Go.Proofs.Ytcjgmofgfblmnaa.TstX
