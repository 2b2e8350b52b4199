/- Plain law: ChangepointClusters. -/
import Derived.Test.YtcjgmofgfblmnaaOfK
import Derived.Test.YtcjgmofgfblmnaaQgSleuthlaw45ChangepointClusters
namespace Go.Proofs.Ytcjgmofgfblmnaa.Seg
open Go.RowKit Go.Proofs.YtcjgmofgfblmnaaW.PrintWords Go.Proofs.YtcjgmofgfblmnaaW.PrintLast Go.Proofs.YtcjgmofgfblmnaaW.PrintMore Go.Proofs.Ytcjgmofgfblmnaa.Q
set_option linter.unusedVariables false
set_option linter.unusedSimpArgs false
set_option linter.unusedSimpArgs false
theorem rdg (l : List Int) (i : Nat) (h : i < l.length) : rd l (i : Int) = l[i] := by unfold rd; rw [Int.toNat_natCast, List.getD_eq_getElem?_getD, List.getElem?_eq_getElem h]; rfl
/-- Two strictly increasing lists of the same elements are one. -/
theorem strict_eq : ∀ (a b : List Int), a.Pairwise (· < ·) → b.Pairwise (· < ·) → (∀ v, v ∈ a ↔ v ∈ b) → a = b
  | [], [], _, _, _ => rfl
  | [], y :: b, _, _, h => absurd ((h y).2 List.mem_cons_self) (by simp)
  | x :: a, [], _, _, h => absurd ((h x).1 List.mem_cons_self) (by simp)
  | x :: a, y :: b, ha, hb, h => by
    obtain ⟨hx, ha'⟩ := List.pairwise_cons.1 ha
    obtain ⟨hy, hb'⟩ := List.pairwise_cons.1 hb
    have exy : x = y := by
      rcases List.mem_cons.1 ((h x).1 List.mem_cons_self) with e | e
      · exact e
      · rcases List.mem_cons.1 ((h y).2 List.mem_cons_self) with e2 | e2
        · exact e2.symm
        · have := hy x e; have := hx y e2; omega
    subst exy
    rw [strict_eq a b ha' hb' (fun v => ?_)]
    constructor
    · intro hv
      rcases List.mem_cons.1 ((h v).1 (List.mem_cons_of_mem _ hv)) with e | e
      · have := hx v hv; omega
      · exact e
    · intro hv
      rcases List.mem_cons.1 ((h v).2 (List.mem_cons_of_mem _ hv)) with e | e
      · have := hy v hv; omega
      · exact e
theorem compact_strict {zs : List Int} (hs : zs.Pairwise (· ≤ ·)) : (Lib.compact zs).Pairwise (· < ·) := by
  unfold Lib.compact Lib.compactUpTo
  rw [List.pairwise_map]
  have h0 : ((List.range zs.length).filter (Lib.keeps zs.toArray)).Pairwise (· < ·) := (List.pairwise_lt_range (n := zs.length)).filter _
  refine h0.imp_of_mem ?_
  intro i j hi hj hij
  have hj1 := List.mem_filter.1 hj
  have hjl := List.mem_range.1 hj1.1
  have hk := hj1.2
  unfold Lib.keeps at hk
  simp only [decide_eq_true_eq] at hk
  have hil : i < zs.length := by omega
  have hpl : j - 1 < zs.length := by omega
  have g : ∀ a b : Nat, (ha : a < zs.length) → (hb : b < zs.length) → a ≤ b → zs[a] ≤ zs[b] := by
    intro a b ha hb hab
    rcases Nat.lt_or_eq_of_le hab with h | h
    · exact List.pairwise_iff_getElem.1 hs a b ha hb h
    · subst h; exact Int.le_refl _
  rw [getElem!_pos _ _ (by simpa using hil), getElem!_pos _ _ (by simpa using hjl)]
  rw [getElem!_pos _ _ (by simpa using hjl), getElem!_pos _ _ (by simpa using hpl)] at hk
  simp only [List.getElem_toArray] at hk ⊢
  have h1 := g i (j - 1) hil hpl (by omega)
  have h2 := g (j - 1) j hpl hjl (by omega)
  have h3 : zs[j] ≠ zs[j - 1] := by
    rcases hk with hk | hk
    · omega
    · exact hk
  omega
theorem compact_mem (zs : List Int) (v : Int) : v ∈ Lib.compact zs ↔ v ∈ zs := by
  unfold Lib.compact Lib.compactUpTo
  rw [List.mem_map]
  constructor
  · rintro ⟨i, hi, rfl⟩
    have hl := List.mem_range.1 (List.mem_filter.1 hi).1
    rw [getElem!_pos _ _ (by simpa using hl), List.getElem_toArray]
    exact List.getElem_mem _
  · intro hv
    obtain ⟨i, hi, e⟩ := List.mem_iff_getElem.1 hv
    have key : ∀ i : Nat, (hi : i < zs.length) → zs[i] = v → ∃ a, a ∈ (List.range zs.length).filter (Lib.keeps zs.toArray) ∧ zs.toArray[a]! = v := by
      intro i
      induction i with
      | zero =>
        intro hi e
        refine ⟨0, List.mem_filter.2 ⟨List.mem_range.2 hi, Lib.keeps_lt_one _ 0 (by omega)⟩, ?_⟩
        rw [getElem!_pos _ _ (by simpa using hi), List.getElem_toArray]; exact e
      | succ i ih =>
        intro hi e
        have hi1 : i < zs.length := by omega
        by_cases h : zs[i + 1] = zs[i]
        · exact ih hi1 (h ▸ e)
        · refine ⟨i + 1, List.mem_filter.2 ⟨List.mem_range.2 hi, Lib.keeps_pos ?_⟩, ?_⟩
          · rw [getElem!_pos _ _ (by simpa using hi), Nat.add_sub_cancel, getElem!_pos _ _ (by simpa using hi1)]
            simpa using h
          · rw [getElem!_pos _ _ (by simpa using hi), List.getElem_toArray]; exact e
    exact key i hi e
/-- The insertion: what one round leaves. -/
theorem ins_strict {out : List Int} (hs : out.Pairwise (· < ·)) (v : Int) (k : Nat) (hk : k ≤ out.length) (h1 : ∀ j, (h : j < out.length) → j < k → out[j] < v) (h2 : ∀ j, (h : j < out.length) → k ≤ j → v < out[j]) :
    (out.take k ++ [v] ++ out.drop k).Pairwise (· < ·) ∧ ∀ x, x ∈ out.take k ++ [v] ++ out.drop k ↔ x ∈ out ∨ x = v := by
  have ht : ∀ x ∈ out.take k, x < v := by
    intro x hx
    obtain ⟨j, hj, e⟩ := List.mem_iff_getElem.1 hx
    rw [List.length_take] at hj
    rw [List.getElem_take] at e
    have := h1 j (by omega) (by omega)
    omega
  have hd : ∀ x ∈ out.drop k, v < x := by
    intro x hx
    obtain ⟨j, hj, e⟩ := List.mem_iff_getElem.1 hx
    rw [List.length_drop] at hj
    rw [List.getElem_drop] at e
    have := h2 (k + j) (by omega) (by omega)
    omega
  constructor
  · rw [List.append_assoc, List.pairwise_append]
    refine ⟨hs.take, ?_, ?_⟩
    · rw [List.singleton_append, List.pairwise_cons]
      exact ⟨hd, hs.drop⟩
    · intro a ha b hb
      rcases List.mem_append.1 hb with hb | hb
      · obtain rfl : b = v := by simpa using hb
        exact ht a ha
      · have := ht a ha; have := hd b hb; omega
  · intro x
    rw [List.mem_append, List.mem_append, List.mem_singleton]
    have := List.take_append_drop k out
    constructor
    · rintro ((h | h) | h)
      · exact .inl (List.mem_of_mem_take h)
      · exact .inr h
      · exact .inl (List.mem_of_mem_drop h)
    · rintro (h | h)
      · rw [← this] at h
        rcases List.mem_append.1 h with h | h
        · exact .inl (.inl h)
        · exact .inr h
      · exact .inl (.inr h)
theorem srt_l1 (x0 : List Int) (i : Nat) (hi : i < x0.length) (hx : x0.length ≤ 1000) (out : List Int) (hs : out.Pairwise (· < ·)) (hl : out.length ≤ 1000) : ∀ k : Nat, k ≤ out.length → (∀ j, (h : j < out.length) → k ≤ j → x0[i] < out[j]) →
    ∃ out', out'.Pairwise (· < ·) ∧ (∀ x, x ∈ out' ↔ x ∈ out ∨ x = x0[i]) ∧ out'.length ≤ out.length + 1 ∧ ∀ R : List Int, Ev (fun n => sleuthref05_Sorted.l0 n x0 out' ((i + 1 : Nat) : Int)) R → Ev (fun n => sleuthref05_Sorted.l1 n x0 out (i : Int) (k : Int)) R := by
  have a1 : (0 : Int) ≤ (i : Int) := Int.natCast_nonneg _
  have a2 : (i : Int) < (x0.length : Int) := by omega
  have ws := w_suc i (by omega)
  have er := rdg x0 i hi
  intro k
  induction k with
  | zero =>
    intro hk h2
    have hI := ins_strict hs x0[i] 0 hk (fun j _ h => absurd h (Nat.not_lt_zero _)) h2
    refine ⟨out.take 0 ++ [x0[i]] ++ out.drop 0, hI.1, hI.2, by simp, fun R hR => ?_⟩
    refine Ev.step (fun n => ?_) hR
    simp only [sleuthref05_Sorted.l1]
    rw [if_neg (by omega)]
    simp only [Option.bind_some]
    rw [if_pos (by omega), if_pos (by omega), if_pos (by first | omega | (simp <;> omega)), if_pos a1, if_pos a2]
    rw [if_pos (by first | omega | (simp <;> omega)), if_pos (by first | omega | (simp <;> omega)), er, ws]
    rfl
  | succ k ih =>
    intro hk h2
    have w1 : wrap64 (((k + 1 : Nat) : Int) - 1) = (k : Int) := by rw [w64 (by omega) (by omega)]; omega
    have hkl : k < out.length := by omega
    have ek := rdg out k hkl
    have b1 : (0 : Int) ≤ (k : Int) := Int.natCast_nonneg _
    have b2 : (k : Int) < (out.length : Int) := by omega
    by_cases hgt : out[k] > x0[i]
    · obtain ⟨out', o1, o2, o3, o4⟩ := ih (by omega) (fun j hj hkj => by
        rcases Nat.lt_or_eq_of_le hkj with h | h
        · exact h2 j hj h
        · subst h; exact hgt)
      refine ⟨out', o1, o2, o3, fun R hR => ?_⟩
      refine Ev.step (fun n => ?_) (o4 R hR)
      simp only [sleuthref05_Sorted.l1]
      rw [if_pos (by omega), w1, if_pos b1, if_pos b2, if_pos a1, if_pos a2, ek, er, if_pos hgt]
    · by_cases he : out[k] = x0[i]
      · refine ⟨out, hs, fun x => ⟨fun h => .inl h, fun h => h.elim id (fun e => by rw [e, ← he]; exact List.getElem_mem _)⟩, by omega, fun R hR => ?_⟩
        refine Ev.step (fun n => ?_) hR
        simp only [sleuthref05_Sorted.l1]
        rw [if_pos (by omega), w1, if_pos b1, if_pos b2, if_pos a1, if_pos a2, ek, er, if_neg hgt, if_pos he, ws]
      · have hI := ins_strict hs x0[i] (k + 1) hk (fun j hj hjk => by
          have hjle : out[j] ≤ out[k] := by
            rcases Nat.lt_or_eq_of_le (Nat.le_of_lt_succ hjk) with h | h
            · exact Int.le_of_lt (List.pairwise_iff_getElem.1 hs j k hj hkl h)
            · subst h; exact Int.le_refl _
          omega) h2
        refine ⟨out.take (k + 1) ++ [x0[i]] ++ out.drop (k + 1), hI.1, hI.2, by simp; omega, fun R hR => ?_⟩
        refine Ev.step (fun n => ?_) hR
        simp only [sleuthref05_Sorted.l1]
        rw [if_pos (by omega), w1, if_pos b1, if_pos b2, if_pos a1, if_pos a2, ek, er, if_neg hgt, if_neg he]
        simp only [Option.bind_some]
        rw [if_pos (by omega), if_pos (by omega), if_pos (by first | omega | (simp <;> omega)), if_pos (by first | omega | (simp <;> omega)), if_pos (by first | omega | (simp <;> omega)), ws]
        rfl
theorem srt_l0 (x0 : List Int) (hx : x0.length ≤ 500) : ∀ (d i : Nat) (out : List Int), x0.length - i = d → i ≤ x0.length → out.Pairwise (· < ·) → out.length ≤ i → ∃ out', out'.Pairwise (· < ·) ∧ (∀ x, x ∈ out' ↔ x ∈ out ∨ x ∈ x0.drop i) ∧ Ev (fun n => sleuthref05_Sorted.l0 n x0 out (i : Int)) out' := by
  intro d
  induction d with
  | zero =>
    intro i out hd hi hs hl
    have e : i = x0.length := by omega
    subst e
    refine ⟨out, hs, fun x => by rw [List.drop_length]; simp, Ev.step (f := fun _ => some out) (fun n => ?_) (Ev.now _)⟩
    simp only [sleuthref05_Sorted.l0]
    rw [if_neg (by omega)]
  | succ d ih =>
    intro i out hd hi hs hl
    have h1 : i < x0.length := by omega
    obtain ⟨o1, p1, p2, p3, p4⟩ := srt_l1 x0 i h1 (by omega) out hs (by omega) out.length (Nat.le_refl _) (fun j hj hk => absurd hj (by omega))
    obtain ⟨o2, q1, q2, q3⟩ := ih (i + 1) o1 (by omega) (by omega) p1 (by omega)
    refine ⟨o2, q1, fun x => ?_, Ev.step (f := fun n => sleuthref05_Sorted.l1 n x0 out (i : Int) (out.length : Int)) (fun n => ?_) (p4 _ q3)⟩
    · rw [q2, p2, List.drop_eq_getElem_cons h1, List.mem_cons]
      constructor
      · rintro ((h | h) | h)
        · exact .inl h
        · exact .inr (.inl h)
        · exact .inr (.inr h)
      · rintro (h | h | h)
        · exact .inl (.inl h)
        · exact .inl (.inr h)
        · exact .inr h
    · simp only [sleuthref05_Sorted.l0]
      rw [if_pos (by omega)]
/-- What Clusters cuts into rows: sorted, each number once. -/
def once (l : List Int) : List Int := Lib.compact (l.mergeSort fun x y => decide (x ≤ y))
theorem merge_sorted (l : List Int) : (l.mergeSort fun x y => decide (x ≤ y)).Pairwise (· ≤ ·) := by
  have h := List.pairwise_mergeSort (le := fun (x y : Int) => decide (x ≤ y)) (fun a b c => by simp only [decide_eq_true_eq]; omega) (fun a b => by simp only [Bool.or_eq_true, decide_eq_true_eq]; omega) l
  exact h.imp (fun h => of_decide_eq_true h)
theorem once_mem (l : List Int) (v : Int) : v ∈ once l ↔ v ∈ l := by unfold once; rw [compact_mem]; exact List.mem_mergeSort
theorem sorted_ev (l : List Int) (h : l.length ≤ 500) : Ev (fun k => sleuthref05_Sorted.f k l) (once l) := by
  obtain ⟨o, h1, h2, h3⟩ := srt_l0 l h _ 0 [] rfl (Nat.zero_le _) List.Pairwise.nil (Nat.le_refl _)
  have e : o = once l := strict_eq _ _ h1 (compact_strict (merge_sorted l)) (fun v => by rw [h2, once_mem]; simp)
  rw [← e]
  exact h3
theorem same_loop (a : List Int) (hb : a.length ≤ 100000) : ∀ (d i : Nat), a.length - i = d → i ≤ a.length → Ev (fun k => sleuthref05_Same.l0 k a a (i : Int)) true := by
  intro d
  induction d with
  | zero =>
    intro i hd hi
    refine Ev.step (f := fun _ => some true) (fun k => ?_) (Ev.now _)
    simp only [sleuthref05_Same.l0]
    rw [if_neg (by omega)]
  | succ d ih =>
    intro i hd hi
    refine Ev.step (fun k => ?_) (ih (i + 1) (by omega) (by omega))
    simp only [sleuthref05_Same.l0]
    rw [if_pos (by omega), if_pos (by omega), if_pos (by omega), w_suc i (by omega)]
    exact if_pos trivial
theorem same_true (a : List Int) (hb : a.length ≤ 100000) : Ev (fun k => sleuthref05_Same.f k a a) true := by
  unfold sleuthref05_Same.f
  exact Ev.congr (fun k => if_pos rfl) (same_loop a hb _ 0 rfl (Nat.zero_le _))
theorem cmp_l2 (y : List (List Int)) (hy : y.length ≤ 100000) (hr : ∀ r ∈ y, r.length ≤ 100000) : ∀ (d i : Nat), y.length - i = d → i ≤ y.length → Ev (fun k => sleuthlaw45_ChangepointClusters.l2 k y y (i : Int)) true := by
  intro d
  induction d with
  | zero =>
    intro i hd hi
    refine Ev.step (f := fun _ => some true) (fun k => ?_) (Ev.now _)
    simp only [sleuthlaw45_ChangepointClusters.l2]
    rw [if_neg (by omega)]
  | succ d ih =>
    intro i hd hi
    have h1 : i < y.length := by omega
    have e : rd_L2 y (i : Int) = y[i] := by unfold rd_L2; rw [Int.toNat_natCast, List.getD_eq_getElem?_getD, List.getElem?_eq_getElem h1]; rfl
    have hs := same_true y[i] (hr _ (List.getElem_mem h1))
    refine Ev.step (f := fun k => (sleuthref05_Same.f k y[i] y[i]).bind fun t => if t = true then sleuthlaw45_ChangepointClusters.l2 k y y ((i + 1 : Nat) : Int) else some false) (fun k => ?_) (Ev.bind hs ?_)
    · simp only [sleuthlaw45_ChangepointClusters.l2]
      rw [if_pos (by omega), if_pos (by omega), if_pos (by omega), e, w_suc i (by omega)]
    · exact Ev.congr (fun k => if_pos rfl) (ih (i + 1) (by omega) (by omega))
theorem lst_app (l : List Int) (v : Int) : lst (l ++ [v]) = v := by simp [lst]
theorem lst_step (gap : Int) (y : List (List Int)) (v : Int) : lst (lastR (stepC gap y v)) = v := by
  unfold stepC
  split
  · rfl
  · rename_i hne
    have hp : 0 < y.length := List.length_pos_iff.2 hne
    split
    · rw [lastR_app]; rfl
    · have e : lastR (putR y v) = lastR y ++ [v] := by
        unfold putR
        generalize lastR y ++ [v] = r
        unfold lastR
        rw [List.length_set, List.getD_eq_getElem?_getD, List.getElem?_set_self (by omega)]
        rfl
      rw [e, lst_app]
/-- The law's own loop is Clusters's. -/
theorem want_l1 (gap : Int) (c : List (List Int)) (e6 : Int) (xs : List Int) (hx : ∀ v ∈ xs, 0 ≤ v ∧ v ≤ 1048576) (hl : xs.length ≤ 2000) (R : Bool) (hR : Ev (fun k => if e6 = 0 then sleuthlaw45_ChangepointClusters.j4 k c (xs.foldl (stepC gap) []) ((c.length : Int) != ((xs.foldl (stepC gap) []).length : Int)) else sleuthlaw45_ChangepointClusters.j4 k c (xs.foldl (stepC gap) []) true) R) :
    ∀ (d i : Nat) (y : List (List Int)), xs.length - i = d → i ≤ xs.length → InvC i y → (∀ h : i - 1 < xs.length, 0 < i → lst (lastR y) = xs[i - 1]) → (xs.drop i).foldl (stepC gap) y = xs.foldl (stepC gap) [] → Ev (fun k => sleuthlaw45_ChangepointClusters.l1 k gap c e6 y xs (i : Int)) R := by
  intro d
  induction d with
  | zero =>
    intro i y hi hi2 _ _ hf
    have e : i = xs.length := by omega
    subst e
    rw [List.drop_length, List.foldl_nil] at hf
    subst hf
    refine Ev.step (fun k => ?_) hR
    simp only [sleuthlaw45_ChangepointClusters.l1]
    rw [if_neg (by omega)]
  | succ d ih =>
    intro i y hi hi2 hI hL hf
    have h1 : i < xs.length := by omega
    have hv := hx _ (List.getElem_mem h1)
    rw [List.drop_eq_getElem_cons h1, List.foldl_cons] at hf
    have hk := ih (i + 1) (stepC gap y xs[i]) (by omega) (by omega) (stepC_inv gap _ hI hv) (fun _ _ => lst_step gap y xs[i]) hf
    have hrd := rdg xs i h1
    have q1 : (0 : Int) ≤ (i : Int) := Int.natCast_nonneg _
    have q2 : (i : Int) < (xs.length : Int) := by omega
    obtain ⟨hy1, hy2, hy3⟩ := hI
    have ws := w_suc i (by omega)
    refine Ev.step (fun k => ?_) hk
    simp only [sleuthlaw45_ChangepointClusters.l1]
    rw [if_pos q2]
    by_cases hz : i = 0
    · subst hz
      have hy0 : y = [] := List.length_eq_zero_iff.1 (by omega)
      subst hy0
      rw [if_neg (show ¬ ((0 : Nat) : Int) > 0 by decide), if_pos (show (0 : Int) ≤ ((0 : Nat) : Int) by decide), if_pos (by decide), hrd, ws]
      rfl
    · have hne := hy2 (by omega)
      have hp : 0 < y.length := List.length_pos_iff.2 hne
      have hm := hy3 _ (lastR_mem hne)
      have hp2 : 0 < (lastR y).length := List.length_pos_iff.2 hm.1
      have hml := hm.2.1
      have hi1 : i - 1 < xs.length := by omega
      have wp := w_pred i (by omega) (by omega)
      have hrd1 := rdg xs (i - 1) hi1
      have hll := hL hi1 (by omega)
      have hv1 := hx _ (List.getElem_mem hi1)
      have ed : wrap64 (xs[i] - xs[i - 1]) = xs[i] - xs[i - 1] := w64 (by omega) (by omega)
      rw [if_pos (show (i : Int) > 0 by omega), if_pos q1, wp, if_pos (Int.natCast_nonneg _), if_pos (show ((i - 1 : Nat) : Int) < (xs.length : Int) by omega), hrd, hrd1, ed]
      by_cases hg : xs[i] - xs[i - 1] ≤ gap
      · rw [if_pos hg, put_code y xs[i] hne (by omega) (by omega) (fun z => sleuthlaw45_ChangepointClusters.l1 k gap c e6 z xs (wrap64 ((i : Int) + 1))), ws]
        have e : stepC gap y xs[i] = putR y xs[i] := by unfold stepC; rw [if_neg hne, if_neg (by rw [hll]; omega)]
        rw [e]
      · rw [if_neg hg, if_pos (by omega), ws]
        have e : stepC gap y xs[i] = y ++ [[xs[i]]] := by unfold stepC; rw [if_neg hne, if_pos (by rw [hll]; omega)]
        rw [e]
/-- The law's check of the numbers. -/
def inr (v : Int) : Bool := decide (v ≥ 0) && decide (v ≤ 1048576)
theorem inr_off (v : Int) : inr v = !HandD.off v := by
  unfold inr HandD.off
  rw [Bool.eq_iff_iff]
  simp only [Bool.and_eq_true, decide_eq_true_eq, Bool.not_eq_true', Bool.or_eq_false_iff, decide_eq_false_iff_not]
  omega
theorem right_l0 (x0 : List Int) (hl : x0.length ≤ 1000) (a1 : Int) (c : List (List Int)) (e6 : Int) (R : Bool) : ∀ (d i : Nat) (b : Bool), x0.length - i = d → i ≤ x0.length →
    Ev (fun k => if (b && (x0.drop i).all inr) = true then ((sleuthref05_Sorted.f k x0).bind fun t435 => (sleuthlaw45_ChangepointClusters.l1 k a1 c e6 ([] : List (List Int)) t435 0)) else (if e6 = 2 then (some ((c.length : Int) == 0)) else (some false))) R →
    Ev (fun k => sleuthlaw45_ChangepointClusters.l0 k x0 a1 c e6 b (i : Int)) R := by
  intro d
  induction d with
  | zero =>
    intro i b hi hi2 hR
    have e : i = x0.length := by omega
    subst e
    rw [List.drop_length, List.all_nil, Bool.and_true] at hR
    refine Ev.step (fun k => ?_) hR
    simp only [sleuthlaw45_ChangepointClusters.l0]
    rw [if_neg (Int.lt_irrefl _)]
  | succ d ih =>
    intro i b hi hi2 hR
    have h1 : i < x0.length := by omega
    have hrd := rdg x0 i h1
    rw [List.drop_eq_getElem_cons h1, List.all_cons, ← Bool.and_assoc] at hR
    have hk := ih (i + 1) (b && inr x0[i]) (by omega) (by omega) hR
    have ws := w_suc i (by omega)
    refine Ev.step (fun k => ?_) hk
    simp only [sleuthlaw45_ChangepointClusters.l0]
    rw [if_pos (show (i : Int) < (x0.length : Int) by omega), hrd, ws]
    cases b with
    | false => rfl
    | true =>
      rw [if_pos rfl, if_pos (Int.natCast_nonneg _), Bool.true_and]
      unfold inr
      by_cases h0 : x0[i] ≥ 0
      · rw [if_pos h0, decide_eq_true h0, Bool.true_and]
      · rw [if_neg h0, decide_eq_false h0, Bool.false_and]
theorem clu_ev (l : List Int) (hl : l.length ≤ 1000) (gap : Int) : Ev (fun k => changepoint_Clusters.f k l gap) (if HandD.off gap = true ∨ l.any HandD.off = true then ([], 2) else ((once l).foldl (stepC gap) [], 0)) := by
  unfold changepoint_Clusters.f
  refine Ev.congr (fun k => if_neg (by omega)) ?_
  have h1 : changepoint_Clusters_1.f gap = some (HandD.off gap) := by
    unfold changepoint_Clusters_1.f HandD.off
    by_cases h : gap < 0
    · rw [if_pos h, decide_eq_true h, Bool.true_or]
    · rw [if_neg h, decide_eq_false h, Bool.false_or]
  rw [h1]
  simp only [Option.bind_some]
  have bad : Ev (fun k => changepoint_Clusters.j0 k l gap true) (([] : List (List Int)), (2 : Int)) := Ev.step (f := fun _ => some (([] : List (List Int)), (2 : Int))) (fun k => by simp only [changepoint_Clusters.j0, if_true]) (Ev.now _)
  by_cases hg : HandD.off gap = true
  · rw [if_pos (Or.inl hg)]
    exact Ev.congr (fun k => if_pos hg) bad
  · refine Ev.congr (fun k => if_neg hg) ?_
    have h2 : slices_ContainsFunc_off.f l = some (l.any HandD.off) := rfl
    rw [h2]
    simp only [Option.bind_some]
    by_cases ha : l.any HandD.off = true
    · rw [ha, if_pos (Or.inr rfl)]
      exact bad
    · have ha' : l.any HandD.off = false := by simpa using ha
      rw [ha', if_neg (by rintro (h | h); exact hg h; exact absurd h (by decide))]
      have hin : ∀ v ∈ l, 0 ≤ v ∧ v ≤ 1048576 := by
        intro v hv
        have := List.any_eq_false.1 ha' v hv
        unfold HandD.off at this
        simp only [Bool.or_eq_true, decide_eq_true_eq] at this
        omega
      have hlen : (once l).length ≤ 1000 := by
        have := HandD.compact_le (l.mergeSort fun x y => decide (x ≤ y))
        rw [List.length_mergeSort] at this
        exact Nat.le_trans this hl
      have hl0 := clu_l0 gap (once l) (fun v hv => hin v ((once_mem l v).1 hv)) (by omega) _ 0 [] rfl (Nat.zero_le _) ⟨by simp, fun h => absurd h (Nat.lt_irrefl 0), fun r hr => absurd hr (by simp)⟩
      rw [List.drop_zero] at hl0
      refine Ev.step (fun k => ?_) hl0
      simp only [changepoint_Clusters.j0, Bool.false_eq_true, if_false]
      unfold slices_Clone_int_int.f slices_Sort_int_int.f slices_Compact_int_int.f
      rw [if_pos (by omega)]
      simp only [Option.bind_some]
      rw [if_pos (by omega)]
      rfl
theorem foldl_inv (gap : Int) (xs : List Int) (hx : ∀ v ∈ xs, 0 ≤ v ∧ v ≤ 1048576) : ∀ (i : Nat) (y : List (List Int)), InvC i y → InvC (i + xs.length) (xs.foldl (stepC gap) y) := by
  induction xs with
  | nil => exact fun i y h => h
  | cons v xs ih =>
    intro i y h
    have := ih (fun v hv => hx v (List.mem_cons_of_mem _ hv)) (i + 1) _ (stepC_inv gap v h (hx v List.mem_cons_self))
    rw [List.length_cons, List.foldl_cons, show i + (xs.length + 1) = i + 1 + xs.length by omega]
    exact this
theorem lawClusters (l0 : List Int) (a1 : Int) : Ev (fun k => sleuthlaw45_ChangepointClusters.f k l0 a1) true := by
  unfold sleuthlaw45_ChangepointClusters.f
  refine Ev.bind known_ev ?_
  simp only [if_true]
  by_cases h20 : (l0.length : Int) > 20
  · rw [decide_eq_true h20]
    refine Ev.step (f := fun k => (sleuthlaw45_known.f k).bind fun t => some t) (fun k => ?_) (Ev.bind known_ev (Ev.now true))
    simp only [sleuthlaw45_ChangepointClusters.j0, if_true]
  · rw [decide_eq_false h20]
    have ec := clu_ev l0 (by omega) a1
    have hj : ∀ (c : List (List Int)) (e6 : Int) (b : Bool), Ev (fun k => if (b && l0.all inr) = true then ((sleuthref05_Sorted.f k l0).bind fun t435 => (sleuthlaw45_ChangepointClusters.l1 k a1 c e6 ([] : List (List Int)) t435 0)) else (if e6 = 2 then (some ((c.length : Int) == 0)) else (some false))) true → Ev (fun k => sleuthlaw45_ChangepointClusters.j1 k l0 a1 c e6 b) true := by
      intro c e6 b h
      refine Ev.step (fun k => ?_) (right_l0 l0 (by omega) a1 c e6 true _ 0 b rfl (Nat.zero_le _) (by rw [List.drop_zero]; exact h))
      simp only [sleuthlaw45_ChangepointClusters.j1]
      rfl
    have hgap : ∀ (c : List (List Int)) (e6 : Int) (R : Bool), Ev (fun k => sleuthlaw45_ChangepointClusters.j1 k l0 a1 c e6 (inr a1)) R → Ev (fun k => if a1 ≥ 0 then (sleuthlaw45_ChangepointClusters.j1 k l0 a1 c e6 (decide (a1 ≤ 1048576))) else (sleuthlaw45_ChangepointClusters.j1 k l0 a1 c e6 false)) R := by
      intro c e6 R h
      unfold inr at h
      by_cases h0 : a1 ≥ 0
      · rw [decide_eq_true h0, Bool.true_and] at h
        exact Ev.congr (fun k => if_pos h0) h
      · rw [decide_eq_false h0, Bool.false_and] at h
        exact Ev.congr (fun k => if_neg h0) h
    refine Ev.step (f := fun k => (changepoint_Clusters.f k l0 a1).bind fun bt => (if a1 ≥ 0 then (sleuthlaw45_ChangepointClusters.j1 k l0 a1 bt.1 bt.2 (decide (a1 ≤ 1048576))) else (sleuthlaw45_ChangepointClusters.j1 k l0 a1 bt.1 bt.2 false))) (fun k => ?_) (Ev.bind ec ?_)
    · simp only [sleuthlaw45_ChangepointClusters.j0, Bool.false_eq_true, if_false]
    · refine hgap _ _ _ (hj _ _ _ ?_)
      have hall : l0.all inr = !l0.any HandD.off := by
        rw [List.not_any_eq_all_not]
        exact congrArg (fun f => l0.all f) (funext inr_off)
      rw [inr_off, hall]
      by_cases ho : HandD.off a1 = true ∨ l0.any HandD.off = true
      · rw [if_pos ho]
        have e : ((!HandD.off a1) && (!l0.any HandD.off)) = false := by
          rcases ho with h | h <;> rw [h] <;> simp
        rw [e]
        simp only [Bool.false_eq_true, if_false, if_true]
        exact Ev.now true
      · rw [if_neg ho]
        have h1 : HandD.off a1 = false := by simpa using fun h => ho (Or.inl h)
        have h2 : l0.any HandD.off = false := by
          cases h : l0.any HandD.off with
          | false => rfl
          | true => exact absurd (Or.inr h) ho
        rw [h1, h2]
        simp only [Bool.not_false, Bool.and_self, if_true]
        refine Ev.bind (sorted_ev l0 (by omega)) ?_
        have hin : ∀ v ∈ once l0, 0 ≤ v ∧ v ≤ 1048576 := by
          intro v hv
          have := List.any_eq_false.1 h2 v ((once_mem l0 v).1 hv)
          unfold HandD.off at this
          simp only [Bool.or_eq_true, decide_eq_true_eq] at this
          omega
        have hlen : (once l0).length ≤ 1000 := by
          have := HandD.compact_le (l0.mergeSort fun x y => decide (x ≤ y))
          rw [List.length_mergeSort] at this
          exact Nat.le_trans this (by omega)
        have i0 : InvC 0 [] := ⟨by simp, fun h => absurd h (Nat.lt_irrefl 0), fun r hr => absurd hr (by simp)⟩
        have iF := foldl_inv a1 (once l0) hin 0 [] i0
        rw [Nat.zero_add] at iF
        refine want_l1 a1 _ 0 (once l0) hin (by omega) true ?_ _ 0 [] rfl (Nat.zero_le _) i0 (fun _ h => absurd h (Nat.lt_irrefl 0)) (by rw [List.drop_zero])
        simp only [if_true]
        have ne : ∀ n : Int, (n != n) = false := fun n => by simp
        rw [ne]
        refine Ev.step (fun k => ?_) (cmp_l2 ((once l0).foldl (stepC a1) []) (by have := iF.1; omega) (fun r hr => by have := (iF.2.2 r hr).2.1; omega) _ 0 rfl (Nat.zero_le _))
        simp only [sleuthlaw45_ChangepointClusters.j4, Bool.false_eq_true, if_false]
        rfl
end Go.Proofs.Ytcjgmofgfblmnaa.Seg
