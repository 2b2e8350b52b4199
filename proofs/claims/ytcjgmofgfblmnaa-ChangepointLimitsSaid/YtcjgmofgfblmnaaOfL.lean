/- Plain law: ChangepointLimits. -/
import Derived.Test.YtcjgmofgfblmnaaOfK
import Derived.Test.YtcjgmofgfblmnaaQgSleuthlaw45ChangepointLimits
namespace Go.Proofs.Ytcjgmofgfblmnaa.Seg
open Go.RowKit Go.Proofs.YtcjgmofgfblmnaaW.PrintWords Go.Proofs.YtcjgmofgfblmnaaW.PrintLast Go.Proofs.YtcjgmofgfblmnaaW.PrintMore Go.Proofs.Ytcjgmofgfblmnaa.Q
open Go.Proofs.Ytcjgmofgfblmnaa.MatX (mag dirI gds game tp)
open Go.Proofs.Ytcjgmofgfblmnaa.MatY (best best_best matchF bdB)
set_option linter.unusedVariables false
set_option linter.unusedSimpArgs false
set_option linter.unusedSimpArgs false
/-- The changes, and the slots, that the statement makes. -/
def cl (n : Nat) : List S41 := (List.range n).map fun (j : Nat) => (⟨2 * (j : Int), 0, 1⟩ : S41)
def sl (n : Nat) : List Int := (List.range n).map fun (j : Nat) => (j : Int)
theorem cl_succ (n : Nat) : cl (n + 1) = cl n ++ [(⟨2 * (n : Int), 0, 1⟩ : S41)] := by unfold cl; rw [List.range_succ, List.map_append]; rfl
theorem sl_succ (n : Nat) : sl (n + 1) = sl n ++ [(n : Int)] := by unfold sl; rw [List.range_succ, List.map_append]; rfl
theorem cl_len (n : Nat) : (cl n).length = n := by unfold cl; rw [List.length_map, List.length_range]
theorem sl_len (n : Nat) : (sl n).length = n := by unfold sl; rw [List.length_map, List.length_range]
theorem sl_bd {n : Nat} (h : n ≤ 1030) : ∀ v ∈ sl n, 0 ≤ v ∧ v ≤ 1048576 := by
  intro v hv
  unfold sl at hv
  obtain ⟨j, hj, rfl⟩ := List.mem_map.1 hv
  have := List.mem_range.1 hj
  omega
theorem sl_get (n j : Nat) (h : j < (sl n).length) : (sl n)[j] = (j : Int) := by simp [sl]
theorem sl_sorted (n : Nat) : (sl n).mergeSort (fun x y => decide (x ≤ y)) = sl n := by
  refine List.mergeSort_of_pairwise ?_
  unfold sl
  rw [List.pairwise_map]
  exact (List.pairwise_lt_range (n := n)).imp (fun h => decide_eq_true (by omega))
theorem sl_compact (n : Nat) : Lib.compact (sl n) = sl n := by
  refine Lib.compact_all _ (fun j hj => ?_)
  rcases Nat.eq_zero_or_pos j with h | h
  · subst h; exact Lib.keeps_lt_one _ 0 (by omega)
  · refine Lib.keeps_pos ?_
    have hj1 : j - 1 < (sl n).length := by omega
    rw [getElem!_pos _ _ (by simpa using hj), getElem!_pos _ _ (by simpa using hj1)]
    simp only [List.getElem_toArray, sl_get]
    omega
theorem sl_fold : ∀ n, (sl n).foldl (stepC 1) [] = if n = 0 then [] else [sl n]
  | 0 => rfl
  | n + 1 => by
    rw [sl_succ, List.foldl_append, sl_fold n]
    cases n with
    | zero => rfl
    | succ m =>
      have hlast : lst (lastR [sl (m + 1)]) = (m : Int) := by
        have h0 : lastR [sl (m + 1)] = sl (m + 1) := rfl
        rw [h0]
        unfold lst
        rw [sl_len, List.getD_eq_getElem?_getD, List.getElem?_eq_getElem (by rw [sl_len]; omega), Option.getD_some, sl_get]
        rfl
      simp only [List.foldl_cons, List.foldl_nil, Nat.add_one_ne_zero, if_false]
      unfold stepC
      rw [if_neg (by simp), hlast, if_neg (by omega)]
      rfl
theorem clu_sl (n : Nat) (h : n ≤ 1030) : Ev (fun k => changepoint_Clusters.f k (sl n) 1) (if 1024 < n then ([], 6) else ((if n = 0 then [] else [sl n]), 0)) := by
  unfold changepoint_Clusters.f
  by_cases hn : 1024 < n
  · rw [if_pos hn]
    refine Ev.congr (fun k => if_pos (by rw [sl_len]; omega)) (Ev.now _)
  · rw [if_neg hn]
    refine Ev.congr (fun k => if_neg (by rw [sl_len]; omega)) ?_
    have h1 : changepoint_Clusters_1.f 1 = some false := by unfold changepoint_Clusters_1.f; rw [if_neg (by decide)]; rfl
    have h2 : slices_ContainsFunc_off.f (sl n) = some false := by
      unfold slices_ContainsFunc_off.f
      have : (sl n).any HandD.off = false := by
        rw [List.any_eq_false]
        intro v hv
        have := sl_bd h v hv
        unfold HandD.off
        simp only [Bool.or_eq_true, decide_eq_true_eq]
        omega
      rw [this]
    rw [h1, h2]
    simp only [Option.bind_some, Bool.false_eq_true, if_false]
    refine Ev.step (f := fun k => changepoint_Clusters.l0 k 1 [] (sl n) ((sl n).length : Int) ((0 : Nat) : Int)) (fun k => ?_) ?_
    · simp only [changepoint_Clusters.j0, Bool.false_eq_true, if_false]
      unfold slices_Clone_int_int.f slices_Sort_int_int.f slices_Compact_int_int.f
      rw [if_pos (by rw [sl_len]; omega)]
      simp only [Option.bind_some]
      rw [if_pos (by rw [sl_len]; omega), sl_sorted]
      simp only [Option.bind_some]
      rw [sl_compact]
      rfl
    · have := clu_l0 1 (sl n) (sl_bd h) (by rw [sl_len]; omega) _ 0 [] rfl (Nat.zero_le _) ⟨by simp, fun h => absurd h (Nat.lt_irrefl 0), fun r hr => absurd hr (by simp)⟩
      rw [List.drop_zero, sl_fold] at this
      exact this
theorem match_cl (n : Nat) (h : n ≤ 260) : ∃ r : List S58, r.length = (if 256 < n then 0 else n) ∧ changepoint_Match.f (cl n) (cl n) 1 = some (r, if 256 < n then 6 else 0) := by
  unfold changepoint_Match.f matchF
  by_cases hn : 256 < n
  · refine ⟨[], by rw [if_pos hn]; rfl, ?_⟩
    rw [if_pos (Or.inl (by rw [cl_len]; exact hn)), if_pos hn]
  · have hb : bdB (cl n) = true := by
      unfold bdB
      rw [List.all_eq_true]
      intro x hx
      unfold cl at hx
      obtain ⟨j, hj, rfl⟩ := List.mem_map.1 hx
      have := List.mem_range.1 hj
      exact decide_eq_true (by dsimp only; omega)
    have B := best_best (game (cl n) (cl n) 1)
    have own := B.own rfl (fun i _ => by
      have e : gds (cl n) (cl n) i i = 0 := by unfold gds mag; omega
      refine ⟨?_, e⟩
      show (decide (gds (cl n) (cl n) i i ≤ 1) && (dirI (rd_T41 (cl n) (i : Int)) == dirI (rd_T41 (cl n) (i : Int)))) = true
      rw [e]
      simp) (fun i k => by show 0 ≤ gds (cl n) (cl n) i k; unfold gds mag; omega)
    have hown : (best (game (cl n) (cl n) 1)).length = (cl n).length := own.1
    refine ⟨(best (game (cl n) (cl n) 1)).map tp, by rw [List.length_map, hown, cl_len, if_neg hn], ?_⟩
    rw [if_neg (by rw [cl_len]; omega), if_neg (by omega), if_pos ⟨hb, hb⟩, if_neg hn]
theorem lim_end (a1 : Int) (n m : Nat) (hn : n ≤ 260) (hm : m ≤ 1030) (ha : wrap64 (Int.tmod a1 1031) = (m : Int)) : Ev (fun k => sleuthlaw45_ChangepointLimits.l1 k a1 (cl n) (sl m) (m : Int)) true := by
  obtain ⟨r, hr, em⟩ := match_cl n hn
  have ec := clu_sl m hm
  have hj : Ev (fun k => sleuthlaw45_ChangepointLimits.j2 k (sl m) (if 1024 < m then (([] : List (List Int)), (6 : Int)) else ((if m = 0 then [] else [sl m]), 0)).1 (if 1024 < m then (([] : List (List Int)), (6 : Int)) else ((if m = 0 then [] else [sl m]), 0)).2 false) true := by
    refine Ev.step (f := fun _ => some true) (fun k => ?_) (Ev.now _)
    simp only [sleuthlaw45_ChangepointLimits.j2, Bool.false_eq_true, if_false, sl_len]
    by_cases h : 1024 < m
    · rw [if_pos (by omega), if_pos h, if_pos rfl]
      rfl
    · rw [if_neg (by omega), if_neg h, if_pos rfl]
      cases m with
      | zero => rfl
      | succ q =>
        have : mn ((q + 1 : Nat) : Int) 1 = 1 := by unfold mn; split <;> omega
        rw [this]
        rfl
  refine Ev.step (f := fun k => (changepoint_Clusters.f k (sl m) 1).bind fun bt506 => sleuthlaw45_ChangepointLimits.j2 k (sl m) bt506.1 bt506.2 false) (fun k => ?_) (Ev.bind ec hj)
  simp only [sleuthlaw45_ChangepointLimits.l1]
  rw [ha, if_neg (Int.lt_irrefl _), em]
  simp only [Option.bind_some, cl_len, hr]
  by_cases h : 256 < n
  · simp only [if_pos h]
    simp only [if_pos (show ((n : Nat) : Int) > 256 by omega), if_true, if_neg (show ¬ ((0 : Nat) : Int) > 0 by decide), if_neg (show ¬ ((n : Nat) : Int) ≤ 256 by omega)]
  · simp only [if_neg h]
    have e : (((n : Nat) : Int) != ((n : Nat) : Int)) = false := by simp
    simp only [if_neg (show ¬ ((n : Nat) : Int) > 256 by omega), if_pos (show ((n : Nat) : Int) ≤ 256 by omega), if_true, e]
theorem lim_l1 (a1 : Int) (n m : Nat) (hn : n ≤ 260) (hm : m ≤ 1030) (ha : wrap64 (Int.tmod a1 1031) = (m : Int)) : ∀ d i : Nat, m - i = d → i ≤ m → Ev (fun k => sleuthlaw45_ChangepointLimits.l1 k a1 (cl n) (sl i) (i : Int)) true := by
  intro d
  induction d with
  | zero => intro i h1 h2; obtain rfl : i = m := by omega
            exact lim_end a1 n i hn hm ha
  | succ d ih =>
    intro i h1 h2
    refine Ev.step (fun k => ?_) (ih (i + 1) (by omega) (by omega))
    simp only [sleuthlaw45_ChangepointLimits.l1]
    rw [ha, if_pos (by omega), if_pos (by rw [sl_len]; omega), w_suc i (by omega), ← sl_succ]
theorem lim_l0 (a0 a1 : Int) (n m : Nat) (hn : n ≤ 260) (hm : m ≤ 1030) (ha0 : wrap64 (Int.tmod a0 261) = (n : Int)) (ha : wrap64 (Int.tmod a1 1031) = (m : Int)) : ∀ d i : Nat, n - i = d → i ≤ n → Ev (fun k => sleuthlaw45_ChangepointLimits.l0 k a0 a1 (cl i) (i : Int)) true := by
  intro d
  induction d with
  | zero =>
    intro i h1 h2
    obtain rfl : i = n := by omega
    refine Ev.step (fun k => ?_) (lim_l1 a1 i m hn hm ha _ 0 rfl (Nat.zero_le _))
    simp only [sleuthlaw45_ChangepointLimits.l0]
    rw [ha0, if_neg (Int.lt_irrefl _)]
    rfl
  | succ d ih =>
    intro i h1 h2
    refine Ev.step (fun k => ?_) (ih (i + 1) (by omega) (by omega))
    simp only [sleuthlaw45_ChangepointLimits.l0]
    have e : wrap64 (2 * (i : Int)) = 2 * (i : Int) := w64 (by omega) (by omega)
    rw [ha0, if_pos (by omega), if_pos (by rw [cl_len]; omega), w_suc i (by omega), e, ← cl_succ]
theorem tm_nat (a c : Int) (h0 : 0 ≤ a) (h1 : a ≤ 65535) (hc : 0 < c) (hc2 : c < 100000) : ∃ n : Nat, wrap64 (Int.tmod a c) = (n : Int) ∧ (n : Int) < c := by
  have e1 : 0 ≤ Int.tmod a c := Int.tmod_nonneg _ h0
  have e2 : Int.tmod a c < c := Int.tmod_lt_of_pos _ hc
  refine ⟨(Int.tmod a c).toNat, ?_, by omega⟩
  rw [w64 (by omega) (by omega)]
  omega
theorem lawLimits (a0 a1 : Int) (h0 : 0 ≤ a0 ∧ a0 ≤ 65535) (h1 : 0 ≤ a1 ∧ a1 ≤ 65535) : Ev (fun k => sleuthlaw45_ChangepointLimits.f k a0 a1) true := by
  obtain ⟨n, en, hn⟩ := tm_nat a0 261 h0.1 h0.2 (by decide) (by decide)
  obtain ⟨m, em, hm⟩ := tm_nat a1 1031 h1.1 h1.2 (by decide) (by decide)
  unfold sleuthlaw45_ChangepointLimits.f
  refine Ev.bind known_ev ?_
  simp only [if_true]
  exact lim_l0 a0 a1 n m (by omega) (by omega) en em _ 0 rfl (Nat.zero_le _)
end Go.Proofs.Ytcjgmofgfblmnaa.Seg
