/- Plain facts of changepoint.Clusters: its loop as a fold. -/
import Derived.Test.YtcjgmofgfblmnaaSg
import Derived.Test.YtcjgmofgfblmnaaQgClu
namespace Go.Proofs.Ytcjgmofgfblmnaa.Seg
open Go.RowKit Go.Proofs.YtcjgmofgfblmnaaW.PrintWords Go.Proofs.YtcjgmofgfblmnaaW.PrintLast Go.Proofs.YtcjgmofgfblmnaaW.PrintMore Go.Proofs.Ytcjgmofgfblmnaa.Q
set_option linter.unusedVariables false
set_option linter.unusedSimpArgs false
set_option linter.unusedSimpArgs false
/-- A row's last element; the last row; v put behind the last row. -/
def lst (r : List Int) : Int := r.getD (r.length - 1) 0
def lastR (y : List (List Int)) : List Int := y.getD (y.length - 1) []
def putR (y : List (List Int)) (v : Int) : List (List Int) := y.set (y.length - 1) (lastR y ++ [v])
def stepC (gap : Int) (y : List (List Int)) (v : Int) : List (List Int) := if y = [] then [[v]] else if v - lst (lastR y) > gap then y ++ [[v]] else putR y v
theorem lastR_app (y : List (List Int)) (r : List Int) : lastR (y ++ [r]) = r := by simp [lastR]
theorem putR_app (y : List (List Int)) (r : List Int) (v : Int) : putR (y ++ [r]) v = y ++ [r ++ [v]] := by
  unfold putR
  rw [lastR_app]
  simp
theorem w_pred (n : Nat) (h0 : 0 < n) (h : n < 1000000) : wrap64 ((n : Int) - 1) = ((n - 1 : Nat) : Int) := by rw [w64 (by omega) (by omega)]; omega
theorem w_suc (i : Nat) (h : i < 1000000) : wrap64 ((i : Int) + 1) = ((i + 1 : Nat) : Int) := by rw [w64 (by omega) (by omega)]; omega
/-- What holds of the rows ahead of round i. -/
def InvC (i : Nat) (y : List (List Int)) : Prop := y.length ≤ i ∧ (0 < i → y ≠ []) ∧ ∀ r ∈ y, r ≠ [] ∧ r.length ≤ i ∧ ∀ v ∈ r, 0 ≤ v ∧ v ≤ 1048576
theorem lastR_mem {y : List (List Int)} (h : y ≠ []) : lastR y ∈ y := by
  have hp : 0 < y.length := List.length_pos_iff.2 h
  unfold lastR
  rw [List.getD_eq_getElem?_getD, List.getElem?_eq_getElem (by omega)]
  exact List.getElem_mem _
theorem lst_mem {r : List Int} (h : r ≠ []) : lst r ∈ r := by
  have hp : 0 < r.length := List.length_pos_iff.2 h
  unfold lst
  rw [List.getD_eq_getElem?_getD, List.getElem?_eq_getElem (by omega)]
  exact List.getElem_mem _
theorem putR_ne {y : List (List Int)} (h : y ≠ []) (v : Int) : putR y v ≠ [] := by
  intro e
  have := congrArg List.length e
  unfold putR at this
  rw [List.length_set] at this
  exact h (List.length_eq_zero_iff.1 this)
theorem stepC_inv {i : Nat} {y : List (List Int)} (gap v : Int) (h : InvC i y) (hv : 0 ≤ v ∧ v ≤ 1048576) : InvC (i + 1) (stepC gap y v) := by
  obtain ⟨h1, h2, h3⟩ := h
  unfold stepC
  split
  · refine ⟨by simp, fun _ => by simp, fun r hr => ?_⟩
    obtain rfl : r = [v] := by simpa using hr
    exact ⟨by simp, by simp, fun x hx => by obtain rfl : x = v := by simpa using hx
                                            exact hv⟩
  · rename_i hne
    split
    · refine ⟨by simp; omega, fun _ => by simp, fun r hr => ?_⟩
      rcases List.mem_append.1 hr with hr | hr
      · exact ⟨(h3 r hr).1, by have := (h3 r hr).2.1; omega, (h3 r hr).2.2⟩
      · obtain rfl : r = [v] := by simpa using hr
        exact ⟨by simp, by simp, fun x hx => by obtain rfl : x = v := by simpa using hx
                                                exact hv⟩
    · refine ⟨by unfold putR; rw [List.length_set]; omega, fun _ => putR_ne hne v, fun r hr => ?_⟩
      unfold putR at hr
      rcases List.mem_or_eq_of_mem_set hr with hr | rfl
      · exact ⟨(h3 r hr).1, by have := (h3 r hr).2.1; omega, (h3 r hr).2.2⟩
      · have hm := h3 _ (lastR_mem hne)
        refine ⟨by simp, by rw [List.length_append]; have := hm.2.1; simp; omega, fun x hx => ?_⟩
        rcases List.mem_append.1 hx with hx | hx
        · exact hm.2.2 x hx
        · obtain rfl : x = v := by simpa using hx
          exact hv
/-- The code's last steps of a round: v put behind the last row. -/
theorem put_code (y : List (List Int)) (v : Int) (hy : y ≠ []) (hl : y.length < 1000000) (hr : (lastR y).length < 1000000) {α : Type} (g : List (List Int) → Option α) :
    (if 0 ≤ (wrap64 ((y.length : Int) - 1)) then (if (wrap64 ((y.length : Int) - 1)) < (y.length : Int) then (if (rd_L2 y (wrap64 ((y.length : Int) - 1))).length < 17592186044416 then g (y.set ((wrap64 ((y.length : Int) - 1)) : Int).toNat ((rd_L2 y (wrap64 ((y.length : Int) - 1))) ++ [v])) else (none)) else (none)) else (none)) = g (putR y v) := by
  have hp : 0 < y.length := List.length_pos_iff.2 hy
  rw [w_pred _ hp hl]
  have e : rd_L2 y ((y.length - 1 : Nat) : Int) = lastR y := by unfold rd_L2 lastR; rw [Int.toNat_natCast]
  rw [if_pos (Int.natCast_nonneg _), if_pos (by omega), e, if_pos (by omega), Int.toNat_natCast]
  rfl
theorem clu_l0 (gap : Int) (xs : List Int) (hx : ∀ v ∈ xs, 0 ≤ v ∧ v ≤ 1048576) (hl : xs.length ≤ 2000) : ∀ (d i : Nat) (y : List (List Int)), xs.length - i = d → i ≤ xs.length → InvC i y →
    Ev (fun k => changepoint_Clusters.l0 k gap y xs (xs.length : Int) (i : Int)) ((xs.drop i).foldl (stepC gap) y, 0) := by
  intro d
  induction d with
  | zero =>
    intro i y hi hi2 _
    have e : i = xs.length := by omega
    subst e
    refine Ev.step (f := fun _ => some (y, 0)) (fun k => ?_) (by rw [List.drop_length]; exact Ev.now _)
    simp only [changepoint_Clusters.l0]
    rw [if_neg (by omega)]
  | succ d ih =>
    intro i y hi hi2 hI
    have h1 : i < xs.length := by omega
    have hv := hx _ (List.getElem_mem h1)
    have hk := ih (i + 1) (stepC gap y xs[i]) (by omega) (by omega) (stepC_inv gap _ hI hv)
    rw [List.drop_eq_getElem_cons h1, List.foldl_cons]
    have hrd : rd xs (i : Int) = xs[i] := by unfold rd; rw [Int.toNat_natCast, List.getD_eq_getElem?_getD, List.getElem?_eq_getElem h1]; rfl
    have q1 : (0 : Int) ≤ (i : Int) := Int.natCast_nonneg _
    have q2 : (i : Int) < (xs.length : Int) := by omega
    obtain ⟨hy1, hy2, hy3⟩ := hI
    refine Ev.step (fun k => ?_) hk
    simp only [changepoint_Clusters.l0]
    rw [if_pos q2, if_pos q1, if_pos q2]
    have ws := w_suc i (by omega)
    by_cases hz : i = 0
    · subst hz
      have hy0 : y = [] := List.length_eq_zero_iff.1 (by omega)
      subst hy0
      rw [if_pos (show ((0 : Nat) : Int) = 0 from rfl), if_pos (by decide)]
      simp only [Option.bind_some]
      rw [put_code ([] ++ [[]]) (rd xs ((0 : Nat) : Int)) (by simp) (by simp) (by rw [lastR_app]; simp) (fun z => changepoint_Clusters.l0 k gap z xs (xs.length : Int) (wrap64 (((0 : Nat) : Int) + 1))), putR_app, hrd, ws]
      rfl
    · have hne := hy2 (by omega)
      have hp : 0 < y.length := List.length_pos_iff.2 hne
      have hm := hy3 _ (lastR_mem hne)
      have hp2 : 0 < (lastR y).length := List.length_pos_iff.2 hm.1
      have hml := hm.2.1
      have hlv := hm.2.2 _ (lst_mem hm.1)
      have eR : rd_L2 y ((y.length - 1 : Nat) : Int) = lastR y := by unfold rd_L2 lastR; rw [Int.toNat_natCast]
      have eL : rd (lastR y) (((lastR y).length - 1 : Nat) : Int) = lst (lastR y) := by unfold rd lst; rw [Int.toNat_natCast]
      have wp := w_pred y.length hp (by omega)
      have wp2 := w_pred (lastR y).length hp2 (by omega)
      have ed : wrap64 (xs[i] - lst (lastR y)) = xs[i] - lst (lastR y) := w64 (by omega) (by omega)
      rw [if_neg (by omega), wp, eR, wp2, eL, hrd, ed]
      rw [if_pos (Int.natCast_nonneg _), if_pos (by omega), if_pos (Int.natCast_nonneg _), if_pos (by omega)]
      by_cases hg : xs[i] - lst (lastR y) > gap
      · rw [if_pos hg, if_pos (by omega)]
        simp only [Option.bind_some]
        rw [put_code (y ++ [[]]) xs[i] (by simp) (by simp; omega) (by rw [lastR_app]; simp) (fun z => changepoint_Clusters.l0 k gap z xs (xs.length : Int) (wrap64 ((i : Int) + 1))), putR_app, ws]
        have e : stepC gap y xs[i] = y ++ [[xs[i]]] := by unfold stepC; rw [if_neg hne, if_pos hg]
        rw [e]
        rfl
      · rw [if_neg hg]
        have pc := put_code y xs[i] hne (by omega) (by omega) (fun z => changepoint_Clusters.l0 k gap z xs (xs.length : Int) (wrap64 ((i : Int) + 1)))
        rw [wp, eR, if_pos (Int.natCast_nonneg _), if_pos (by omega)] at pc
        rw [pc, ws]
        have e : stepC gap y xs[i] = putR y xs[i] := by unfold stepC; rw [if_neg hne, if_neg hg]
        rw [e]
end Go.Proofs.Ytcjgmofgfblmnaa.Seg
