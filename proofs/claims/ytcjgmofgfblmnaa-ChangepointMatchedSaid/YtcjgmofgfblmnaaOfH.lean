/- Plain law: ChangepointMatched. -/
import Derived.Test.YtcjgmofgfblmnaaOfJ
import Derived.Test.YtcjgmofgfblmnaaQgSleuthlaw45ChangepointMatched
namespace Go.Proofs.Ytcjgmofgfblmnaa.Seg
open Go.RowKit Go.Proofs.YtcjgmofgfblmnaaW.PrintWords Go.Proofs.YtcjgmofgfblmnaaW.PrintLast Go.Proofs.YtcjgmofgfblmnaaW.PrintMore Go.Proofs.Ytcjgmofgfblmnaa.Q
open Go.Proofs.Ytcjgmofgfblmnaa.MatX (mag dirI gds game tp)
open Go.Proofs.Ytcjgmofgfblmnaa.MatY (best best_best)
set_option linter.unusedVariables false
set_option linter.unusedSimpArgs false
set_option linter.unusedSimpArgs false
theorem isM_nth (G : Mat.Game) : ∀ (l : List Mat.Pr) (i k : Nat), Mat.IsM G i k l → ∀ j (h : j < l.length), G.ok l[j].1 l[j].2 = true ∧ ∀ h' : j + 1 < l.length, l[j].1 < l[j + 1].1 ∧ l[j].2 < l[j + 1].2
  | [], _, _, _, j, h => absurd h (Nat.not_lt_zero _)
  | p :: l, i, k, hm, 0, h => by
    refine ⟨hm.2.2.2.2.1, fun h' => ?_⟩
    cases l with
    | nil => exact absurd h' (by simp)
    | cons q l =>
      have h1 := hm.2.2.2.2.2.1
      have h2 := hm.2.2.2.2.2.2.2.1
      simp only [List.getElem_cons_zero, List.getElem_cons_succ]
      omega
  | p :: l, i, k, hm, j + 1, h => by
    have ih := isM_nth G l _ _ hm.2.2.2.2.2 j (by simpa using h)
    refine ⟨ih.1, fun h' => ?_⟩
    exact ih.2 (by simpa using h')
theorem game_swap (la lb : List S41) (tol : Int) : game lb la tol = (game la lb tol).swap := by
  have hm : ∀ x y : Int, mag (x - y) = mag (y - x) := fun x y => by unfold mag; omega
  have hd : ∀ i k, gds lb la i k = gds la lb k i := fun i k => by unfold gds; exact hm _ _
  have hb : ∀ x y : Int, (x == y) = (y == x) := fun x y => by
    rw [Bool.eq_iff_iff, beq_iff_eq, beq_iff_eq]
    exact eq_comm
  unfold game Mat.Game.swap
  simp only [Mat.Game.mk.injEq, true_and]
  constructor
  · funext i k
    rw [hd, hb (dirI (rd_T41 lb (i : Int)))]
  · funext i k
    exact hd i k
section
variable (la lb : List S41) (hla : small la) (hlb : small lb) (low : Int) (l n own : List Mat.Pr) (hM : Mat.IsM (game la lb low) 0 0 l) (hN : Mat.IsM (game lb la low) 0 0 n) (hO : Mat.IsM (game la la low) 0 0 own)
  (hlen : n.length = l.length) (hd : Mat.dist (game lb la low) n = Mat.dist (game la lb low) l) (ho : Mat.dist (game la la low) own = 0)
include hla hlb hM hN hO hlen hd ho
theorem matched_l0 : ∀ d i : Nat, l.length - i = d → i ≤ l.length → Ev (fun k => sleuthlaw45_ChangepointMatched.l0 k la lb low (l.map tp) (n.map tp) (own.map tp) (i : Int)) true := by
  have r1 := isM_rng hM
  have r2 := isM_rng hN
  have r3 := isM_rng hO
  have ha6 := hla.1
  have hb6 := hlb.1
  intro d
  induction d with
  | zero =>
    intro i hi hi2
    have hi' : i = l.length := by omega
    subst hi'
    have e1 := dist_ev la lb hla hlb low l r1.1 (by omega)
    have e2 := dist_ev lb la hlb hla low n r2.1 (by omega)
    have e3 := dist_ev la la hla hla low own r3.1 (by omega)
    rw [hd] at e2
    rw [ho] at e3
    refine Ev.step (f := fun k => (sleuthlaw45_distance.f k la lb (l.map tp)).bind fun t501 => ((sleuthlaw45_distance.f k lb la (n.map tp)).bind fun t502 => (if t501 = t502 then ((sleuthlaw45_distance.f k la la (own.map tp)).bind fun t503 => (some (t503 == 0))) else (some false)))) (fun k => ?_) (Ev.bind e1 (Ev.bind e2 (Ev.congr (fun k => if_pos rfl) (Ev.bind e3 (Ev.now _)))))
    simp only [sleuthlaw45_ChangepointMatched.l0]
    rw [if_neg (by rw [List.length_map]; omega)]
  | succ d ih =>
    intro i hi hi2
    have h1 : i < l.length := by omega
    have h2 : i < n.length := by omega
    have hk := ih (i + 1) (by omega) (by omega)
    have g1 := r1.1 _ (List.getElem_mem h1)
    have g2 := r2.1 _ (List.getElem_mem h2)
    have nth := isM_nth _ l 0 0 hM i h1
    have hok : (decide (gds la lb l[i].1 l[i].2 ≤ low) && (dirI (rd_T41 la (l[i].1 : Int)) == dirI (rd_T41 lb (l[i].2 : Int)))) = true := nth.1
    rw [Bool.and_eq_true, decide_eq_true_eq] at hok
    have i6 : i < 1000000 := by omega
    have p1 : (0 : Int) ≤ (tp l[i]).f0 := Int.natCast_nonneg _
    have p2 : (0 : Int) ≤ (tp l[i]).f1 := Int.natCast_nonneg _
    have p3 : (tp l[i]).f0 < (la.length : Int) := Int.ofNat_lt.2 g1.1
    have p4 : (tp l[i]).f1 < (lb.length : Int) := Int.ofNat_lt.2 g1.2
    have s1 : (0 : Int) ≤ (tp n[i]).f0 := Int.natCast_nonneg _
    have s2 : (0 : Int) ≤ (tp n[i]).f1 := Int.natCast_nonneg _
    have s3 : (tp n[i]).f0 < (lb.length : Int) := Int.ofNat_lt.2 g2.1
    have s4 : (tp n[i]).f1 < (la.length : Int) := Int.ofNat_lt.2 g2.2
    have q0 : (i : Int) < ((l.map tp).length : Int) := by rw [List.length_map]; omega
    have q0n : (i : Int) < ((n.map tp).length : Int) := by rw [List.length_map]; omega
    have q1 : (0 : Int) ≤ (i : Int) := Int.natCast_nonneg _
    have hdir : (dirI (rd_T41 la (tp l[i]).f0) != dirI (rd_T41 lb (tp l[i]).f1)) = false := by
      show (!(dirI (rd_T41 la (l[i].1 : Int)) == dirI (rd_T41 lb (l[i].2 : Int)))) = false
      rw [hok.2]
      rfl
    have hgt : ¬ gds la lb l[i].1 l[i].2 > low := by omega
    have hmx : mx (wrap64 ((rd_T41 la (tp l[i]).f0).f0 - (rd_T41 lb (tp l[i]).f1).f0)) (wrap64 (-(wrap64 ((rd_T41 la (tp l[i]).f0).f0 - (rd_T41 lb (tp l[i]).f1).f0)))) = gds la lb l[i].1 l[i].2 := gds_mx la lb hla hlb _ _ g1.1 g1.2
    have hj : Ev (fun k => sleuthlaw45_ChangepointMatched.j2 k la lb low (l.map tp) (n.map tp) (own.map tp) (i : Int) (tp l[i]).f0 (tp l[i]).f1 false) true := by
      refine Ev.step (fun k => ?_) hk
      simp only [sleuthlaw45_ChangepointMatched.j2]
      rw [if_neg (by decide), if_pos p1, if_pos p3, if_pos p2, if_pos p4, hmx, if_neg hgt, if_pos q1, if_pos q0n, rd58 n i h2, if_neg (Int.not_lt.2 s1), if_neg (Int.not_le.2 s3), if_neg (Int.not_lt.2 s2), if_neg (Int.not_le.2 s4), w_succ i i6]
    refine Ev.step (fun k => ?_) hj
    simp only [sleuthlaw45_ChangepointMatched.l0]
    rw [if_pos q0, if_pos q1, rd58 l i h1, if_neg (Int.not_lt.2 p1), if_neg (Int.not_le.2 p3), if_neg (Int.not_lt.2 p2), if_neg (Int.not_le.2 p4)]
    rw [if_pos p1, if_pos p3]
    simp only [direction_ev, Option.bind_some, if_pos p2, if_pos p4, hdir]
    by_cases hz : (i : Int) > 0
    · obtain ⟨j, rfl⟩ : ∃ j, i = j + 1 := ⟨i - 1, by omega⟩
      have hw : wrap64 (((j + 1 : Nat) : Int) - 1) = (j : Int) := by
        have e : ((j + 1 : Nat) : Int) - 1 = (j : Int) := by omega
        rw [e]
        exact w64 (by omega) (by omega)
      have hj1 : j < l.length := by omega
      have inc := (isM_nth _ l 0 0 hM j hj1).2 h1
      have c1 : (0 : Int) ≤ (j : Int) := Int.natCast_nonneg _
      have c2 : (j : Int) < ((l.map tp).length : Int) := by rw [List.length_map]; omega
      have c3 : (tp l[j]).f0 < (tp l[j + 1]).f0 := Int.ofNat_lt.2 inc.1
      have c4 : (tp l[j]).f1 < (tp l[j + 1]).f1 := Int.ofNat_lt.2 inc.2
      rw [if_pos hz, hw, if_pos c1, if_pos c2, rd58 l j hj1, if_neg (Int.not_le.2 c3), if_neg (Int.not_le.2 c4)]
    · rw [if_neg hz]
end
theorem lawMatched (l0 l1 : List S92) (b0 b1 : Int) (h0 : 0 ≤ b0 ∧ b0 ≤ 255) (h1 : 0 ≤ b1 ∧ b1 ≤ 255) : Ev (fun k => sleuthlaw45_ChangepointMatched.f k l0 l1 b0 b1) true := by
  obtain ⟨la, hla, ea⟩ := chg_ev l0
  obtain ⟨lb, hlb, eb⟩ := chg_ev l1
  obtain ⟨low, elow, hl0, hl1⟩ : ∃ low, wrap64 (mn b0 b1) = low ∧ 0 ≤ low ∧ low ≤ 255 := by
    refine ⟨mn b0 b1, w64 ?_ ?_, ?_, ?_⟩ <;> (unfold mn; split <;> omega)
  obtain ⟨high, ehigh, hh0, hh1⟩ : ∃ high, wrap64 (mx b0 b1) = high ∧ low ≤ high ∧ high ≤ 255 := by
    have e : low = mn b0 b1 := by rw [← elow]; exact w64 (by unfold mn; split <;> omega) (by unfold mn; split <;> omega)
    refine ⟨mx b0 b1, w64 ?_ ?_, ?_, ?_⟩
    · unfold mx; split <;> omega
    · unfold mx; split <;> omega
    · rw [e]; unfold mx mn; split <;> split <;> omega
    · unfold mx; split <;> omega
  unfold sleuthlaw45_ChangepointMatched.f
  rw [elow, ehigh]
  clear elow ehigh
  refine Ev.bind known_ev ?_
  simp only [if_true]
  refine Ev.bind ea (Ev.bind eb ?_)
  rw [match_ok la lb hla hlb low hl0 (by omega), match_ok la lb hla hlb high (by omega) (by omega), match_ok lb la hlb hla low hl0 (by omega), match_ok la la hla hla low hl0 (by omega)]
  simp only [Option.bind_some, if_true, List.length_map]
  have B1 := best_best (game la lb low)
  have B2 := best_best (game la lb high)
  have B3 := best_best (game lb la low)
  have B4 := best_best (game la la low)
  have more : (best (game la lb low)).length ≤ (best (game la lb high)).length := B1.more B2 rfl rfl (fun i k h => by
    have h : (decide (gds la lb i k ≤ low) && (dirI (rd_T41 la (i : Int)) == dirI (rd_T41 lb (k : Int)))) = true := h
    show (decide (gds la lb i k ≤ high) && (dirI (rd_T41 la (i : Int)) == dirI (rd_T41 lb (k : Int)))) = true
    rw [Bool.and_eq_true, decide_eq_true_eq] at h ⊢
    exact ⟨Int.le_trans h.1 hh0, h.2⟩)
  have swp := B1.swap_same (n := best (game lb la low)) (by rw [← game_swap]; exact B3)
  rw [← game_swap] at swp
  have own := B4.own rfl (fun i _ => by
    have e : gds la la i i = 0 := by unfold gds mag; omega
    refine ⟨?_, e⟩
    show (decide (gds la la i i ≤ low) && (dirI (rd_T41 la (i : Int)) == dirI (rd_T41 la (i : Int)))) = true
    rw [e, decide_eq_true hl0]
    simp) (fun i k => by show 0 ≤ gds la la i k; unfold gds mag; omega)
  have hown : (best (game la la low)).length = la.length := own.1
  have hj : Ev (fun k => sleuthlaw45_ChangepointMatched.j0 k la lb low ((best (game la lb low)).map tp) ((best (game lb la low)).map tp) ((best (game la la low)).map tp) false) true := by
    refine Ev.step (fun k => ?_) (matched_l0 la lb hla hlb low _ _ _ B1.1 B3.1 B4.1 swp.1 swp.2 own.2 _ 0 rfl (Nat.zero_le _))
    simp only [sleuthlaw45_ChangepointMatched.j0]
    rw [if_neg (by decide)]
    rfl
  have ne : (((best (game la la low)).length : Int) != (la.length : Int)) = false := by rw [hown]; simp
  refine Ev.congr (fun k => if_neg (by omega)) (Ev.congr (fun k => if_pos (by rw [swp.1])) ?_)
  rw [ne]
  exact hj
end Go.Proofs.Ytcjgmofgfblmnaa.Seg
