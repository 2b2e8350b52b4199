/- Plain law: ChangepointFair. -/
import Derived.Test.YtcjgmofgfblmnaaSg
import Derived.Test.YtcjgmofgfblmnaaQgSleuthlaw45ChangepointFair
namespace Go.Proofs.Ytcjgmofgfblmnaa.Seg
open Go.RowKit Go.Proofs.YtcjgmofgfblmnaaW.PrintWords Go.Proofs.YtcjgmofgfblmnaaW.PrintLast Go.Proofs.YtcjgmofgfblmnaaW.PrintMore Go.Proofs.Ytcjgmofgfblmnaa.Q
open Go.Proofs.Ytcjgmofgfblmnaa.TstV (mu ab)
open Go.Proofs.Ytcjgmofgfblmnaa.TstX (testF testE testT)
set_option linter.unusedVariables false
set_option linter.unusedSimpArgs false
set_option linter.unusedSimpArgs false
theorem ab_neg (x : Int) : ab (-x) = ab x := by unfold ab; omega
/-- What the first list's midranks sum to. -/
def S0 (x y : List Int) : Int := Tst.sm (x.map (Tst.mid (x ++ y)))
theorem take_ranks (x y : List Int) : Tst.sm ((Tst.ranks (x ++ y)).take x.length) = S0 x y := by
  unfold Tst.ranks S0
  rw [List.map_append, List.take_left' (List.length_map ..)]
theorem mu_eq (m k n : Nat) (h : m + k = n) : mu m k = (m : Int) * ((n : Int) + 1) := by
  unfold mu
  subst h
  rw [Int.natCast_add]
theorem S0_swap (x y : List Int) : S0 x y + S0 y x = ((x.length + y.length : Nat) : Int) * (((x.length + y.length : Nat) : Int) + 1) := by
  have h := Tst.sm_ranks (x ++ y)
  unfold Tst.ranks at h
  rw [List.map_append, Tst.sm_append, List.length_append] at h
  rw [← h]
  unfold S0
  congr 2
  refine List.map_congr_left fun v _ => ?_
  exact Tst.mid_perm List.perm_append_comm v
theorem T_swap (x y : List Int) : testT y x = testT x y := by
  unfold testT
  have h1 := Tst.ranks_perm (List.perm_append_comm (l₁ := y) (l₂ := x))
  rw [Tst.total_perm h1]
  have h2 := Tst.total_compl (Tst.ranks (x ++ y)) x.length (by rw [Tst.ranks_length, List.length_append]; omega)
  rw [Tst.ranks_length, List.length_append, show x.length + y.length - x.length = y.length by omega] at h2
  exact h2
theorem E_swap (x y : List Int) : testE y x = testE x y := by
  unfold testE
  rw [take_ranks, take_ranks]
  have h1 := Tst.ranks_perm (List.perm_append_comm (l₁ := y) (l₂ := x))
  rw [Tst.ext_perm h1]
  have h2 := Tst.ext_compl (Tst.ranks (x ++ y)) x.length (by rw [Tst.ranks_length, List.length_append]; omega) (mu x.length y.length) (ab (-mu x.length y.length + S0 x y))
  rw [Tst.ranks_length, List.length_append, show x.length + y.length - x.length = y.length by omega, Tst.sm_ranks, List.length_append] at h2
  rw [← h2]
  have m1 := mu_eq x.length y.length _ rfl
  have m2 := mu_eq y.length x.length (x.length + y.length) (by omega)
  have hs := S0_swap x y
  have e1 : ((x.length + y.length : Nat) : Int) * (((x.length + y.length : Nat) : Int) + 1) = mu x.length y.length + mu y.length x.length := by
    rw [m1, m2, ← Int.add_mul, ← Int.natCast_add]
  rw [e1] at hs ⊢
  have e2 : mu x.length y.length + mu y.length x.length - mu x.length y.length = mu y.length x.length := by omega
  rw [e2]
  have e3 : -mu y.length x.length + S0 y x = -(-mu x.length y.length + S0 x y) := by omega
  rw [e3, ab_neg]
theorem T_add (x y : List Int) (c : Int) : testT (x.map fun v => v + c) (y.map fun v => v + c) = testT x y := by
  unfold testT
  rw [← List.map_append, Tst.ranks_add, List.length_map]
theorem E_add (x y : List Int) (c : Int) : testE (x.map fun v => v + c) (y.map fun v => v + c) = testE x y := by
  unfold testE
  rw [← List.map_append, Tst.ranks_add, List.length_map, List.length_map]
theorem T_neg (x y : List Int) : testT (x.map fun v => 0 - v) (y.map fun v => 0 - v) = testT x y := by
  unfold testT
  rw [← List.map_append, Tst.ranks_neg, List.length_map, Tst.total_neg]
theorem sm_neg (c : Int) : ∀ l : List Int, Tst.sm (l.map fun v => c - v) = c * (l.length : Int) - Tst.sm l
  | [] => by simp [Tst.sm]
  | x :: l => by
    have := sm_neg c l
    simp only [List.map_cons, Tst.sm, List.length_cons, this]
    rw [Int.natCast_add, Int.mul_add]
    omega
theorem E_neg (x y : List Int) : testE (x.map fun v => 0 - v) (y.map fun v => 0 - v) = testE x y := by
  unfold testE
  rw [← List.map_append, Tst.ranks_neg, List.length_map, List.length_map]
  have m1 := mu_eq x.length y.length _ rfl
  have hc : 2 * mu x.length y.length = 2 * (((x ++ y).length : Int) + 1) * (x.length : Int) := by
    rw [m1, List.length_append, Int.mul_assoc, Int.mul_comm (x.length : Int)]
  rw [Tst.ext_neg _ _ _ _ _ hc]
  congr 1
  have hS : Tst.sm (((Tst.ranks (x ++ y)).map fun v => 2 * (((x ++ y).length : Int) + 1) - v).take x.length) = 2 * (((x ++ y).length : Int) + 1) * (x.length : Int) - Tst.sm ((Tst.ranks (x ++ y)).take x.length) := by
    rw [← List.map_take, sm_neg, List.length_take, Tst.ranks_length, Nat.min_eq_left (by rw [List.length_append]; omega)]
  rw [hS, ← hc]
  have e3 : ∀ M S : Int, -M + (2 * M - S) = -(-M + S) := fun M S => by omega
  rw [e3, ab_neg]
theorem E_pos (x y : List Int) : 0 < testE x y := by
  unfold testE
  have h := Tst.ext_pos (Tst.ranks (x ++ y)) x.length (by rw [Tst.ranks_length, List.length_append]; omega) (mu x.length y.length)
  have e : max (Tst.sm ((Tst.ranks (x ++ y)).take x.length) - mu x.length y.length) (mu x.length y.length - Tst.sm ((Tst.ranks (x ++ y)).take x.length)) = ab (-mu x.length y.length + Tst.sm ((Tst.ranks (x ++ y)).take x.length)) := by
    unfold ab
    omega
  rw [e] at h
  exact h
theorem E_le (x y : List Int) : testE x y ≤ testT x y := Tst.ext_le _ _ _ _
theorem T_ch (x y : List Int) : testT x y = Tst.ch (y.length + x.length) x.length := by
  unfold testT
  rw [Tst.total_ch, Tst.ranks_length, List.length_append, Nat.add_comm]
theorem test_some (x y : List Int) (hx : x.length ≠ 0) (hy : y.length ≠ 0) (h : x.length + y.length ≤ 32) : changepoint_Test.f x y = some (((testE x y : Nat) : Int), ((testT x y : Nat) : Int), 0) := by
  show testF x y = _
  unfold testF
  rw [if_neg (by omega), if_neg (by omega)]
theorem test_much (x y : List Int) (hx : x.length ≠ 0) (hy : y.length ≠ 0) (h : 32 < x.length + y.length) (h2 : x.length + y.length ≤ 100) : changepoint_Test.f x y = some (0, 0, 6) := by
  show testF x y = _
  unfold testF
  rw [if_neg (by omega), if_pos h, if_pos (by omega)]
theorem ch_big (k i : Nat) (h : k + i ≤ 32) : Tst.ch (k + i) i ≤ 4294967296 := Nat.le_trans (Tst.ch_le _ _) (Nat.le_trans (Nat.pow_le_pow_right (by decide) h) (by decide))
theorem ch_next (k i : Nat) (h : k + i < 32) : wrap64 (Int.tdiv (wrap64 (((Tst.ch (k + i) i : Nat) : Int) * (wrap64 ((k : Int) + ((i + 1 : Nat) : Int))))) ((i + 1 : Nat) : Int)) = ((Tst.ch (k + (i + 1)) (i + 1) : Nat) : Int) := by
  have h1 := ch_big k i (by omega)
  have h2 : Tst.ch (k + i + 1) (i + 1) ≤ 4294967296 := ch_big k (i + 1) (by omega)
  have h3 := Tst.ch_mul (k + i) i
  have e1 : wrap64 ((k : Int) + ((i + 1 : Nat) : Int)) = ((k + i + 1 : Nat) : Int) := by rw [w64 (by omega) (by omega)]; omega
  rw [e1]
  have e2 : ((Tst.ch (k + i) i : Nat) : Int) * ((k + i + 1 : Nat) : Int) = (((i + 1) * Tst.ch (k + i + 1) (i + 1) : Nat) : Int) := by
    rw [h3, Nat.mul_comm]
    exact (Int.natCast_mul _ _).symm
  rw [e2]
  clear e1 e2
  have h4 : (i + 1) * Tst.ch (k + i + 1) (i + 1) ≤ 32 * 4294967296 := Nat.mul_le_mul (by omega) h2
  generalize hp : (i + 1) * Tst.ch (k + i + 1) (i + 1) = P at h4 ⊢
  have e4 : wrap64 (P : Int) = (P : Int) := by clear hp h3; exact w64 (by omega) (by omega)
  rw [e4]
  clear e4
  have e3 : Int.tdiv (P : Int) ((i + 1 : Nat) : Int) = ((Tst.ch (k + (i + 1)) (i + 1) : Nat) : Int) := by
    have : Int.tdiv (P : Int) ((i + 1 : Nat) : Int) = ((P / (i + 1) : Nat) : Int) := rfl
    rw [this, ← hp, Nat.mul_div_cancel_left _ (by omega)]
    rfl
  rw [e3]
  clear e3 hp h3 h4
  have h5 : Tst.ch (k + (i + 1)) (i + 1) ≤ 4294967296 := h2
  generalize Tst.ch (k + (i + 1)) (i + 1) = C at h5 ⊢
  exact w64 (by omega) (by omega)
section
variable (x y : List Int) (hx : x.length ≠ 0) (hy : y.length ≠ 0) (h32 : x.length + y.length ≤ 32)
include hx hy h32
omit hx hy in
theorem fair_l2 : ∀ d i : Nat, x.length - i = d → i ≤ x.length → Ev (fun k => sleuthlaw45_ChangepointFair.l2 k x y (testE x y : Nat) (testT x y : Nat) 0 (testE x y : Nat) (testT x y : Nat) 0 (testE x y : Nat) (testT x y : Nat) 0 (testE x y : Nat) (testT x y : Nat) 0 ((Tst.ch (y.length + i) i : Nat) : Int) ((i + 1 : Nat) : Int)) true := by
  intro d
  induction d with
  | zero =>
    intro i hd hi
    have hi' : i = x.length := by omega
    subst hi'
    have h1 := E_pos x y
    have h2 := E_le x y
    refine Ev.step (f := fun _ => some true) (fun k => ?_) (Ev.now _)
    simp only [sleuthlaw45_ChangepointFair.l2]
    rw [if_neg (by omega)]
    simp only [if_true]
    rw [if_pos (by rw [T_ch]), if_pos (by omega), decide_eq_true (by omega)]
  | succ d ih =>
    intro i hd hi
    have hk := ih (i + 1) (by omega) (by omega)
    rw [← ch_next y.length i (by omega)] at hk
    have q1 : ((i + 1 : Nat) : Int) ≤ (x.length : Int) := by omega
    have q2 : ¬ ((i + 1 : Nat) : Int) = 0 := by omega
    have q3 : wrap64 (((i + 1 : Nat) : Int) + 1) = ((i + 1 + 1 : Nat) : Int) := by rw [w64 (by omega) (by omega)]; omega
    refine Ev.step (fun k => ?_) hk
    simp only [sleuthlaw45_ChangepointFair.l2]
    rw [if_pos q1, if_neg q2, q3]
end
theorem fair_end (x y : List Int) (c : Int) (x1 : List Int) (x2 : Int) (i : Int) (hi : ¬ i < (x1.length : Int)) (hx : x.length ≠ 0) (hy : y.length ≠ 0) (h34 : x.length + y.length ≤ 34) :
    Ev (fun k => sleuthlaw45_ChangepointFair.l1 k x1 x2 x y (x.map fun v => v + c) (y.map fun v => v + c) (x.map fun v => 0 - v) (y.map fun v => 0 - v) i) true := by
  have e0 : wrap64 ((x.length : Int) + (y.length : Int)) = (x.length : Int) + (y.length : Int) := w64 (by omega) (by omega)
  by_cases h : x.length + y.length ≤ 32
  · have q : ¬ (x.length : Int) + (y.length : Int) > 32 := by clear e0; omega
    have t1 := test_some x y hx hy h
    have t2 := test_some y x hy hx (by clear e0; omega)
    have t3 := test_some (x.map fun v => v + c) (y.map fun v => v + c) (by simpa using hx) (by simpa using hy) (by simpa using h)
    have t4 := test_some (x.map fun v => 0 - v) (y.map fun v => 0 - v) (by simpa using hx) (by simpa using hy) (by simpa using h)
    rw [E_swap, T_swap] at t2
    rw [E_add, T_add] at t3
    rw [E_neg, T_neg] at t4
    refine Ev.step (fun k => ?_) (fair_l2 x y h _ 0 rfl (Nat.zero_le _))
    simp only [sleuthlaw45_ChangepointFair.l1]
    rw [if_neg hi, t1, t2, t3, t4, e0]
    simp only [Option.bind_some]
    rw [if_neg q]
    have : Tst.ch (y.length + 0) 0 = 1 := by rw [Nat.add_zero, ← Tst.total_ch y 0]; exact Tst.total_zero _
    rw [this]
    rfl
  · have q : (x.length : Int) + (y.length : Int) > 32 := by clear e0; omega
    have t1 := test_much x y hx hy (by clear e0; omega) (by clear e0; omega)
    refine Ev.step (f := fun _ => some true) (fun k => ?_) (Ev.now _)
    simp only [sleuthlaw45_ChangepointFair.l1]
    rw [if_neg hi, t1, e0]
    simp only [Option.bind_some]
    rw [if_pos q]
    rfl
theorem take_map_step (l : List Int) (i : Nat) (h : i < l.length) (f : Int → Int) : (l.take (i + 1)).map f = (l.take i).map f ++ [f l[i]] := by
  rw [List.take_succ_eq_append_getElem h, List.map_append]
  rfl
theorem rd_at (l : List Int) (i : Nat) (h : i < l.length) : rd l (i : Int) = l[i] := by simp [rd, List.getD, List.getElem?_eq_getElem h]
section
variable (l0 l1 : List Int) (a2 : Int) (h0 : ∀ x ∈ l0, 0 ≤ x ∧ x ≤ 255) (h1 : ∀ x ∈ l1, 0 ≤ x ∧ x ≤ 255) (hc : -32768 ≤ a2 ∧ a2 ≤ 32767) (hx : l0.length ≠ 0) (hy : l1.length ≠ 0) (h34 : l0.length + l1.length ≤ 34)
include h0 h1 hc hx hy h34
omit h0 in
theorem fair_l1 : ∀ d i : Nat, l1.length - i = d → i ≤ l1.length → Ev (fun k => sleuthlaw45_ChangepointFair.l1 k l1 a2 l0 (l1.take i) (l0.map fun v => v + a2) ((l1.take i).map fun v => v + a2) (l0.map fun v => 0 - v) ((l1.take i).map fun v => 0 - v) (i : Int)) true := by
  intro d
  induction d with
  | zero =>
    intro i hd hi
    have hi' : i = l1.length := by omega
    subst hi'
    rw [List.take_length]
    exact fair_end l0 l1 a2 l1 a2 _ (by omega) hx hy h34
  | succ d ih =>
    intro i hd hi
    have hlt : i < l1.length := by omega
    have hk := ih (i + 1) (by omega) (by omega)
    have hb := h1 _ (List.getElem_mem hlt)
    have et := List.take_succ_eq_append_getElem hlt
    rw [take_map_step l1 i hlt, take_map_step l1 i hlt, et] at hk
    have q1 : (i : Int) < (l1.length : Int) := by omega
    have q2 : (0 : Int) ≤ (i : Int) := by omega
    have i1 : (l1.take i).length + [l1[i]].length < 17592186044416 := by rw [List.length_take, List.length_singleton]; omega
    have i2 : ((l1.take i).map fun v => v + a2).length + [l1[i] + a2].length < 17592186044416 := by rw [List.length_map, List.length_take, List.length_singleton]; omega
    have i3 : ((l1.take i).map fun v => 0 - v).length + [0 - l1[i]].length < 17592186044416 := by rw [List.length_map, List.length_take, List.length_singleton]; omega
    have q4 : wrap64 (rd l1 (i : Int)) = l1[i] := by rw [rd_at l1 i hlt]; exact w64 (by omega) (by omega)
    have q5 : wrap64 (l1[i] + wrap64 a2) = l1[i] + a2 := by clear q4; rw [w64 (x := a2) (by omega) (by omega)]; exact w64 (by omega) (by omega)
    have q6 : wrap64 (-l1[i]) = 0 - l1[i] := by clear q4 q5; rw [w64 (by omega) (by omega)]; omega
    have q3 : wrap64 ((i : Int) + 1) = ((i + 1 : Nat) : Int) := by clear q4 q5 q6; rw [w64 (by omega) (by omega)]; omega
    refine Ev.step (fun k => ?_) hk
    simp only [sleuthlaw45_ChangepointFair.l1]
    rw [if_pos q1, if_pos q2, q3, q4]
    simp only [Option.bind_some]
    rw [q5, q6, if_pos i1, if_pos i2, if_pos i3]
theorem fair_l0 : ∀ d i : Nat, l0.length - i = d → i ≤ l0.length → Ev (fun k => sleuthlaw45_ChangepointFair.l0 k l0 l1 a2 (l0.take i) ((l0.take i).map fun v => v + a2) ((l0.take i).map fun v => 0 - v) (i : Int)) true := by
  intro d
  induction d with
  | zero =>
    intro i hd hi
    have hi' : i = l0.length := by omega
    subst hi'
    rw [List.take_length]
    refine Ev.step (fun k => ?_) (fair_l1 l0 l1 a2 h1 hc hx hy h34 _ 0 rfl (Nat.zero_le _))
    simp only [sleuthlaw45_ChangepointFair.l0]
    rw [if_neg (by omega)]
    rfl
  | succ d ih =>
    intro i hd hi
    have hlt : i < l0.length := by omega
    have hk := ih (i + 1) (by omega) (by omega)
    have hb := h0 _ (List.getElem_mem hlt)
    have et := List.take_succ_eq_append_getElem hlt
    rw [take_map_step l0 i hlt, take_map_step l0 i hlt, et] at hk
    have q1 : (i : Int) < (l0.length : Int) := by omega
    have q2 : (0 : Int) ≤ (i : Int) := by omega
    have i1 : (l0.take i).length + [l0[i]].length < 17592186044416 := by rw [List.length_take, List.length_singleton]; omega
    have i2 : ((l0.take i).map fun v => v + a2).length + [l0[i] + a2].length < 17592186044416 := by rw [List.length_map, List.length_take, List.length_singleton]; omega
    have i3 : ((l0.take i).map fun v => 0 - v).length + [0 - l0[i]].length < 17592186044416 := by rw [List.length_map, List.length_take, List.length_singleton]; omega
    have q4 : wrap64 (rd l0 (i : Int)) = l0[i] := by rw [rd_at l0 i hlt]; exact w64 (by omega) (by omega)
    have q5 : wrap64 (l0[i] + wrap64 a2) = l0[i] + a2 := by clear q4; rw [w64 (x := a2) (by omega) (by omega)]; exact w64 (by omega) (by omega)
    have q6 : wrap64 (-l0[i]) = 0 - l0[i] := by clear q4 q5; rw [w64 (by omega) (by omega)]; omega
    have q3 : wrap64 ((i : Int) + 1) = ((i + 1 : Nat) : Int) := by clear q4 q5 q6; rw [w64 (by omega) (by omega)]; omega
    refine Ev.step (fun k => ?_) hk
    simp only [sleuthlaw45_ChangepointFair.l0]
    rw [if_pos q1, if_pos q2, q3, q4]
    simp only [Option.bind_some]
    rw [q5, q6, if_pos i1, if_pos i2, if_pos i3]
end
theorem lawFair (l0 l1 : List Int) (a2 : Int) (z0 : l0.length ≤ 140737488351232) (z1 : l1.length ≤ 140737488351232) (h0 : ∀ x ∈ l0, 0 ≤ x ∧ x ≤ 255) (h1 : ∀ x ∈ l1, 0 ≤ x ∧ x ≤ 255) (hc : -32768 ≤ a2 ∧ a2 ≤ 32767) : Ev (fun k => sleuthlaw45_ChangepointFair.f k l0 l1 a2) true := by
  have hj : Ev (fun k => sleuthlaw45_ChangepointFair.j0 k l0 l1 a2 true) true := by
    refine Ev.step (f := fun k => (sleuthlaw45_known.f k).bind fun t => some t) (fun k => ?_) (Ev.bind known_ev (Ev.now true))
    simp only [sleuthlaw45_ChangepointFair.j0]
    rfl
  unfold sleuthlaw45_ChangepointFair.f
  refine Ev.bind known_ev ?_
  simp only [if_true]
  by_cases c1 : (l0.length : Int) = 0
  · exact Ev.congr (fun k => if_pos c1) hj
  · refine Ev.congr (fun k => if_neg c1) ?_
    by_cases c2 : (l1.length : Int) = 0
    · exact Ev.congr (fun k => if_pos c2) hj
    · refine Ev.congr (fun k => if_neg c2) ?_
      rw [w64 (by omega) (by omega)]
      by_cases c3 : (l0.length : Int) + (l1.length : Int) > 34
      · rw [decide_eq_true c3]
        exact hj
      · rw [decide_eq_false c3]
        refine Ev.step (fun k => ?_) (fair_l0 l0 l1 a2 h0 h1 hc (by omega) (by omega) (by omega) _ 0 rfl (Nat.zero_le _))
        simp only [sleuthlaw45_ChangepointFair.j0]
        rw [if_neg (by decide)]
        rfl
end Go.Proofs.Ytcjgmofgfblmnaa.Seg
