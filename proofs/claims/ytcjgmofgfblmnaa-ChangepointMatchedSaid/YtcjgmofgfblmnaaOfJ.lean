/- Plain facts of law45's changes, distances and matchings. -/
import Derived.Test.YtcjgmofgfblmnaaSg
import Derived.Test.YtcjgmofgfblmnaaQgHlp
namespace Go.Proofs.Ytcjgmofgfblmnaa.Seg
open Go.RowKit Go.Proofs.YtcjgmofgfblmnaaW.PrintWords Go.Proofs.YtcjgmofgfblmnaaW.PrintLast Go.Proofs.YtcjgmofgfblmnaaW.PrintMore Go.Proofs.Ytcjgmofgfblmnaa.Q
open Go.Proofs.Ytcjgmofgfblmnaa.MatX (mag dirI gds game tp)
open Go.Proofs.Ytcjgmofgfblmnaa.MatV (cmpI)
open Go.Proofs.Ytcjgmofgfblmnaa.MatY (best best_best matchF bdB)
set_option linter.unusedVariables false
set_option linter.unusedSimpArgs false
set_option linter.unusedSimpArgs false
theorem w_succ (i : Nat) (h : i < 1000000) : wrap64 ((i : Int) + 1) = ((i + 1 : Nat) : Int) := by rw [w64 (by omega) (by omega)]; omega
theorem w_add (x y : Int) (h1 : 0 ≤ x ∧ x ≤ 100000) (h2 : 0 ≤ y ∧ y ≤ 100000) : wrap64 (x + y) = x + y := w64 (by omega) (by omega)
theorem tm16 (y : Int) : -16 < Int.tmod y 16 ∧ Int.tmod y 16 < 16 := by
  refine ⟨?_, Int.tmod_lt_of_pos y (by decide)⟩
  have h := Int.tmod_lt_of_pos (-y) (b := 16) (by decide)
  rw [Int.neg_tmod] at h
  omega
def small (r : List S41) : Prop := r.length ≤ 6 ∧ ∀ x ∈ r, -102 ≤ x.f0 ∧ x.f0 ≤ 102
theorem chg_ev (l : List S92) : ∃ r, small r ∧ Ev (fun k => sleuthlaw45_changes.f k l) r := by
  have key : ∀ (d i : Nat) (acc : List S41) (a : Int), 6 - i = d → i ≤ 6 → acc.length ≤ i → (∀ x ∈ acc, -102 ≤ x.f0 ∧ x.f0 ≤ 102) → -17 * (i : Int) ≤ a → a ≤ 17 * (i : Int) → ∃ r, small r ∧ Ev (fun k => sleuthlaw45_changes.l0 k l acc a (i : Int)) r := by
    intro d
    induction d with
    | zero =>
      intro i acc a hd hi hl hb h1 h2
      refine ⟨acc, ⟨by omega, hb⟩, Ev.step (f := fun _ => some acc) (fun k => ?_) (Ev.now _)⟩
      simp only [sleuthlaw45_changes.l0]
      by_cases c : (i : Int) < (l.length : Int)
      · rw [if_pos c, if_neg (by omega)]
      · rw [if_neg c]
    | succ d ih =>
      intro i acc a hd hi hl hb h1 h2
      by_cases c : (i : Int) < (l.length : Int)
      · have ht := tm16 (mx (wrap64 ((rd_T92 l (i : Int)).f0)) (wrap64 (-(wrap64 ((rd_T92 l (i : Int)).f0)))))
        have e : wrap64 (wrap64 (a + 1) + Int.tmod (mx (wrap64 ((rd_T92 l (i : Int)).f0)) (wrap64 (-(wrap64 ((rd_T92 l (i : Int)).f0))))) 16) = a + 1 + Int.tmod (mx (wrap64 ((rd_T92 l (i : Int)).f0)) (wrap64 (-(wrap64 ((rd_T92 l (i : Int)).f0))))) 16 := by
          rw [w64 (x := a + 1) (by omega) (by omega), w64 (by omega) (by omega)]
        have hw := w_succ i (by omega)
        generalize hs : a + 1 + Int.tmod (mx (wrap64 ((rd_T92 l (i : Int)).f0)) (wrap64 (-(wrap64 ((rd_T92 l (i : Int)).f0))))) 16 = s at e
        obtain ⟨r, hr, ev⟩ := ih (i + 1) (acc ++ [(⟨s, wrap64 ((rd_T92 l (i : Int)).f1), wrap64 ((rd_T92 l (i : Int)).f2)⟩ : S41)]) s (by omega) (by omega) (by simp; omega) (by
          intro x hx
          rw [List.mem_append] at hx
          rcases hx with hx | hx
          · exact hb x hx
          · rw [List.mem_singleton] at hx
            subst hx
            show -102 ≤ s ∧ s ≤ 102
            omega) (by omega) (by omega)
        refine ⟨r, hr, Ev.step (fun k => ?_) ev⟩
        simp only [sleuthlaw45_changes.l0]
        rw [if_pos c, if_pos (by omega), if_pos (by omega), if_pos (by omega), e, hw]
      · refine ⟨acc, ⟨by omega, hb⟩, Ev.step (f := fun _ => some acc) (fun k => ?_) (Ev.now _)⟩
        simp only [sleuthlaw45_changes.l0]
        rw [if_neg c]
  exact key _ 0 [] 0 rfl (by omega) (by simp) (by simp) (by omega) (by omega)
theorem rd41 {l : List S41} {P : S41 → Prop} (h : ∀ x ∈ l, P x) (i : Nat) (hi : i < l.length) : P (rd_T41 l (i : Int)) := by
  have : rd_T41 l (i : Int) = l[i] := by simp [rd_T41, List.getD, List.getElem?_eq_getElem hi]
  rw [this]
  exact h _ (List.getElem_mem hi)
theorem rd58 (l : List Mat.Pr) (i : Nat) (hi : i < l.length) : rd_T58 (l.map tp) (i : Int) = tp l[i] := by
  simp [rd_T58, List.getD, List.getElem?_eq_getElem hi]
def rng (la lb : List S41) (l : List Mat.Pr) : Prop := ∀ p ∈ l, p.1 < la.length ∧ p.2 < lb.length
theorem isM_rng {la lb : List S41} {tol : Int} : ∀ {l : List Mat.Pr} {i k : Nat}, Mat.IsM (game la lb tol) i k l → rng la lb l ∧ l.length + i ≤ max i la.length
  | [], i, k, _ => ⟨fun _ h => (by cases h), by simp; omega⟩
  | p :: l, i, k, h => by
    obtain ⟨h1, h2, h3, h4, h5, h6⟩ := h
    have h2 : p.1 < la.length := h2
    have h4 : p.2 < lb.length := h4
    obtain ⟨r1, r2⟩ := isM_rng h6
    refine ⟨fun q hq => ?_, by simp only [List.length_cons]; omega⟩
    rcases List.mem_cons.1 hq with rfl | hq
    · exact ⟨h2, h4⟩
    · exact r1 q hq
theorem lex_same (p : Mat.Pr) (l m : List Mat.Pr) : Mat.lex (p :: l) (p :: m) ↔ Mat.lex l m := by
  constructor
  · intro h
    rcases h with h | h
    · exact absurd h (by unfold Mat.plt; omega)
    · exact h.2
  · intro h
    exact .inr ⟨rfl, h⟩
theorem lex_diff (p q : Mat.Pr) (l m : List Mat.Pr) (hne : p ≠ q) : Mat.lex (p :: l) (q :: m) ↔ Mat.plt p q := by
  constructor
  · intro h
    rcases h with h | h
    · exact h
    · exact absurd h.1 hne
  · intro h
    exact .inl h
theorem dist_app (G : Mat.Game) (a b : List Mat.Pr) : Mat.dist G (a ++ b) = Mat.dist G a + Mat.dist G b := by
  induction a with
  | nil => simp [Mat.dist]
  | cons p a ih => simp only [List.cons_append, Mat.dist, ih]; omega
section
variable (la lb : List S41) (hla : small la) (hlb : small lb) (tol : Int)
include hla hlb
theorem gds_b (i k : Nat) (hi : i < la.length) (hk : k < lb.length) : 0 ≤ gds la lb i k ∧ gds la lb i k ≤ 204 := by
  have h1 := rd41 hla.2 i hi
  have h2 := rd41 hlb.2 k hk
  unfold gds mag
  exact ⟨by omega, by omega⟩
theorem gds_mx (i k : Nat) (hi : i < la.length) (hk : k < lb.length) : mx (wrap64 ((rd_T41 la (i : Int)).f0 - (rd_T41 lb (k : Int)).f0)) (wrap64 (-(wrap64 ((rd_T41 la (i : Int)).f0 - (rd_T41 lb (k : Int)).f0)))) = gds la lb i k := by
  have h1 := rd41 hla.2 i hi
  have h2 := rd41 hlb.2 k hk
  unfold gds mag
  generalize (rd_T41 la (i : Int)).f0 = x at h1 ⊢
  generalize (rd_T41 lb (k : Int)).f0 = y at h2 ⊢
  rw [w64 (x := x - y) (by omega) (by omega), w64 (by omega) (by omega)]
  unfold mx
  split <;> omega
set_option maxHeartbeats 8000000 in
theorem dist_ev (l : List Mat.Pr) (hr : rng la lb l) (hl : l.length ≤ 100) : Ev (fun k => sleuthlaw45_distance.f k la lb (l.map tp)) (Mat.dist (game la lb tol) l) := by
  have hb : ∀ i, i ≤ l.length → 0 ≤ Mat.dist (game la lb tol) (l.take i) ∧ Mat.dist (game la lb tol) (l.take i) ≤ 204 * (i : Int) := by
    intro i
    induction i with
    | zero => simp [Mat.dist]
    | succ i ih =>
      intro hi
      have := ih (by omega)
      have h1 := hr _ (List.getElem_mem (show i < l.length by omega))
      have h2 := gds_b la lb hla hlb _ _ h1.1 h1.2
      rw [List.take_succ_eq_append_getElem (by omega), dist_app]
      have e : Mat.dist (game la lb tol) [l[i]] = gds la lb l[i].1 l[i].2 + 0 := rfl
      rw [e]
      omega
  have key : ∀ (d i : Nat), l.length - i = d → i ≤ l.length → Ev (fun k => sleuthlaw45_distance.l0 k la lb (l.map tp) (Mat.dist (game la lb tol) (l.take i)) (i : Int)) (Mat.dist (game la lb tol) l) := by
    intro d
    induction d with
    | zero =>
      intro i hd hi
      have hi' : i = l.length := by omega
      subst hi'
      refine Ev.step (f := fun _ => some (Mat.dist (game la lb tol) l)) (fun k => ?_) (Ev.now _)
      simp only [sleuthlaw45_distance.l0]
      rw [if_neg (by rw [List.length_map]; omega), List.take_length]
    | succ d ih =>
      intro i hd hi
      have hlt : i < l.length := by omega
      have h0 := hb i hi
      have h1 := hr _ (List.getElem_mem hlt)
      have h2 := gds_b la lb hla hlb _ _ h1.1 h1.2
      have hk := ih (i + 1) (by omega) (by omega)
      rw [List.take_succ_eq_append_getElem hlt, dist_app] at hk
      have e : Mat.dist (game la lb tol) [l[i]] = gds la lb l[i].1 l[i].2 + 0 := rfl
      rw [e, Int.add_zero] at hk
      have q0 : (i : Int) < ((l.map tp).length : Int) := by rw [List.length_map]; omega
      have q6 : 0 ≤ Mat.dist (game la lb tol) (l.take i) ∧ Mat.dist (game la lb tol) (l.take i) ≤ 100000 := by omega
      have q7 : 0 ≤ gds la lb l[i].1 l[i].2 ∧ gds la lb l[i].1 l[i].2 ≤ 100000 := by omega
      have hw := w_succ i (by omega)
      refine Ev.step (fun k => ?_) hk
      simp only [sleuthlaw45_distance.l0]
      have q1 : (0 : Int) ≤ (tp l[i]).f0 := Int.natCast_nonneg _
      have q2 : (0 : Int) ≤ (tp l[i]).f1 := Int.natCast_nonneg _
      have q3 : (tp l[i]).f0 < (la.length : Int) := Int.ofNat_lt.2 h1.1
      have q4 : (tp l[i]).f1 < (lb.length : Int) := Int.ofNat_lt.2 h1.2
      have q5 : mx (wrap64 ((rd_T41 la (tp l[i]).f0).f0 - (rd_T41 lb (tp l[i]).f1).f0)) (wrap64 (-(wrap64 ((rd_T41 la (tp l[i]).f0).f0 - (rd_T41 lb (tp l[i]).f1).f0)))) = gds la lb l[i].1 l[i].2 := gds_mx la lb hla hlb _ _ h1.1 h1.2
      rw [if_pos q0, if_pos (Int.natCast_nonneg _), rd58 l i hlt, if_pos q1, if_pos q3, if_pos q2, if_pos q4, hw, q5, w_add _ _ q6 q7]
  exact key _ 0 rfl (Nat.zero_le _)
omit hla hlb in
theorem better_l0 (a b : List Mat.Pr) (he : a.length = b.length) (hl : a.length ≤ 100) : ∀ (d i : Nat), a.length - i = d → i ≤ a.length → ∃ c, (c = true ↔ Mat.lex (a.drop i) (b.drop i)) ∧ Ev (fun k => sleuthlaw45_better.l0 k (a.map tp) (b.map tp) (i : Int)) c := by
  intro d
  induction d with
  | zero =>
    intro i hd hi
    refine ⟨false, ?_, Ev.step (f := fun _ => some false) (fun k => ?_) (Ev.now _)⟩
    · rw [List.drop_eq_nil_of_le (by omega)]
      simp [Mat.lex]
    · simp only [sleuthlaw45_better.l0]
      rw [if_neg (by rw [List.length_map]; omega)]
  | succ d ih =>
    intro i hd hi
    have h1 : i < a.length := by omega
    have h2 : i < b.length := by omega
    have hw := w_succ i (by omega)
    rw [List.drop_eq_getElem_cons h1, List.drop_eq_getElem_cons h2]
    have hu : ∀ k, sleuthlaw45_better.l0 (k + 1) (a.map tp) (b.map tp) (i : Int) = (if (!(((a[i].1 : Nat) : Int) == ((b[i].1 : Nat) : Int)) || (!(((a[i].2 : Nat) : Int) == ((b[i].2 : Nat) : Int)))) = true then (if ((a[i].1 : Nat) : Int) < ((b[i].1 : Nat) : Int) then (some true) else (if ((a[i].1 : Nat) : Int) = ((b[i].1 : Nat) : Int) then (some (decide (((a[i].2 : Nat) : Int) < ((b[i].2 : Nat) : Int)))) else (some false))) else sleuthlaw45_better.l0 k (a.map tp) (b.map tp) ((i + 1 : Nat) : Int)) := by
      intro k
      simp only [sleuthlaw45_better.l0]
      rw [if_pos (by rw [List.length_map]; omega), if_pos (by omega), if_pos (by rw [List.length_map]; omega), rd58 a i h1, rd58 b i h2, hw]
      rfl
    generalize a[i] = p at hu ⊢
    generalize b[i] = q at hu ⊢
    obtain ⟨p1, p2⟩ := p
    obtain ⟨q1, q2⟩ := q
    simp only at hu
    by_cases c1 : p1 = q1
    · by_cases c2 : p2 = q2
      · subst c1 c2
        obtain ⟨c, hc, ev⟩ := ih (i + 1) (by omega) (by omega)
        refine ⟨c, ?_, Ev.step (fun k => ?_) ev⟩
        · rw [hc, lex_same]
        · rw [hu, if_neg (by simp)]
      · subst c1
        refine ⟨decide ((p2 : Int) < (q2 : Int)), ?_, Ev.step (f := fun _ => some (decide ((p2 : Int) < (q2 : Int)))) (fun k => ?_) (Ev.now _)⟩
        · rw [lex_diff _ _ _ _ (fun h => c2 (congrArg Prod.snd h)), decide_eq_true_eq]
          constructor
          · intro h
            exact .inr ⟨rfl, Int.ofNat_lt.1 h⟩
          · intro h
            rcases h with h | h
            · exact absurd h (Nat.lt_irrefl _)
            · exact Int.ofNat_lt.2 h.2
        · rw [hu, if_pos (by simp; omega), if_neg (by omega), if_pos rfl]
    · refine ⟨decide (p1 < q1), ?_, Ev.step (f := fun _ => some (decide (p1 < q1))) (fun k => ?_) (Ev.now _)⟩
      · rw [lex_diff _ _ _ _ (fun h => c1 (congrArg Prod.fst h)), decide_eq_true_eq]
        constructor
        · intro h
          exact .inl h
        · intro h
          rcases h with h | h
          · exact h
          · exact absurd h.1 c1
      · rw [hu, if_pos (by simp; omega)]
        by_cases c3 : p1 < q1
        · rw [if_pos (by omega), decide_eq_true c3]
        · rw [if_neg (by omega), if_neg (by omega), decide_eq_false c3]
theorem better45_ev (a b : List Mat.Pr) (ha : rng la lb a) (hb : rng la lb b) (la' : a.length ≤ 100) (lb' : b.length ≤ 100) : ∃ c, (c = true ↔ Mat.bt (game la lb tol) a b) ∧ Ev (fun k => sleuthlaw45_better.f k la lb (a.map tp) (b.map tp)) c := by
  unfold sleuthlaw45_better.f
  simp only [List.length_map]
  by_cases c1 : a.length = b.length
  · have ea := dist_ev la lb hla hlb tol a ha la'
    have eb := dist_ev la lb hla hlb tol b hb lb'
    by_cases c2 : Mat.dist (game la lb tol) a = Mat.dist (game la lb tol) b
    · obtain ⟨c, hc, ev⟩ := better_l0 a b c1 la' _ 0 rfl (Nat.zero_le _)
      refine ⟨c, ?_, Ev.congr (fun k => if_pos (by omega)) (Ev.bind ea (Ev.bind eb (Ev.congr (fun k => if_pos c2) ev)))⟩
      rw [hc]
      simp only [List.drop_zero, Mat.bt]
      constructor
      · intro h; exact .inr ⟨c1, .inr ⟨c2, h⟩⟩
      · intro h
        rcases h with h | ⟨_, h | h⟩
        · omega
        · omega
        · exact h.2
    · refine ⟨decide (Mat.dist (game la lb tol) a < Mat.dist (game la lb tol) b), ?_, Ev.congr (fun k => if_pos (by omega)) (Ev.bind ea (Ev.bind eb (Ev.congr (fun k => if_neg c2) (Ev.now _))))⟩
      simp only [Mat.bt, decide_eq_true_eq]
      constructor
      · intro h; exact .inr ⟨c1, .inl h⟩
      · intro h
        rcases h with h | ⟨_, h | h⟩
        · omega
        · exact h
        · exact absurd h.1 c2
  · refine ⟨decide ((a.length : Int) > (b.length : Int)), ?_, Ev.congr (fun k => if_neg (by omega)) (Ev.now _)⟩
    simp only [Mat.bt, decide_eq_true_eq]
    constructor
    · intro h; exact .inl (by omega)
    · intro h
      rcases h with h | h
      · omega
      · exact absurd h.1 c1
omit hla hlb in
theorem direction_ev (x : S41) : sleuthlaw45_direction.f x.f0 x.f1 x.f2 = some (dirI x) := by
  unfold sleuthlaw45_direction.f dirI cmpI
  by_cases h1 : x.f2 > x.f1
  · rw [if_pos h1, if_neg (by omega), if_pos (by omega)]
  · rw [if_neg h1]
    by_cases h2 : x.f2 < x.f1
    · rw [if_pos h2, if_pos h2]
    · rw [if_neg h2, if_neg h2, if_neg (by omega)]
theorem match_ok (h1 : 0 ≤ tol) (h2 : tol ≤ 1048576) : changepoint_Match.f la lb tol = some ((best (game la lb tol)).map tp, 0) := by
  show matchF la lb tol = _
  have ha := hla.1
  have hb := hlb.1
  have bd : ∀ l, small l → bdB l = true := by
    intro l hl
    unfold bdB
    rw [List.all_eq_true]
    intro x hx
    have := hl.2 x hx
    rw [decide_eq_true_eq]
    omega
  unfold matchF
  rw [if_neg (by omega), if_neg (by omega), if_pos ⟨bd _ hla, bd _ hlb⟩]
theorem match_bad (h : tol < 0 ∨ 1048576 < tol) : changepoint_Match.f la lb tol = some ([], 2) := by
  show matchF la lb tol = _
  have ha := hla.1
  have hb := hlb.1
  unfold matchF
  rw [if_neg (by omega), if_pos h]
end
end Go.Proofs.Ytcjgmofgfblmnaa.Seg
