/- Plain law: ChangepointMatches. The law's own search for the best matching, and its agreement with the program's. -/
import Derived.Test.YtcjgmofgfblmnaaSg
import Derived.Test.YtcjgmofgfblmnaaQgSleuthlaw45ChangepointMatches
namespace Go.Proofs.Ytcjgmofgfblmnaa.Seg
open Go.RowKit Go.Proofs.YtcjgmofgfblmnaaW.PrintWords Go.Proofs.YtcjgmofgfblmnaaW.PrintLast Go.Proofs.YtcjgmofgfblmnaaW.PrintMore Go.Proofs.Ytcjgmofgfblmnaa.Q
open Go.Proofs.Ytcjgmofgfblmnaa.MatX (mag dirI gds game tp)
open Go.Proofs.Ytcjgmofgfblmnaa.MatV (cmpI)
open Go.Proofs.Ytcjgmofgfblmnaa.MatY (best best_best matchF bdB)
set_option linter.unusedVariables false
set_option linter.unusedSimpArgs false
set_option linter.unusedSimpArgs false
theorem w_succ (i : Nat) (h : i < 1000000) : wrap64 ((i : Int) + 1) = ((i + 1 : Nat) : Int) := by rw [w64 (by omega) (by omega)]; omega
theorem w_add (x y : Int) (h1 : 0 ≤ x ∧ x ≤ 100000) (h2 : 0 ≤ y ∧ y ≤ 100000) : wrap64 (x + y) = x + y := w64 (by omega) (by omega)
theorem tm16 (y : Int) : -16 < Int.tmod y 16 ∧ Int.tmod y 16 < 16 := by
  refine ⟨?_, Int.tmod_lt_of_pos y (by decide)⟩
  have h := Int.tmod_lt_of_pos (-y) (b := 16) (by decide)
  rw [Int.neg_tmod] at h
  omega
def small (r : List S41) : Prop := r.length ≤ 6 ∧ ∀ x ∈ r, -102 ≤ x.f0 ∧ x.f0 ≤ 102
theorem chg_ev (l : List S92) : ∃ r, small r ∧ Ev (fun k => sleuthlaw45_changes.f k l) r := by
  have key : ∀ (d i : Nat) (acc : List S41) (a : Int), 6 - i = d → i ≤ 6 → acc.length ≤ i → (∀ x ∈ acc, -102 ≤ x.f0 ∧ x.f0 ≤ 102) → -17 * (i : Int) ≤ a → a ≤ 17 * (i : Int) → ∃ r, small r ∧ Ev (fun k => sleuthlaw45_changes.l0 k l acc a (i : Int)) r := by
    intro d
    induction d with
    | zero =>
      intro i acc a hd hi hl hb h1 h2
      refine ⟨acc, ⟨by omega, hb⟩, Ev.step (f := fun _ => some acc) (fun k => ?_) (Ev.now _)⟩
      simp only [sleuthlaw45_changes.l0]
      by_cases c : (i : Int) < (l.length : Int)
      · rw [if_pos c, if_neg (by omega)]
      · rw [if_neg c]
    | succ d ih =>
      intro i acc a hd hi hl hb h1 h2
      by_cases c : (i : Int) < (l.length : Int)
      · have ht := tm16 (mx (wrap64 ((rd_T92 l (i : Int)).f0)) (wrap64 (-(wrap64 ((rd_T92 l (i : Int)).f0)))))
        have e : wrap64 (wrap64 (a + 1) + Int.tmod (mx (wrap64 ((rd_T92 l (i : Int)).f0)) (wrap64 (-(wrap64 ((rd_T92 l (i : Int)).f0))))) 16) = a + 1 + Int.tmod (mx (wrap64 ((rd_T92 l (i : Int)).f0)) (wrap64 (-(wrap64 ((rd_T92 l (i : Int)).f0))))) 16 := by
          rw [w64 (x := a + 1) (by omega) (by omega), w64 (by omega) (by omega)]
        have hw := w_succ i (by omega)
        generalize hs : a + 1 + Int.tmod (mx (wrap64 ((rd_T92 l (i : Int)).f0)) (wrap64 (-(wrap64 ((rd_T92 l (i : Int)).f0))))) 16 = s at e
        obtain ⟨r, hr, ev⟩ := ih (i + 1) (acc ++ [(⟨s, wrap64 ((rd_T92 l (i : Int)).f1), wrap64 ((rd_T92 l (i : Int)).f2)⟩ : S41)]) s (by omega) (by omega) (by simp; omega) (by
          intro x hx
          rw [List.mem_append] at hx
          rcases hx with hx | hx
          · exact hb x hx
          · rw [List.mem_singleton] at hx
            subst hx
            show -102 ≤ s ∧ s ≤ 102
            omega) (by omega) (by omega)
        refine ⟨r, hr, Ev.step (fun k => ?_) ev⟩
        simp only [sleuthlaw45_changes.l0]
        rw [if_pos c, if_pos (by omega), if_pos (by omega), if_pos (by omega), e, hw]
      · refine ⟨acc, ⟨by omega, hb⟩, Ev.step (f := fun _ => some acc) (fun k => ?_) (Ev.now _)⟩
        simp only [sleuthlaw45_changes.l0]
        rw [if_neg c]
  exact key _ 0 [] 0 rfl (by omega) (by simp) (by simp) (by omega) (by omega)
theorem rd41 {l : List S41} {P : S41 → Prop} (h : ∀ x ∈ l, P x) (i : Nat) (hi : i < l.length) : P (rd_T41 l (i : Int)) := by
  have : rd_T41 l (i : Int) = l[i] := by simp [rd_T41, List.getD, List.getElem?_eq_getElem hi]
  rw [this]
  exact h _ (List.getElem_mem hi)
theorem rd58 (l : List Mat.Pr) (i : Nat) (hi : i < l.length) : rd_T58 (l.map tp) (i : Int) = tp l[i] := by
  simp [rd_T58, List.getD, List.getElem?_eq_getElem hi]
def rng (la lb : List S41) (l : List Mat.Pr) : Prop := ∀ p ∈ l, p.1 < la.length ∧ p.2 < lb.length
theorem isM_rng {la lb : List S41} {tol : Int} : ∀ {l : List Mat.Pr} {i k : Nat}, Mat.IsM (game la lb tol) i k l → rng la lb l ∧ l.length + i ≤ max i la.length
  | [], i, k, _ => ⟨fun _ h => (by cases h), by simp; omega⟩
  | p :: l, i, k, h => by
    obtain ⟨h1, h2, h3, h4, h5, h6⟩ := h
    have h2 : p.1 < la.length := h2
    have h4 : p.2 < lb.length := h4
    obtain ⟨r1, r2⟩ := isM_rng h6
    refine ⟨fun q hq => ?_, by simp only [List.length_cons]; omega⟩
    rcases List.mem_cons.1 hq with rfl | hq
    · exact ⟨h2, h4⟩
    · exact r1 q hq
theorem lex_same (p : Mat.Pr) (l m : List Mat.Pr) : Mat.lex (p :: l) (p :: m) ↔ Mat.lex l m := by
  constructor
  · intro h
    rcases h with h | h
    · exact absurd h (by unfold Mat.plt; omega)
    · exact h.2
  · intro h
    exact .inr ⟨rfl, h⟩
theorem lex_diff (p q : Mat.Pr) (l m : List Mat.Pr) (hne : p ≠ q) : Mat.lex (p :: l) (q :: m) ↔ Mat.plt p q := by
  constructor
  · intro h
    rcases h with h | h
    · exact h
    · exact absurd h.1 hne
  · intro h
    exact .inl h
theorem dist_app (G : Mat.Game) (a b : List Mat.Pr) : Mat.dist G (a ++ b) = Mat.dist G a + Mat.dist G b := by
  induction a with
  | nil => simp [Mat.dist]
  | cons p a ih => simp only [List.cons_append, Mat.dist, ih]; omega
section
variable (la lb : List S41) (hla : small la) (hlb : small lb) (tol : Int)
include hla hlb
theorem gds_b (i k : Nat) (hi : i < la.length) (hk : k < lb.length) : 0 ≤ gds la lb i k ∧ gds la lb i k ≤ 204 := by
  have h1 := rd41 hla.2 i hi
  have h2 := rd41 hlb.2 k hk
  unfold gds mag
  exact ⟨by omega, by omega⟩
theorem gds_mx (i k : Nat) (hi : i < la.length) (hk : k < lb.length) : mx (wrap64 ((rd_T41 la (i : Int)).f0 - (rd_T41 lb (k : Int)).f0)) (wrap64 (-(wrap64 ((rd_T41 la (i : Int)).f0 - (rd_T41 lb (k : Int)).f0)))) = gds la lb i k := by
  have h1 := rd41 hla.2 i hi
  have h2 := rd41 hlb.2 k hk
  unfold gds mag
  generalize (rd_T41 la (i : Int)).f0 = x at h1 ⊢
  generalize (rd_T41 lb (k : Int)).f0 = y at h2 ⊢
  rw [w64 (x := x - y) (by omega) (by omega), w64 (by omega) (by omega)]
  unfold mx
  split <;> omega
set_option maxHeartbeats 8000000 in
theorem dist_ev (l : List Mat.Pr) (hr : rng la lb l) (hl : l.length ≤ 100) : Ev (fun k => sleuthlaw45_distance.f k la lb (l.map tp)) (Mat.dist (game la lb tol) l) := by
  have hb : ∀ i, i ≤ l.length → 0 ≤ Mat.dist (game la lb tol) (l.take i) ∧ Mat.dist (game la lb tol) (l.take i) ≤ 204 * (i : Int) := by
    intro i
    induction i with
    | zero => simp [Mat.dist]
    | succ i ih =>
      intro hi
      have := ih (by omega)
      have h1 := hr _ (List.getElem_mem (show i < l.length by omega))
      have h2 := gds_b la lb hla hlb _ _ h1.1 h1.2
      rw [List.take_succ_eq_append_getElem (by omega), dist_app]
      have e : Mat.dist (game la lb tol) [l[i]] = gds la lb l[i].1 l[i].2 + 0 := rfl
      rw [e]
      omega
  have key : ∀ (d i : Nat), l.length - i = d → i ≤ l.length → Ev (fun k => sleuthlaw45_distance.l0 k la lb (l.map tp) (Mat.dist (game la lb tol) (l.take i)) (i : Int)) (Mat.dist (game la lb tol) l) := by
    intro d
    induction d with
    | zero =>
      intro i hd hi
      have hi' : i = l.length := by omega
      subst hi'
      refine Ev.step (f := fun _ => some (Mat.dist (game la lb tol) l)) (fun k => ?_) (Ev.now _)
      simp only [sleuthlaw45_distance.l0]
      rw [if_neg (by rw [List.length_map]; omega), List.take_length]
    | succ d ih =>
      intro i hd hi
      have hlt : i < l.length := by omega
      have h0 := hb i hi
      have h1 := hr _ (List.getElem_mem hlt)
      have h2 := gds_b la lb hla hlb _ _ h1.1 h1.2
      have hk := ih (i + 1) (by omega) (by omega)
      rw [List.take_succ_eq_append_getElem hlt, dist_app] at hk
      have e : Mat.dist (game la lb tol) [l[i]] = gds la lb l[i].1 l[i].2 + 0 := rfl
      rw [e, Int.add_zero] at hk
      have q0 : (i : Int) < ((l.map tp).length : Int) := by rw [List.length_map]; omega
      have q6 : 0 ≤ Mat.dist (game la lb tol) (l.take i) ∧ Mat.dist (game la lb tol) (l.take i) ≤ 100000 := by omega
      have q7 : 0 ≤ gds la lb l[i].1 l[i].2 ∧ gds la lb l[i].1 l[i].2 ≤ 100000 := by omega
      have hw := w_succ i (by omega)
      refine Ev.step (fun k => ?_) hk
      simp only [sleuthlaw45_distance.l0]
      have q1 : (0 : Int) ≤ (tp l[i]).f0 := Int.natCast_nonneg _
      have q2 : (0 : Int) ≤ (tp l[i]).f1 := Int.natCast_nonneg _
      have q3 : (tp l[i]).f0 < (la.length : Int) := Int.ofNat_lt.2 h1.1
      have q4 : (tp l[i]).f1 < (lb.length : Int) := Int.ofNat_lt.2 h1.2
      have q5 : mx (wrap64 ((rd_T41 la (tp l[i]).f0).f0 - (rd_T41 lb (tp l[i]).f1).f0)) (wrap64 (-(wrap64 ((rd_T41 la (tp l[i]).f0).f0 - (rd_T41 lb (tp l[i]).f1).f0)))) = gds la lb l[i].1 l[i].2 := gds_mx la lb hla hlb _ _ h1.1 h1.2
      rw [if_pos q0, if_pos (Int.natCast_nonneg _), rd58 l i hlt, if_pos q1, if_pos q3, if_pos q2, if_pos q4, hw, q5, w_add _ _ q6 q7]
  exact key _ 0 rfl (Nat.zero_le _)
omit hla hlb in
theorem better_l0 (a b : List Mat.Pr) (he : a.length = b.length) (hl : a.length ≤ 100) : ∀ (d i : Nat), a.length - i = d → i ≤ a.length → ∃ c, (c = true ↔ Mat.lex (a.drop i) (b.drop i)) ∧ Ev (fun k => sleuthlaw45_better.l0 k (a.map tp) (b.map tp) (i : Int)) c := by
  intro d
  induction d with
  | zero =>
    intro i hd hi
    refine ⟨false, ?_, Ev.step (f := fun _ => some false) (fun k => ?_) (Ev.now _)⟩
    · rw [List.drop_eq_nil_of_le (by omega)]
      simp [Mat.lex]
    · simp only [sleuthlaw45_better.l0]
      rw [if_neg (by rw [List.length_map]; omega)]
  | succ d ih =>
    intro i hd hi
    have h1 : i < a.length := by omega
    have h2 : i < b.length := by omega
    have hw := w_succ i (by omega)
    rw [List.drop_eq_getElem_cons h1, List.drop_eq_getElem_cons h2]
    have hu : ∀ k, sleuthlaw45_better.l0 (k + 1) (a.map tp) (b.map tp) (i : Int) = (if (!(((a[i].1 : Nat) : Int) == ((b[i].1 : Nat) : Int)) || (!(((a[i].2 : Nat) : Int) == ((b[i].2 : Nat) : Int)))) = true then (if ((a[i].1 : Nat) : Int) < ((b[i].1 : Nat) : Int) then (some true) else (if ((a[i].1 : Nat) : Int) = ((b[i].1 : Nat) : Int) then (some (decide (((a[i].2 : Nat) : Int) < ((b[i].2 : Nat) : Int)))) else (some false))) else sleuthlaw45_better.l0 k (a.map tp) (b.map tp) ((i + 1 : Nat) : Int)) := by
      intro k
      simp only [sleuthlaw45_better.l0]
      rw [if_pos (by rw [List.length_map]; omega), if_pos (by omega), if_pos (by rw [List.length_map]; omega), rd58 a i h1, rd58 b i h2, hw]
      rfl
    generalize a[i] = p at hu ⊢
    generalize b[i] = q at hu ⊢
    obtain ⟨p1, p2⟩ := p
    obtain ⟨q1, q2⟩ := q
    simp only at hu
    by_cases c1 : p1 = q1
    · by_cases c2 : p2 = q2
      · subst c1 c2
        obtain ⟨c, hc, ev⟩ := ih (i + 1) (by omega) (by omega)
        refine ⟨c, ?_, Ev.step (fun k => ?_) ev⟩
        · rw [hc, lex_same]
        · rw [hu, if_neg (by simp)]
      · subst c1
        refine ⟨decide ((p2 : Int) < (q2 : Int)), ?_, Ev.step (f := fun _ => some (decide ((p2 : Int) < (q2 : Int)))) (fun k => ?_) (Ev.now _)⟩
        · rw [lex_diff _ _ _ _ (fun h => c2 (congrArg Prod.snd h)), decide_eq_true_eq]
          constructor
          · intro h
            exact .inr ⟨rfl, Int.ofNat_lt.1 h⟩
          · intro h
            rcases h with h | h
            · exact absurd h (Nat.lt_irrefl _)
            · exact Int.ofNat_lt.2 h.2
        · rw [hu, if_pos (by simp; omega), if_neg (by omega), if_pos rfl]
    · refine ⟨decide (p1 < q1), ?_, Ev.step (f := fun _ => some (decide (p1 < q1))) (fun k => ?_) (Ev.now _)⟩
      · rw [lex_diff _ _ _ _ (fun h => c1 (congrArg Prod.fst h)), decide_eq_true_eq]
        constructor
        · intro h
          exact .inl h
        · intro h
          rcases h with h | h
          · exact h
          · exact absurd h.1 c1
      · rw [hu, if_pos (by simp; omega)]
        by_cases c3 : p1 < q1
        · rw [if_pos (by omega), decide_eq_true c3]
        · rw [if_neg (by omega), if_neg (by omega), decide_eq_false c3]
theorem better45_ev (a b : List Mat.Pr) (ha : rng la lb a) (hb : rng la lb b) (la' : a.length ≤ 100) (lb' : b.length ≤ 100) : ∃ c, (c = true ↔ Mat.bt (game la lb tol) a b) ∧ Ev (fun k => sleuthlaw45_better.f k la lb (a.map tp) (b.map tp)) c := by
  unfold sleuthlaw45_better.f
  simp only [List.length_map]
  by_cases c1 : a.length = b.length
  · have ea := dist_ev la lb hla hlb tol a ha la'
    have eb := dist_ev la lb hla hlb tol b hb lb'
    by_cases c2 : Mat.dist (game la lb tol) a = Mat.dist (game la lb tol) b
    · obtain ⟨c, hc, ev⟩ := better_l0 a b c1 la' _ 0 rfl (Nat.zero_le _)
      refine ⟨c, ?_, Ev.congr (fun k => if_pos (by omega)) (Ev.bind ea (Ev.bind eb (Ev.congr (fun k => if_pos c2) ev)))⟩
      rw [hc]
      simp only [List.drop_zero, Mat.bt]
      constructor
      · intro h; exact .inr ⟨c1, .inr ⟨c2, h⟩⟩
      · intro h
        rcases h with h | ⟨_, h | h⟩
        · omega
        · omega
        · exact h.2
    · refine ⟨decide (Mat.dist (game la lb tol) a < Mat.dist (game la lb tol) b), ?_, Ev.congr (fun k => if_pos (by omega)) (Ev.bind ea (Ev.bind eb (Ev.congr (fun k => if_neg c2) (Ev.now _))))⟩
      simp only [Mat.bt, decide_eq_true_eq]
      constructor
      · intro h; exact .inr ⟨c1, .inl h⟩
      · intro h
        rcases h with h | ⟨_, h | h⟩
        · omega
        · exact h
        · exact absurd h.1 c2
  · refine ⟨decide ((a.length : Int) > (b.length : Int)), ?_, Ev.congr (fun k => if_neg (by omega)) (Ev.now _)⟩
    simp only [Mat.bt, decide_eq_true_eq]
    constructor
    · intro h; exact .inl (by omega)
    · intro h
      rcases h with h | h
      · omega
      · exact absurd h.1 c1
omit hla hlb in
theorem direction_ev (x : S41) : sleuthlaw45_direction.f x.f0 x.f1 x.f2 = some (dirI x) := by
  unfold sleuthlaw45_direction.f dirI cmpI
  by_cases h1 : x.f2 > x.f1
  · rw [if_pos h1, if_neg (by omega), if_pos (by omega)]
  · rw [if_neg h1]
    by_cases h2 : x.f2 < x.f1
    · rw [if_pos h2, if_pos h2]
    · rw [if_neg h2, if_neg h2, if_neg (by omega)]
/-- The head stands before the place (i, k). -/
def pre (i k : Nat) : List Mat.Pr → Prop
  | [] => True
  | p :: _ => p.1 < i ∨ (p.1 = i ∧ p.2 < k)
/-- The best of the matchings whose head stands before the place. -/
def BP (i0 k0 i k : Nat) (b : List Mat.Pr) : Prop := Mat.IsM (game la lb tol) i0 k0 b ∧ pre i k b ∧ ∀ l, Mat.IsM (game la lb tol) i0 k0 l → pre i k l → l = b ∨ Mat.bt (game la lb tol) b l
omit hla hlb in
theorem BP.skip {i0 k0 i k : Nat} {b : List Mat.Pr} (h : BP la lb tol i0 k0 i k b) (ho : (game la lb tol).ok i k = false) : BP la lb tol i0 k0 i (k + 1) b := by
  refine ⟨h.1, ?_, fun l hl hp => h.2.2 l hl ?_⟩
  · have := h.2.1
    cases b with
    | nil => trivial
    | cons p b =>
      simp only [pre] at this ⊢
      omega
  · cases l with
    | nil => trivial
    | cons p l =>
      simp only [pre] at hp ⊢
      by_cases e : p.1 = i ∧ p.2 = k
      · have h5 := hl.2.2.2.2.1
        rw [e.1, e.2, ho] at h5
        cases h5
      · omega
omit hla hlb in
theorem BP.take {i0 k0 i k : Nat} {b b2 : List Mat.Pr} (h : BP la lb tol i0 k0 i k b) (hi : i0 ≤ i) (hk : k0 ≤ k) (hin : i < la.length) (hkm : k < lb.length) (ho : (game la lb tol).ok i k = true) (h2 : Mat.Best (game la lb tol) (i + 1) (k + 1) b2) :
    (Mat.bt (game la lb tol) ((i, k) :: b2) b → BP la lb tol i0 k0 i (k + 1) ((i, k) :: b2)) ∧ (¬ Mat.bt (game la lb tol) ((i, k) :: b2) b → BP la lb tol i0 k0 i (k + 1) b) := by
  have hM : Mat.IsM (game la lb tol) i0 k0 ((i, k) :: b2) := ⟨hi, hin, hk, hkm, ho, h2.1⟩
  have hall : ∀ l, Mat.IsM (game la lb tol) i0 k0 l → pre i (k + 1) l → (l = b ∨ Mat.bt (game la lb tol) b l) ∨ (l = (i, k) :: b2 ∨ Mat.bt (game la lb tol) ((i, k) :: b2) l) := by
    intro l hl hp
    cases l with
    | nil => exact .inl (h.2.2 [] hl trivial)
    | cons p l =>
      by_cases e : p.1 = i ∧ p.2 = k
      · have ep : p = (i, k) := Prod.ext e.1 e.2
        subst ep
        rcases h2.2 l hl.2.2.2.2.2 with h | h
        · exact .inr (.inl (by rw [h]))
        · exact .inr (.inr ((Mat.bt_cons (game la lb tol) (i, k)).2 h))
      · refine .inl (h.2.2 _ hl ?_)
        simp only [pre] at hp ⊢
        omega
  constructor
  · intro hb
    refine ⟨hM, .inr ⟨rfl, by simp⟩, fun l hl hp => ?_⟩
    rcases hall l hl hp with (h1 | h1) | h1
    · exact .inr (by rw [h1]; exact hb)
    · exact .inr (Mat.bt_trans (game la lb tol) hb h1)
    · exact h1
  · intro hb
    refine ⟨h.1, ?_, fun l hl hp => ?_⟩
    · have := h.2.1
      cases b with
      | nil => trivial
      | cons p b =>
        simp only [pre] at this ⊢
        omega
    · rcases hall l hl hp with h1 | h1 | h1
      · exact h1
      · subst h1
        rcases Mat.bt_total (game la lb tol) ((i, k) :: b2) b with h3 | h3 | h3
        · exact .inl h3
        · exact absurd h3 hb
        · exact .inr h3
      · rcases Mat.bt_total (game la lb tol) ((i, k) :: b2) b with h3 | h3 | h3
        · exact .inr (by rw [← h3]; exact h1)
        · exact absurd h3 hb
        · exact .inr (Mat.bt_trans (game la lb tol) h3 h1)
omit hla hlb in
theorem BP.row {i0 k0 i : Nat} {b : List Mat.Pr} (h : BP la lb tol i0 k0 i lb.length b) : BP la lb tol i0 k0 (i + 1) k0 b := by
  refine ⟨h.1, ?_, fun l hl hp => h.2.2 l hl ?_⟩
  · have := h.2.1
    cases b with
    | nil => trivial
    | cons p b =>
      simp only [pre] at this ⊢
      omega
  · cases l with
    | nil => trivial
    | cons p l =>
      have h3 := hl.2.2.1
      have h4 : p.2 < lb.length := hl.2.2.2.1
      simp only [pre] at hp ⊢
      omega
omit hla hlb in
theorem BP.done {i0 k0 k : Nat} {b : List Mat.Pr} (h : BP la lb tol i0 k0 la.length k b) : Mat.Best (game la lb tol) i0 k0 b := by
  refine ⟨h.1, fun l hl => h.2.2 l hl ?_⟩
  cases l with
  | nil => trivial
  | cons p l => exact .inl hl.2.1
omit hla hlb in
theorem BP.start {i0 k0 : Nat} : BP la lb tol i0 k0 i0 k0 [] := by
  refine ⟨trivial, trivial, fun l hl hp => ?_⟩
  cases l with
  | nil => exact .inl rfl
  | cons p l =>
    have h1 := hl.1
    have h3 := hl.2.2.1
    simp only [pre] at hp
    omega
set_option maxHeartbeats 8000000 in
theorem mat_ev : ∀ (e i0 k0 : Nat) (begun : List Mat.Pr), la.length - i0 = e → i0 ≤ la.length → k0 ≤ lb.length → begun.length ≤ i0 → rng la lb begun →
    ∃ b, Mat.Best (game la lb tol) i0 k0 b ∧ Ev (fun k => sleuthlaw45_match.f k la lb tol (i0 : Int) (k0 : Int) (begun.map tp)) ((begun ++ b).map tp) := by
  intro e
  induction e using Nat.strongRecOn with
  | _ e IH =>
    intro i0 k0 begun he hi0 hk0 hbl hbr
    have ha6 := hla.1
    have hb6 := hlb.1
    have outer : ∀ (di i : Nat) (b : List Mat.Pr), la.length - i = di → i0 ≤ i → i ≤ la.length → BP la lb tol i0 k0 i k0 b →
        ∃ bf, Mat.Best (game la lb tol) i0 k0 bf ∧ Ev (fun k => sleuthlaw45_match.l0 k la lb tol (k0 : Int) (begun.map tp) ((begun ++ b).map tp) (i : Int)) ((begun ++ bf).map tp) := by
      intro di
      induction di with
      | zero =>
        intro i b hd h1 h2 hb
        have : i = la.length := by omega
        subst this
        refine ⟨b, BP.done la lb tol hb, Ev.step (f := fun _ => some ((begun ++ b).map tp)) (fun k => ?_) (Ev.now _)⟩
        simp only [sleuthlaw45_match.l0]
        rw [if_neg (by omega)]
      | succ di ih =>
        intro i b hd h1 h2 hb
        have hin : i < la.length := by omega
        have hi6 : i < 1000000 := by omega
        have inner : ∀ (dk k1 : Nat) (b : List Mat.Pr), lb.length - k1 = dk → k0 ≤ k1 → k1 ≤ lb.length → BP la lb tol i0 k0 i k1 b →
            ∃ bf, Mat.Best (game la lb tol) i0 k0 bf ∧ Ev (fun k => sleuthlaw45_match.l1 k la lb tol (k0 : Int) (begun.map tp) ((begun ++ b).map tp) (i : Int) (k1 : Int)) ((begun ++ bf).map tp) := by
          intro dk
          induction dk with
          | zero =>
            intro k1 b hd2 h3 h4 hb
            have : k1 = lb.length := by omega
            subst this
            obtain ⟨bf, hbf, ev⟩ := ih (i + 1) b (by omega) (by omega) (by omega) (BP.row la lb tol hb)
            refine ⟨bf, hbf, Ev.step (fun k => ?_) ev⟩
            simp only [sleuthlaw45_match.l1]
            rw [if_neg (by omega), w_succ i hi6]
          | succ dk ihk =>
            intro k1 b hd2 h3 h4 hb
            have hkm : k1 < lb.length := by omega
            have hk6 : k1 < 1000000 := by omega
            have hg := gds_b la lb hla hlb i k1 hin hkm
            cases ho : (game la lb tol).ok i k1 with
            | false =>
              obtain ⟨bf, hbf, ev⟩ := ihk (k1 + 1) b (by omega) (by omega) (by omega) (BP.skip la lb tol hb ho)
              have ev2 : Ev (fun k => sleuthlaw45_match.j2 k la lb tol (k0 : Int) (begun.map tp) ((begun ++ b).map tp) (i : Int) (k1 : Int) true) ((begun ++ bf).map tp) := by
                refine Ev.step (fun k => ?_) ev
                simp only [sleuthlaw45_match.j2]
                rw [if_pos trivial, w_succ k1 hk6]
              refine ⟨bf, hbf, Ev.step (fun k => ?_) ev2⟩
              simp only [sleuthlaw45_match.l1]
              rw [if_pos (by omega), if_pos (by omega), if_pos (by omega), if_pos (by omega), gds_mx la lb hla hlb i k1 hin hkm, direction_ev, direction_ev]
              have ho' : (decide (gds la lb i k1 ≤ tol) && (dirI (rd_T41 la (i : Int)) == dirI (rd_T41 lb (k1 : Int)))) = false := ho
              by_cases c : gds la lb i k1 > tol
              · rw [if_pos c]
              · rw [if_neg c]
                rw [decide_eq_true (by omega), Bool.true_and] at ho'
                simp only [Option.bind_some, bne, ho', Bool.not_false]
            | true =>
              obtain ⟨b2, hb2, evb⟩ := IH (la.length - (i + 1)) (by omega) (i + 1) (k1 + 1) (begun ++ [(i, k1)]) rfl (by omega) (by omega) (by simp; omega) (by
                intro p hp
                rw [List.mem_append] at hp
                rcases hp with hp | hp
                · exact hbr p hp
                · rw [List.mem_singleton] at hp
                  subst hp
                  exact ⟨hin, hkm⟩)
              rw [List.append_assoc, List.singleton_append] at evb
              have hM2 : Mat.IsM (game la lb tol) i0 k0 ((i, k1) :: b2) := ⟨h1, hin, h3, hkm, ho, hb2.1⟩
              have hr1 := isM_rng hM2
              have hr2 := isM_rng hb.1
              have rap : ∀ l, rng la lb l → rng la lb (begun ++ l) := fun l hl p hp => (List.mem_append.1 hp).elim (hbr p) (hl p)
              obtain ⟨c, hc, evc⟩ := better45_ev la lb hla hlb tol (begun ++ (i, k1) :: b2) (begun ++ b) (rap _ hr1.1) (rap _ hr2.1) (by rw [List.length_append]; have := hr1.2; omega) (by rw [List.length_append]; have := hr2.2; omega)
              rw [Mat.bt_append] at hc
              have htk := BP.take la lb tol hb h1 h3 hin hkm ho hb2
              have hres : ∃ bf, Mat.Best (game la lb tol) i0 k0 bf ∧ Ev (fun k => if c = true then (sleuthlaw45_match.l1 k la lb tol (k0 : Int) (begun.map tp) ((begun ++ (i, k1) :: b2).map tp) (i : Int) (wrap64 ((k1 : Int) + 1))) else (sleuthlaw45_match.l1 k la lb tol (k0 : Int) (begun.map tp) ((begun ++ b).map tp) (i : Int) (wrap64 ((k1 : Int) + 1)))) ((begun ++ bf).map tp) := by
                rw [w_succ k1 hk6]
                cases c with
                | true =>
                  obtain ⟨bf, hbf, ev⟩ := ihk (k1 + 1) _ (by omega) (by omega) (by omega) (htk.1 (hc.1 rfl))
                  exact ⟨bf, hbf, Ev.congr (fun k => if_pos rfl) ev⟩
                | false =>
                  obtain ⟨bf, hbf, ev⟩ := ihk (k1 + 1) _ (by omega) (by omega) (by omega) (htk.2 (fun h => by cases hc.2 h))
                  exact ⟨bf, hbf, Ev.congr (fun k => if_neg (by decide)) ev⟩
              obtain ⟨bf, hbf, ev⟩ := hres
              have em : ((begun ++ [(i, k1)]).map tp) = begun.map tp ++ [(⟨(i : Int), (k1 : Int)⟩ : S58)] := by rw [List.map_append]; rfl
              have ev2 : Ev (fun k => sleuthlaw45_match.j2 k la lb tol (k0 : Int) (begun.map tp) ((begun ++ b).map tp) (i : Int) (k1 : Int) false) ((begun ++ bf).map tp) := by
                refine Ev.step (f := fun k => (sleuthlaw45_match.f k la lb tol ((i + 1 : Nat) : Int) ((k1 + 1 : Nat) : Int) ((begun ++ [(i, k1)]).map tp)).bind fun t => ((sleuthlaw45_better.f k la lb t ((begun ++ b).map tp)).bind fun t2 => (if t2 = true then (sleuthlaw45_match.l1 k la lb tol (k0 : Int) (begun.map tp) t (i : Int) (wrap64 ((k1 : Int) + 1))) else (sleuthlaw45_match.l1 k la lb tol (k0 : Int) (begun.map tp) ((begun ++ b).map tp) (i : Int) (wrap64 ((k1 : Int) + 1)))))) (fun k => ?_) (Ev.bind evb (Ev.bind evc ev))
                simp only [sleuthlaw45_match.j2]
                rw [if_neg (by decide)]
                simp only [Option.bind_some, List.nil_append]
                rw [if_pos (by simp; omega), if_pos (by simp; omega), w_succ i hi6, w_succ k1 hk6, em]
              refine ⟨bf, hbf, Ev.step (fun k => ?_) ev2⟩
              simp only [sleuthlaw45_match.l1]
              rw [if_pos (by omega), if_pos (by omega), if_pos (by omega), if_pos (by omega), gds_mx la lb hla hlb i k1 hin hkm, direction_ev, direction_ev]
              have ho' : (decide (gds la lb i k1 ≤ tol) && (dirI (rd_T41 la (i : Int)) == dirI (rd_T41 lb (k1 : Int)))) = true := ho
              rw [Bool.and_eq_true, decide_eq_true_eq] at ho'
              rw [if_neg (by omega)]
              simp only [Option.bind_some, bne, ho'.2, Bool.not_true]
        obtain ⟨bf, hbf, ev⟩ := inner _ k0 b rfl (Nat.le_refl _) hk0 hb
        refine ⟨bf, hbf, Ev.step (fun k => ?_) ev⟩
        simp only [sleuthlaw45_match.l0]
        rw [if_pos (by omega)]
    obtain ⟨bf, hbf, ev⟩ := outer _ i0 [] rfl (Nat.le_refl _) hi0 (BP.start la lb tol)
    rw [List.append_nil] at ev
    refine ⟨bf, hbf, Ev.step (fun k => ?_) ev⟩
    simp only [sleuthlaw45_match.f]
theorem match_ok (h1 : 0 ≤ tol) (h2 : tol ≤ 1048576) : changepoint_Match.f la lb tol = some ((best (game la lb tol)).map tp, 0) := by
  show matchF la lb tol = _
  have ha := hla.1
  have hb := hlb.1
  have bd : ∀ l, small l → bdB l = true := by
    intro l hl
    unfold bdB
    rw [List.all_eq_true]
    intro x hx
    have := hl.2 x hx
    rw [decide_eq_true_eq]
    omega
  unfold matchF
  rw [if_neg (by omega), if_neg (by omega), if_pos ⟨bd _ hla, bd _ hlb⟩]
theorem match_bad (h : tol < 0 ∨ 1048576 < tol) : changepoint_Match.f la lb tol = some ([], 2) := by
  show matchF la lb tol = _
  have ha := hla.1
  have hb := hlb.1
  unfold matchF
  rw [if_neg (by omega), if_pos h]
end
set_option maxHeartbeats 8000000 in
theorem lawMatches (l0 l1 : List S92) (a2 : Int) : Ev (fun k => sleuthlaw45_ChangepointMatches.f k l0 l1 a2) true := by
  obtain ⟨la, hla, ea⟩ := chg_ev l0
  obtain ⟨lb, hlb, eb⟩ := chg_ev l1
  unfold sleuthlaw45_ChangepointMatches.f
  refine Ev.bind known_ev ?_
  simp only [if_true]
  refine Ev.bind ea (Ev.bind eb ?_)
  by_cases c : a2 < 0 ∨ 1048576 < a2
  · rw [match_bad la lb hla hlb a2 c]
    simp only [Option.bind_some]
    have hj : Ev (fun k => sleuthlaw45_ChangepointMatches.j0 k a2 la lb ([] : List S58) 2 true) true := by
      refine Ev.step (f := fun _ => some true) (fun k => ?_) (Ev.now _)
      simp only [sleuthlaw45_ChangepointMatches.j0]
      rfl
    by_cases c1 : a2 < 0
    · exact Ev.congr (fun k => if_pos c1) hj
    · refine Ev.congr (fun k => if_neg c1) ?_
      rw [decide_eq_true (by omega)]
      exact hj
  · rw [match_ok la lb hla hlb a2 (by omega) (by omega)]
    simp only [Option.bind_some]
    refine Ev.congr (fun k => if_neg (by omega)) ?_
    rw [decide_eq_false (by omega)]
    obtain ⟨b, hb, ev⟩ := mat_ev la lb hla hlb a2 _ 0 0 [] rfl (Nat.zero_le _) (Nat.zero_le _) (Nat.zero_le _) (fun p hp => by cases hp)
    have hbb : b = best (game la lb a2) := hb.unique (best_best _)
    subst hbb
    have hr := (isM_rng hb.1).2
    have ha6 := hla.1
    rw [List.nil_append] at ev
    generalize best (game la lb a2) = b at ev hr ⊢
    have hl : ∀ (d i : Nat), b.length - i = d → i ≤ b.length → Ev (fun k => sleuthlaw45_ChangepointMatches.l0 k (b.map tp) (b.map tp) (i : Int)) true := by
      intro d
      induction d with
      | zero =>
        intro i hd hi
        refine Ev.step (f := fun _ => some true) (fun k => ?_) (Ev.now _)
        simp only [sleuthlaw45_ChangepointMatches.l0]
        rw [if_neg (by rw [List.length_map]; omega)]
      | succ d ih =>
        intro i hd hi
        have hi6 : i < 1000000 := by omega
        refine Ev.step (fun k => ?_) (ih (i + 1) (by omega) (by omega))
        simp only [sleuthlaw45_ChangepointMatches.l0]
        rw [if_pos (by rw [List.length_map]; omega), if_pos (by omega), if_pos (by rw [List.length_map]; omega), if_neg (by simp), w_succ i hi6]
    have hj1 : Ev (fun k => sleuthlaw45_ChangepointMatches.j1 k (b.map tp) (b.map tp) false) true := by
      refine Ev.step (fun k => ?_) (hl _ 0 rfl (Nat.zero_le _))
      simp only [sleuthlaw45_ChangepointMatches.j1]
      rw [if_neg (by decide)]
      rfl
    refine Ev.step (f := fun k => (sleuthlaw45_match.f k la lb a2 0 0 ([] : List S58)).bind fun t => sleuthlaw45_ChangepointMatches.j1 k (b.map tp) t (((b.map tp).length : Int) != (t.length : Int))) (fun k => ?_) (Ev.bind ev ?_)
    · simp only [sleuthlaw45_ChangepointMatches.j0]
      rw [if_neg (by decide)]
      rfl
    · have : (((b.map tp).length : Int) != ((b.map tp).length : Int)) = false := by simp
      rw [this]
      exact hj1
end Go.Proofs.Ytcjgmofgfblmnaa.Seg
