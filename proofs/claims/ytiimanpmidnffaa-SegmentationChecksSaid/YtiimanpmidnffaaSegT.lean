/- The law Counts: what the printed Counts computes. -/
import Derived.Test.YtiimanpmidnffaaSegJ
import Derived.Test.YtiimanpmidnffaaQx16
namespace Go.Proofs.Ytiimanpmidnffaa.Seg
open Go.RowKit Go.Proofs.YtiimanpmidnffaaW.PrintWords Go.Proofs.YtiimanpmidnffaaW.PrintLast Go.Proofs.YtiimanpmidnffaaW.PrintMore Go.Proofs.Ytiimanpmidnffaa.Q
set_option linter.unusedVariables false
set_option linter.unusedSimpArgs false
/-- The best segmentation of the first t points with exactly q cuts. -/
structure CB (pts : List Int) (q t : Nat) (n : Int) (c : List Int) : Prop where
  cut : Cut pts 0 t c n
  len : c.length = q
  min : ∀ c' n', Cut pts 0 t c' n' → c'.length = q → ¬ kl n' c' n c
theorem CB.uniq {pts : List Int} {q t : Nat} {n m : Int} {c d : List Int} (h : CB pts q t n c) (h' : CB pts q t m d) : n = m ∧ c = d := by
  rcases kl_total n m c d with h2 | h2 | h2
  · exact absurd h2 (h'.min _ _ h.cut h.len)
  · exact h2
  · exact absurd h2 (h.min _ _ h'.cut h'.len)
theorem CB.zero (pts : List Int) {t : Nat} (h : 1 ≤ t) : CB pts 0 t (C pts 0 t) [] := by
  refine ⟨.whole t h, rfl, fun c' n' hc hl => ?_⟩
  obtain rfl := List.length_eq_zero_iff.1 hl
  rw [hc.det (.whole t h)]
  exact kl_irr _ _
/-- The least of the candidates from lo up to s. -/
def LeastQ (N : Nat → Int) (K : Nat → List Int) (lo s : Nat) (n : Int) (c : List Int) : Prop :=
  (∃ u, lo ≤ u ∧ u < s ∧ n = N u ∧ c = K u) ∧ ∀ u, lo ≤ u → u < s → ¬ kl (N u) (K u) n c
theorem LeastQ.first (N : Nat → Int) (K : Nat → List Int) (lo : Nat) : LeastQ N K lo (lo + 1) (N lo) (K lo) :=
  ⟨⟨lo, Nat.le_refl _, by omega, rfl, rfl⟩, fun u h1 h2 => by cases (show u = lo by omega); exact kl_irr _ _⟩
theorem LeastQ.take {N : Nat → Int} {K : Nat → List Int} {lo s : Nat} {n : Int} {c : List Int} (h : LeastQ N K lo s n c) (hls : lo ≤ s) (hk : kl (N s) (K s) n c) : LeastQ N K lo (s + 1) (N s) (K s) := by
  refine ⟨⟨s, hls, by omega, rfl, rfl⟩, fun u h1 h2 => ?_⟩
  rcases Nat.lt_or_ge u s with h3 | h3
  · intro h4; exact h.2 u h1 h3 (kl_trans h4 hk)
  · cases (show u = s by omega); exact kl_irr _ _
theorem LeastQ.pass {N : Nat → Int} {K : Nat → List Int} {lo s : Nat} {n : Int} {c : List Int} (h : LeastQ N K lo s n c) (hk : ¬ kl (N s) (K s) n c) : LeastQ N K lo (s + 1) n c := by
  obtain ⟨⟨u, h1, h2, e1, e2⟩, hm⟩ := h
  refine ⟨⟨u, h1, by omega, e1, e2⟩, fun u' h1' h2' => ?_⟩
  rcases Nat.lt_or_ge u' s with h3 | h3
  · exact hm u' h1' h3
  · cases (show u' = s by omega); exact hk
theorem LeastQ.best {pts : List Int} {q t : Nat} {N : Nat → Int} {K : Nat → List Int} (hrow : ∀ s, q + 1 ≤ s → s < t → CB pts q s (N s) (K s)) {n : Int} {c : List Int}
    (h : LeastQ (fun s => N s + C pts s t) (fun s => K s ++ [(s : Int)]) (q + 1) t n c) : CB pts (q + 1) t n c := by
  obtain ⟨⟨u, h1, h2, e1, e2⟩, hm⟩ := h
  dsimp only at e1 e2 hm
  have hu := hrow u h1 h2
  refine ⟨?_, by rw [e2, List.length_append, hu.len]; rfl, fun c' n' hc hl => ?_⟩
  · have := Cut.more u t (K u) (N u) h2 hu.cut
    rw [Int.add_zero] at this
    rw [e1, e2]; exact this
  · cases hc with
    | whole _ h => simp at hl
    | more s _ c0 n0 hst hc0 =>
      have hl0 : c0.length = q := by simpa using hl
      have hs1 : q + 1 ≤ s := by have := hc0.len; omega
      have a1 := (hrow s hs1 hst).min c0 n0 hc0 hl0
      rw [← kl_snoc (s : Int) (C pts s t)] at a1
      rw [Int.add_zero]
      exact not_kl_trans a1 (hm s hs1 hst)
theorem cafter_eq {pts : List Int} (hP : Pts pts) {q s t : Nat} (h1s : 1 ≤ s) (hs : s < t) (ht : t ≤ pts.length) {n : Int} {c : List Int} (h : CB pts q s n c) :
    segmentation_best_after.f n c (s : Int) (C pts s t) = some (n + C pts s t, c ++ [(s : Int)]) := by
  have hb := h.cut.bd hP.2 (by decide) (by decide)
  have hc := h.cut.len
  have hl := hP.1
  have hC := C_bd pts hP.2 s t
  have hC0 := C_nonneg pts s t
  have e2 : wrap64 (n + C pts s t) = n + C pts s t := w64 (by omega) (by omega)
  unfold segmentation_best_after.f slices_Clone_int_int.f
  rw [e2, if_pos (by omega), if_pos (by omega)]
  simp only [Option.bind_some]
  rw [if_pos (by omega)]
structure TOk (pts : List Int) (tb : List (List Int)) : Prop where
  len : tb.length = pts.length + 1
  at_ : ∀ t, 1 ≤ t → t ≤ pts.length → tb.getD t [] = costsOf pts t
structure ROk (pts : List Int) (q : Nat) (row : List S74) : Prop where
  len : row.length = pts.length + 1
  at_ : ∀ s, q + 1 ≤ s → s ≤ pts.length → CB pts q s (rowN row s) (rowK row s)
theorem rd74 (xs : List S74) (i : Nat) : rd_T74 xs (i : Int) = xs.getD i z74 := rfl
theorem rdL1 (xs : List (List Int)) (i : Nat) : rd_L1 xs (i : Int) = xs.getD i [] := rfl
theorem getD_set_same (xs : List S74) (i : Nat) (e : S74) (h : i < xs.length) : (xs.set i e).getD i z74 = e := by
  rw [List.getD_eq_getElem?_getD, List.getElem?_set_self h]; rfl
theorem getD_set_other (xs : List S74) (i j : Nat) (e : S74) (h : i ≠ j) : (xs.set i e).getD j z74 = xs.getD j z74 := by
  rw [List.getD_eq_getElem?_getD, List.getElem?_set_ne h, ← List.getD_eq_getElem?_getD]
theorem cnt_inner {pts : List Int} (hP : Pts pts) {tb : List (List Int)} (hT : TOk pts tb) {q : Nat} {row : List S74} (hR : ROk pts q row) (most : Int) (out : List S27) (t : Nat) (ht1 : q + 2 ≤ t) (ht : t ≤ pts.length) (nx : List S74) (hnx : nx.length = pts.length + 1) (r : List S27 × Int)
    (next : ∀ n c, CB pts (q + 1) t n c → Ev (fun k => segmentation_Counts.l3 k most (pts.length : Int) tb row out ((q + 1 : Nat) : Int) (nx.set t ⟨n, c⟩) ((t + 1 : Nat) : Int)) r) :
    ∀ (d s : Nat) (e : S74), t - s = d → q + 1 ≤ s → s ≤ t → (s = q + 1 ∨ LeastQ (fun s => rowN row s + C pts s t) (fun s => rowK row s ++ [(s : Int)]) (q + 1) s e.f0 e.f1) →
      Ev (fun k => segmentation_Counts.l4 k most (pts.length : Int) tb row out ((q + 1 : Nat) : Int) (nx.set t e) (t : Int) (s : Int)) r := by
  have hl := hP.1
  have hrl := hR.len
  have htl := hT.len
  have hsl : ∀ e : S74, (nx.set t e).length = pts.length + 1 := fun e => by rw [List.length_set, hnx]
  intro d
  induction d with
  | zero =>
    intro s e hd hq hs hinv
    obtain rfl : s = t := by omega
    rcases hinv with h | h
    · omega
    · have hb := LeastQ.best (fun u h1 h2 => hR.at_ u h1 (by omega)) h
      refine Ev.step (fun k => ?_) (next e.f0 e.f1 hb)
      simp only [segmentation_Counts.l4]
      rw [if_neg (by omega), w64 (x := (s : Int) + 1) (by omega) (by omega)]
      rfl
  | succ d ih =>
    intro s e hd hq hs hinv
    have hst : s < t := by omega
    have hcb := hR.at_ s hq (by omega)
    have hcost : rd (tb.getD t []) (s : Int) = C pts s t := by rw [hT.at_ t (by omega) ht, rdn, costsOf_getD pts t s hst]
    have hcl : (tb.getD t []).length = t := by rw [hT.at_ t (by omega) ht, costsOf_length]
    have hbd := hcb.cut.bd hP.2 (by decide) (by decide)
    have hC := C_bd pts hP.2 s t
    have hC0 := C_nonneg pts s t
    have esum : wrap64 (rowN row s + C pts s t) = rowN row s + C pts s t := w64 (by omega) (by omega)
    have eaf := cafter_eq hP (by omega) hst ht hcb
    have ef0 : (rd_T74 row (s : Int)).f0 = rowN row s := rfl
    have ef1 : (rd_T74 row (s : Int)).f1 = rowK row s := rfl
    have eget : rd_T74 (nx.set t e) (t : Int) = e := by rw [rd74, getD_set_same _ _ _ (by omega)]
    have skip : (LeastQ (fun s => rowN row s + C pts s t) (fun s => rowK row s ++ [(s : Int)]) (q + 1) (s + 1) e.f0 e.f1) → Ev (fun k => segmentation_Counts.l4 k most (pts.length : Int) tb row out ((q + 1 : Nat) : Int) (nx.set t e) (t : Int) ((s + 1 : Nat) : Int)) r :=
      fun h => ih (s + 1) e (by omega) (by omega) (by omega) (.inr h)
    have takeIt : (LeastQ (fun s => rowN row s + C pts s t) (fun s => rowK row s ++ [(s : Int)]) (q + 1) (s + 1) (rowN row s + C pts s t) (rowK row s ++ [(s : Int)])) → Ev (fun k => segmentation_Counts.j6 k most (pts.length : Int) tb row out ((q + 1 : Nat) : Int) (nx.set t e) (t : Int) (s : Int) true (rowN row s + C pts s t) (rowK row s ++ [(s : Int)])) r := by
      intro h
      refine Ev.step (fun k => ?_) (ih (s + 1) ⟨rowN row s + C pts s t, rowK row s ++ [(s : Int)]⟩ (by omega) (by omega) (by omega) (.inr h))
      simp only [segmentation_Counts.j6, if_true]
      rw [if_pos (by omega), if_pos (by rw [hsl]; omega), Int.toNat_natCast, List.set_set, w64 (x := (s : Int) + 1) (by omega) (by omega)]
      rfl
    have leave : (LeastQ (fun s => rowN row s + C pts s t) (fun s => rowK row s ++ [(s : Int)]) (q + 1) (s + 1) e.f0 e.f1) → Ev (fun k => segmentation_Counts.j6 k most (pts.length : Int) tb row out ((q + 1 : Nat) : Int) (nx.set t e) (t : Int) (s : Int) false (rowN row s + C pts s t) (rowK row s ++ [(s : Int)])) r := by
      intro h
      refine Ev.step (fun k => ?_) (skip h)
      simp only [segmentation_Counts.j6]
      rw [if_neg (by decide), w64 (x := (s : Int) + 1) (by omega) (by omega)]
      rfl
    by_cases hz : s = q + 1
    · have hj : Ev (fun k => segmentation_Counts.j5 k most (pts.length : Int) tb row out ((q + 1 : Nat) : Int) (nx.set t e) (t : Int) (s : Int) false) r := by
        refine Ev.step (fun k => ?_) (takeIt (by subst hz; exact LeastQ.first (fun s => rowN row s + C pts s t) (fun s => rowK row s ++ [(s : Int)]) (q + 1)))
        simp only [segmentation_Counts.j5]
        rw [if_neg (by decide), if_pos (by omega), if_pos (by omega), if_pos (by omega), if_pos (by omega), rdL1, if_pos (by rw [hcl]; omega), hcost, ef0, ef1, eaf]
        simp only [Option.bind_some]
        rw [if_pos (by omega)]
      refine Ev.step (fun k => ?_) hj
      simp only [segmentation_Counts.l4]
      rw [if_pos (by omega), if_neg (by omega)]
    · rcases hinv with h | h
      · exact absurd h hz
      have enter : ∀ b : Bool, Ev (fun k => segmentation_Counts.j5 k most (pts.length : Int) tb row out ((q + 1 : Nat) : Int) (nx.set t e) (t : Int) (s : Int) b) r → b = decide (rowN row s + C pts s t > e.f0) →
          Ev (fun k => segmentation_Counts.l4 k most (pts.length : Int) tb row out ((q + 1 : Nat) : Int) (nx.set t e) (t : Int) (s : Int)) r := by
        intro b hb eb
        refine Ev.step (fun k => ?_) hb
        simp only [segmentation_Counts.l4]
        rw [if_pos (by omega), if_pos (by omega), if_pos (by omega), if_pos (by omega), if_pos (by omega), if_pos (by omega), rdL1, if_pos (by rw [hcl]; omega), if_pos (by rw [hsl]; omega), hcost, ef0, eget, esum, ← eb]
      by_cases hsk : rowN row s + C pts s t > e.f0
      · have hp : ¬ kl (rowN row s + C pts s t) (rowK row s ++ [(s : Int)]) e.f0 e.f1 := by rintro (h4 | ⟨h4, _⟩) <;> omega
        refine enter true (Ev.step (fun k => ?_) (skip (h.pass hp))) (decide_eq_true hsk).symm
        simp only [segmentation_Counts.j5, if_true]
        rw [w64 (x := (s : Int) + 1) (by omega) (by omega)]
        rfl
      · have hkl : (rowK row s ++ [(s : Int)]).length ≤ 1099511627776 := by
          rw [List.length_append, List.length_singleton, hcb.len]; omega
        obtain ⟨b, hev, hbt⟩ := better_ev (rowN row s + C pts s t) (rowK row s ++ [(s : Int)]) e.f0 e.f1 hkl
        refine enter false ?_ (decide_eq_false hsk).symm
        refine Ev.step (fun k => ?_) (Ev.bind (f := fun (k : Nat) (t402 : Bool) => segmentation_Counts.j6 k most (pts.length : Int) tb row out ((q + 1 : Nat) : Int) (nx.set t e) (t : Int) (s : Int) t402 (rowN row s + C pts s t) (rowK row s ++ [(s : Int)])) hev ?_)
        · simp only [segmentation_Counts.j5]
          rw [if_neg (by decide), if_pos (by omega), if_pos (by omega), if_pos (by omega), if_pos (by omega), rdL1, if_pos (by rw [hcl]; omega), hcost, ef0, ef1, eaf]
          simp only [Option.bind_some]
          rw [if_neg (by omega), if_pos (by rw [hsl]; omega), eget]
        · cases b with
          | true => exact takeIt (h.take (by omega) (hbt.1 rfl))
          | false => exact leave (h.pass fun h => by have := hbt.2 h; cases this)
theorem LeastQ.ex (N : Nat → Int) (K : Nat → List Int) (lo : Nat) : ∀ s, lo + 1 ≤ s → ∃ n c, LeastQ N K lo s n c := by
  intro s hs
  induction s with
  | zero => omega
  | succ s ih =>
    by_cases hz : s = lo
    · subst hz; exact ⟨_, _, LeastQ.first N K s⟩
    · obtain ⟨n, c, h⟩ := ih (by omega)
      rcases Classical.em (kl (N s) (K s) n c) with hk | hk
      · exact ⟨_, _, h.take (by omega) hk⟩
      · exact ⟨n, c, h.pass hk⟩
theorem cnt_mid {pts : List Int} (hP : Pts pts) {tb : List (List Int)} (hT : TOk pts tb) {q : Nat} {row : List S74} (hR : ROk pts q row) (most : Int) (out : List S27) (hout : out.length ≤ 2048) (hq : q + 1 < pts.length) (r : List S27 × Int)
    (next : ∀ row', ROk pts (q + 1) row' → Ev (fun k => segmentation_Counts.l2 k most (pts.length : Int) tb row' (out ++ [(⟨rowK row' pts.length, rowN row' pts.length⟩ : S27)]) ((q + 2 : Nat) : Int)) r) :
    ∀ (d t : Nat) (nx : List S74), pts.length + 1 - t = d → q + 2 ≤ t → t ≤ pts.length + 1 → nx.length = pts.length + 1 → (∀ s, q + 2 ≤ s → s < t → CB pts (q + 1) s (rowN nx s) (rowK nx s)) →
      Ev (fun k => segmentation_Counts.l3 k most (pts.length : Int) tb row out ((q + 1 : Nat) : Int) nx (t : Int)) r := by
  have hl := hP.1
  intro d
  induction d with
  | zero =>
    intro t nx hd hq2 ht hnx hinv
    obtain rfl : t = pts.length + 1 := by omega
    refine Ev.step (fun k => ?_) (next nx ⟨hnx, fun s h1 h2 => hinv s h1 (by omega)⟩)
    simp only [segmentation_Counts.l3]
    have e : rd_T74 nx (pts.length : Int) = nx.getD pts.length z74 := rfl
    rw [if_neg (by omega), if_pos (by omega), if_pos (by omega), e]
    unfold slices_Clone_int_int.f
    have hkl : (nx.getD pts.length z74).f1.length = q + 1 := (hinv pts.length (by omega) (by omega)).len
    rw [if_pos (by omega)]
    simp only [Option.bind_some]
    rw [if_pos (by omega), w64 (x := ((q + 1 : Nat) : Int) + 1) (by omega) (by omega)]
    rfl
  | succ d ih =>
    intro t nx hd hq2 ht hnx hinv
    have htp : t ≤ pts.length := by omega
    obtain ⟨n, c, hlst⟩ := LeastQ.ex (fun s => rowN row s + C pts s t) (fun s => rowK row s ++ [(s : Int)]) (q + 1) t (by omega)
    have hbst := LeastQ.best (fun u h1 h2 => hR.at_ u h1 (by omega)) hlst
    have n1 := ih (t + 1) (nx.set t ⟨n, c⟩) (by omega) (by omega) (by omega) (by rw [List.length_set, hnx]) (fun s h1 h2 => by
      rcases Nat.lt_or_ge s t with h3 | h3
      · have := hinv s h1 h3
        unfold rowN rowK at this ⊢
        rw [getD_set_other _ _ _ _ (by omega)]
        exact this
      · obtain rfl : s = t := by omega
        unfold rowN rowK
        rw [getD_set_same _ _ _ (by omega)]
        exact hbst)
    have hin := cnt_inner hP hT hR most out t (by omega) htp nx hnx r (fun n' c' hb' => by
      obtain ⟨rfl, rfl⟩ := hbst.uniq hb'
      exact n1) _ (q + 1) (nx.getD t z74) rfl (Nat.le_refl _) (by omega) (.inl rfl)
    have es : nx.set t (nx.getD t z74) = nx := by
      rw [List.getD_eq_getElem?_getD, List.getElem?_eq_getElem (by omega)]
      exact List.set_getElem_self (by omega)
    rw [es] at hin
    refine Ev.step (fun k => ?_) hin
    simp only [segmentation_Counts.l3]
    rw [if_pos (by omega)]
theorem CB.ex (pts : List Int) : ∀ q t, q + 1 ≤ t → ∃ n c, CB pts q t n c := by
  intro q
  induction q with
  | zero => intro t ht; exact ⟨_, _, CB.zero pts (by omega)⟩
  | succ q ih =>
    intro t ht
    have hrow : ∀ s, q + 1 ≤ s → s < t → CB pts q s (if h : q + 1 ≤ s then (ih s h).choose else 0) (if h : q + 1 ≤ s then (ih s h).choose_spec.choose else []) := by
      intro s h1 _
      rw [dif_pos h1, dif_pos h1]
      exact (ih s h1).choose_spec.choose_spec
    obtain ⟨n, c, h⟩ := LeastQ.ex (fun s => (if h : q + 1 ≤ s then (ih s h).choose else 0) + C pts s t) (fun s => (if h : q + 1 ≤ s then (ih s h).choose_spec.choose else []) ++ [(s : Int)]) (q + 1) t (by omega)
    exact ⟨n, c, LeastQ.best hrow h⟩
def OOk (pts : List Int) (out : List S27) : Prop := ∀ j, j < out.length → CB pts j pts.length (out.getD j z27).f1 (out.getD j z27).f0
theorem OOk.ex (pts : List Int) (m : Nat) (hm : m ≤ pts.length) : ∃ out : List S27, out.length = m ∧ OOk pts out := by
  refine ⟨(List.range m).map fun j => if h : j + 1 ≤ pts.length then ⟨(CB.ex pts j pts.length h).choose_spec.choose, (CB.ex pts j pts.length h).choose⟩ else z27, by simp, fun j hj => ?_⟩
  have hj' : j < m := by simpa using hj
  rw [List.getD_eq_getElem?_getD, List.getElem?_map, List.getElem?_range hj']
  simp only [Option.map_some, Option.getD_some]
  rw [dif_pos (by omega : j + 1 ≤ pts.length)]
  exact (CB.ex pts j pts.length (by omega)).choose_spec.choose_spec
theorem take_snoc27 (l : List S27) (i : Nat) (h : i < l.length) : l.take (i + 1) = l.take i ++ [l.getD i z27] := by
  rw [List.take_succ_eq_append_getElem h, List.getD_eq_getElem?_getD, List.getElem?_eq_getElem h]; rfl
theorem cnt_outer {pts : List Int} (hP : Pts pts) (hne : pts ≠ []) {tb : List (List Int)} (hT : TOk pts tb) (most : Int) (h0 : 0 ≤ most) (fin : List S27) (hf : fin.length = min most.toNat (pts.length - 1) + 1) (hO : OOk pts fin) :
    ∀ (d q : Nat) (row : List S74), pts.length - q = d → q + 1 ≤ fin.length → ROk pts q row →
      Ev (fun k => segmentation_Counts.l2 k most (pts.length : Int) tb row (fin.take (q + 1)) ((q + 1 : Nat) : Int)) (fin, 0) := by
  have hl := hP.1
  have hpos : 0 < pts.length := List.length_pos_iff.2 hne
  have emn : mn most (wrap64 ((pts.length : Int) - 1)) = ((min most.toNat (pts.length - 1) : Nat) : Int) := by
    rw [w64 (x := (pts.length : Int) - 1) (by omega) (by omega)]
    unfold mn
    split <;> omega
  intro d
  induction d with
  | zero => intro q row hd hq; omega
  | succ d ih =>
    intro q row hd hq hR
    by_cases hlast : q + 1 ≤ min most.toNat (pts.length - 1)
    · have hq1 : q + 1 < pts.length := by omega
      have hmid := cnt_mid hP hT hR most (fin.take (q + 1)) (by rw [List.length_take]; omega) hq1 (fin, 0) (fun row' hR' => by
        have n1 := ih (q + 1) row' (by omega) (by omega) hR'
        rw [take_snoc27 fin (q + 1) (by omega)] at n1
        obtain ⟨e1, e2⟩ := (hO (q + 1) (by omega)).uniq (hR'.at_ pts.length (by omega) (Nat.le_refl _))
        have e3 : fin.getD (q + 1) z27 = (⟨rowK row' pts.length, rowN row' pts.length⟩ : S27) := by rw [← e1, ← e2]
        rw [e3] at n1
        exact n1) _ (q + 2) (List.replicate (pts.length + 1) z74) rfl (Nat.le_refl _) (by omega) (by simp) (fun s h1 h2 => by omega)
      refine Ev.step (fun k => ?_) hmid
      have ew : wrap64 ((pts.length : Int) + 1) = ((pts.length + 1 : Nat) : Int) := by rw [w64 (by omega) (by omega)]; rfl
      simp only [segmentation_Counts.l2]
      rw [emn, if_pos (by omega), ew, if_pos (by omega), Int.toNat_natCast, if_pos (by omega), w64 (x := ((q + 1 : Nat) : Int) + 1) (by omega) (by omega)]
      rfl
    · have e1 : min most.toNat (pts.length - 1) = q := by omega
      refine Ev.step (f := fun _ => some _) (fun k => ?_) (Ev.now _)
      simp only [segmentation_Counts.l2]
      rw [emn, e1, if_neg (by omega), List.take_of_length_le (by omega)]
theorem cnt_row {pts : List Int} (hP : Pts pts) (hne : pts ≠ []) {tb : List (List Int)} (hT : TOk pts tb) (most : Int) (r : List S27 × Int)
    (next : ∀ row, ROk pts 0 row → Ev (fun k => segmentation_Counts.l2 k most (pts.length : Int) tb row [(⟨[], C pts 0 pts.length⟩ : S27)] 1) r) :
    ∀ (d t : Nat) (row : List S74), pts.length + 1 - t = d → 1 ≤ t → t ≤ pts.length + 1 → row.length = pts.length + 1 → (∀ s, 1 ≤ s → s < t → row.getD s z74 = ⟨C pts 0 s, []⟩) →
      Ev (fun k => segmentation_Counts.l1 k most (pts.length : Int) tb row (t : Int)) r := by
  have hl := hP.1
  have htl := hT.len
  have hpos : 0 < pts.length := List.length_pos_iff.2 hne
  intro d
  induction d with
  | zero =>
    intro t row hd h1 ht hrl hinv
    obtain rfl : t = pts.length + 1 := by omega
    have hR : ROk pts 0 row := ⟨hrl, fun s h1 h2 => by
      unfold rowN rowK
      rw [hinv s (by omega) (by omega)]
      exact CB.zero pts (by omega)⟩
    refine Ev.step (fun k => ?_) (next row hR)
    simp only [segmentation_Counts.l1]
    rw [if_neg (by omega), if_pos (by omega), if_pos (by omega), rd74, hinv pts.length (by omega) (by omega)]
  | succ d ih =>
    intro t row hd h1 ht hrl hinv
    have htp : t ≤ pts.length := by omega
    have n1 := ih (t + 1) (row.set t ⟨C pts 0 t, []⟩) (by omega) (by omega) (by omega) (by rw [List.length_set, hrl]) (fun s h1 h2 => by
      rcases Nat.lt_or_ge s t with h3 | h3
      · rw [getD_set_other _ _ _ _ (by omega)]; exact hinv s h1 h3
      · obtain rfl : s = t := by omega
        exact getD_set_same _ _ _ (by omega))
    refine Ev.step (fun k => ?_) n1
    have hcost : rd (tb.getD t []) 0 = C pts 0 t := by
      rw [hT.at_ t h1 htp]
      exact costsOf_getD pts t 0 (by omega)
    have hcl : (tb.getD t []).length = t := by rw [hT.at_ t h1 htp, costsOf_length]
    simp only [segmentation_Counts.l1]
    rw [if_pos (by omega), if_pos (by omega), if_pos (by omega), rdL1, if_pos (by rw [hcl]; omega), if_pos (by omega), hcost, Int.toNat_natCast, w64 (x := (t : Int) + 1) (by omega) (by omega)]
    rfl
theorem cnt_tab {pts : List Int} (hP : Pts pts) (hne : pts ≠ []) (most : Int) (r : List S27 × Int)
    (next : ∀ tb, TOk pts tb → Ev (fun k => segmentation_Counts.l1 k most (pts.length : Int) tb (List.replicate (pts.length + 1) z74) 1) r) :
    ∀ (d t : Nat) (tb : List (List Int)), pts.length + 1 - t = d → 1 ≤ t → t ≤ pts.length + 1 → tb.length = pts.length + 1 → (∀ s, 1 ≤ s → s < t → tb.getD s [] = costsOf pts s) →
      Ev (fun k => segmentation_Counts.l0 k pts most (pts.length : Int) tb (t : Int)) r := by
  have hl := hP.1
  intro d
  induction d with
  | zero =>
    intro t tb hd h1 ht htl hinv
    obtain rfl : t = pts.length + 1 := by omega
    refine Ev.step (fun k => ?_) (next tb ⟨htl, fun s h1 h2 => hinv s h1 (by omega)⟩)
    have ew : wrap64 ((pts.length : Int) + 1) = ((pts.length + 1 : Nat) : Int) := by rw [w64 (by omega) (by omega)]; rfl
    simp only [segmentation_Counts.l0]
    rw [if_neg (by omega), ew, if_pos (by omega), Int.toNat_natCast, if_pos (by omega)]
  | succ d ih =>
    intro t tb hd h1 ht htl hinv
    have htp : t ≤ pts.length := by omega
    have n1 := ih (t + 1) (tb.set t (costsOf pts t)) (by omega) (by omega) (by omega) (by rw [List.length_set, htl]) (fun s h1 h2 => by
      rcases Nat.lt_or_ge s t with h3 | h3
      · rw [List.getD_eq_getElem?_getD, List.getElem?_set_ne (by omega), ← List.getD_eq_getElem?_getD]; exact hinv s h1 h3
      · obtain rfl : s = t := by omega
        rw [List.getD_eq_getElem?_getD, List.getElem?_set_self (by omega)]; rfl)
    refine Ev.step (fun k => ?_) (Ev.bind (f := fun (k : Nat) (t364 : List Int) => if 0 ≤ (t : Int) then (if (t : Int) < (tb.length : Int) then (segmentation_Counts.l0 k pts most (pts.length : Int) (tb.set (t : Int).toNat t364) (wrap64 ((t : Int) + 1))) else none) else none) (costs_ev pts hP t htp) (Ev.congr (fun k => ?_) n1))
    · simp only [segmentation_Counts.l0]
      rw [if_pos (by omega)]
    · rw [if_pos (by omega), if_pos (by omega), Int.toNat_natCast, w64 (x := (t : Int) + 1) (by omega) (by omega)]
      rfl
theorem counts_ev (pts : List Int) (most : Int) (h : chk pts 0 = 0) (h0 : 0 ≤ most) : ∃ out, out.length = min most.toNat (pts.length - 1) + 1 ∧ OOk pts out ∧ Ev (fun k => segmentation_Counts.f k pts most) (out, 0) := by
  obtain ⟨hP, hne, _, _⟩ := chk_ok h
  have hl := hP.1
  have hpos : 0 < pts.length := List.length_pos_iff.2 hne
  obtain ⟨fin, hf, hO⟩ := OOk.ex pts (min most.toNat (pts.length - 1) + 1) (by omega)
  refine ⟨fin, hf, hO, ?_⟩
  have ew : wrap64 ((pts.length : Int) + 1) = ((pts.length + 1 : Nat) : Int) := by rw [w64 (by omega) (by omega)]; rfl
  have e1 : fin.take 1 = [(⟨[], C pts 0 pts.length⟩ : S27)] := by
    rw [take_snoc27 fin 0 (by omega), List.take_zero, List.nil_append]
    obtain ⟨a1, a2⟩ := (hO 0 (by omega)).uniq (CB.zero pts (by omega))
    rw [show fin.getD 0 z27 = (⟨(fin.getD 0 z27).f0, (fin.getD 0 z27).f1⟩ : S27) from rfl, a1, a2]
  have main := cnt_tab hP hne most (fin, 0) (fun tb hT => cnt_row hP hne hT most (fin, 0) (fun row hR => by
    have := cnt_outer hP hne hT most h0 fin hf hO _ 0 row rfl (by omega) hR
    rw [e1] at this
    exact this) _ 1 (List.replicate (pts.length + 1) z74) rfl (Nat.le_refl _) (by omega) (by simp) (fun s h1 h2 => by omega)) _ 1 (List.replicate (pts.length + 1) []) rfl (Nat.le_refl _) (by omega) (by simp) (fun s h1 h2 => by omega)
  have hc := check_ev pts 0
  rw [h] at hc
  unfold segmentation_Counts.f
  refine Ev.bind hc ?_
  refine Ev.congr (fun k => ?_) main
  rw [if_pos rfl, if_neg (by omega), ew, if_pos (by omega), Int.toNat_natCast, if_pos (by omega)]
  rfl
theorem counts_neg (pts : List Int) (most : Int) (h : chk pts 0 = 0) (h0 : most < 0) : Ev (fun k => segmentation_Counts.f k pts most) ([], 2) := by
  have hc := check_ev pts 0
  rw [h] at hc
  unfold segmentation_Counts.f
  refine Ev.bind hc ?_
  exact Ev.congr (fun k => by rw [if_pos rfl, if_pos h0]) (Ev.now _)
theorem counts_err (pts : List Int) (most : Int) (h : chk pts 0 ≠ 0) : Ev (fun k => segmentation_Counts.f k pts most) ([], chk pts 0) := by
  have hc := check_ev pts 0
  unfold segmentation_Counts.f
  refine Ev.bind hc ?_
  exact Ev.congr (fun k => by rw [if_neg h]) (Ev.now _)
end Go.Proofs.Ytiimanpmidnffaa.Seg
