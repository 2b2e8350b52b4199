/- The law Prunes: what solve computes with pruning, the definition, and the plain statement: the printed function answers true after some number of rounds; it stands on no further condition than that the numbers of the argument fit their types. -/
import Derived.Test.YtiimanpmidnffaaSegG
import Derived.Test.YtiimanpmidnffaaQy6
import Derived.Test.YtiimanpmidnffaaSegQ
import Derived.Test.YtiimanpmidnffaaKnown
import Derived.Test.YtiimanpmidnffaaQye
import Derived.Test.YtiimanpmidnffaaQyf
namespace Go.Proofs.Ytiimanpmidnffaa.Seg
open Go.RowKit Go.Proofs.YtiimanpmidnffaaW.PrintWords Go.Proofs.YtiimanpmidnffaaW.PrintLast Go.Proofs.YtiimanpmidnffaaW.PrintMore Go.Proofs.Ytiimanpmidnffaa.Q
set_option linter.unusedVariables false
set_option linter.unusedSimpArgs false
def ci (cs : List Nat) : List Int := cs.map fun (s : Nat) => (s : Int)
theorem ci_length (cs : List Nat) : (ci cs).length = cs.length := List.length_map _
theorem ci_getD (cs : List Nat) (i : Nat) (h : i < cs.length) : (ci cs).getD i 0 = ((cs.getD i 0 : Nat) : Int) := by
  unfold ci
  rw [List.getD_eq_getElem?_getD, List.getD_eq_getElem?_getD, List.getElem?_map, List.getElem?_eq_getElem h]; rfl
theorem getD_memN {cs : List Nat} {i : Nat} (h : i < cs.length) : cs.getD i 0 ∈ cs := by
  rw [List.getD_eq_getElem?_getD, List.getElem?_eq_getElem h]; exact List.getElem_mem h
/-- s has been struck before t. -/
def gone (pts : List Int) (F : Nat → Int) (t s : Nat) : Bool := (List.range t).any fun u => decide (s < u ∧ F s + C pts s u > F u)
theorem gone_succ (pts : List Int) (F : Nat → Int) (t s : Nat) : gone pts F (t + 1) s = (gone pts F t s || decide (s < t ∧ F s + C pts s t > F t)) := by
  unfold gone
  rw [List.range_succ, List.any_append]
  simp
theorem gone_late (pts : List Int) (F : Nat → Int) (t s : Nat) (h : t ≤ s + 1) : gone pts F t s = false := by
  unfold gone
  rw [List.any_eq_false]
  intro u hu
  have := List.mem_range.1 hu
  simp
  omega
def cands (pts : List Int) (F : Nat → Int) (t : Nat) : List Nat := (List.range t).filter fun s => !gone pts F t s
theorem cands_lt {pts : List Int} {F : Nat → Int} {t s : Nat} (h : s ∈ cands pts F t) : s < t := List.mem_range.1 (List.mem_filter.1 h).1
theorem cands_len (pts : List Int) (F : Nat → Int) (t : Nat) : (cands pts F t).length ≤ t := by
  have := List.length_filter_le (fun s => !gone pts F t s) (List.range t)
  rw [List.length_range] at this
  exact this
theorem cands_pos (pts : List Int) (F : Nat → Int) (t : Nat) (h : 1 ≤ t) : 0 < (cands pts F t).length := by
  have : t - 1 ∈ cands pts F t := List.mem_filter.2 ⟨List.mem_range.2 (by omega), by rw [gone_late _ _ _ _ (by omega)]; rfl⟩
  exact List.length_pos_of_mem this
theorem cands_succ (pts : List Int) (F : Nat → Int) (t : Nat) : cands pts F (t + 1) = ((cands pts F t).filter fun s => !decide (F s + C pts s t > F t)) ++ [t] := by
  unfold cands
  rw [List.range_succ, List.filter_append, List.filter_filter]
  congr 1
  · apply List.filter_congr
    intro s hs
    have := List.mem_range.1 hs
    rw [gone_succ]
    have e : decide (s < t ∧ F s + C pts s t > F t) = decide (F s + C pts s t > F t) := by simp [this]
    rw [e, Bool.not_or, Bool.and_comm]
  · simp [gone_late]
def totc (pts : List Int) (F : Nat → Int) : Nat → Nat
  | 0 => 0
  | t + 1 => totc pts F t + (cands pts F t).length
theorem totc_bd (pts : List Int) (F : Nat → Int) : ∀ t, t ≤ 1025 → totc pts F t ≤ 1025 * t := by
  intro t
  induction t with
  | zero => intro _; exact Nat.le_refl _
  | succ t ih =>
    intro h
    have h1 := ih (by omega)
    have h2 := cands_len pts F t
    unfold totc
    omega
structure FOk (pts : List Int) (p : Int) (F : Nat → Int) : Prop where
  zero : F 0 = -p
  best : ∀ t, 1 ≤ t → t ≤ pts.length → ∃ c, Best pts p t (F t) c
theorem C_split (l : List Int) (s u t : Nat) (h1 : s ≤ u) (h2 : u ≤ t) (h3 : t ≤ l.length) : C l s u + C l u t ≤ C l s t := by
  unfold C
  have e : (l.take t).drop s = ((l.take u).drop s) ++ ((l.take t).drop u) := by
    have e1 : l.take u = (l.take t).take u := by rw [List.take_take, Nat.min_eq_left h2]
    rw [e1]
    have e2 := List.take_append_drop u (l.take t)
    have e3 : s ≤ ((l.take t).take u).length := by rw [List.length_take, List.length_take]; omega
    calc (l.take t).drop s = (((l.take t).take u) ++ ((l.take t).drop u)).drop s := by rw [e2]
      _ = _ := List.drop_append_of_le_length e3
  rw [e]
  exact cst_append _ _
theorem rowF {pts : List Int} {p : Int} {F : Nat → Int} (hF : FOk pts p F) {all : List S74} (hR : Rows pts p all) (hl : all.length ≤ pts.length + 1) (s : Nat) (hs : s < all.length) : rowN all s = F s := by
  rcases hR s hs with ⟨e, h, _⟩ | h
  · subst e; rw [hF.zero]; exact h
  · have h1 := h.cut.pos
    obtain ⟨c, hb⟩ := hF.best s h1 (by omega)
    exact (h.uniq hb).1
def LeastL (pts : List Int) (p : Int) (t : Nat) (all : List S74) (ls : List Nat) (n : Int) (c : List Int) : Prop :=
  (∃ s, s ∈ ls ∧ n = cN pts p t all s ∧ c = cK all s) ∧ ∀ s, s ∈ ls → ¬ kl (cN pts p t all s) (cK all s) n c
theorem best_pruned {pts : List Int} {p : Int} {F : Nat → Int} {all : List S74} {t : Nat} {asked : Int} (g : Rnd pts p all t asked) (hrow : ∀ s, s < t → rowN all s = F s) {n : Int} {c : List Int} (h : LeastL pts p t all (cands pts F t) n c) : Best pts p t n c := by
  obtain ⟨m, d, hl⟩ := Least.ex (pts := pts) (p := p) (t := t) (all := all) t g.one
  have hb := hl.best g
  obtain ⟨⟨u, hu, e1, e2⟩, hm⟩ := hl
  have hmem : u ∈ cands pts F t := by
    refine List.mem_filter.2 ⟨List.mem_range.2 hu, ?_⟩
    cases hg : gone pts F t u with
    | false => rfl
    | true =>
      obtain ⟨v, hv, hd⟩ := List.any_eq_true.1 hg
      have hv' := List.mem_range.1 hv
      obtain ⟨h1, h2⟩ := of_decide_eq_true hd
      have a1 := hm v hv'
      have a2 : m ≤ cN pts p t all v := by
        rcases Int.lt_or_le (cN pts p t all v) m with h3 | h3
        · exact absurd (Or.inl h3) a1
        · exact h3
      have a3 := C_split pts u v t (by omega) (by omega) g.top
      have a4 : cN pts p t all v = F v + p + C pts v t := by unfold cN candN; rw [hrow v hv']
      have a5 : cN pts p t all u = F u + p + C pts u t := by unfold cN candN; rw [hrow u hu]
      omega
  obtain ⟨⟨s, hs, f1, f2⟩, hm2⟩ := h
  rcases kl_total n m c d with h3 | ⟨rfl, rfl⟩ | h3
  · exact absurd (by rw [f1, f2] at h3; exact h3) (hm s (cands_lt hs))
  · exact hb
  · exact absurd (by rw [e1, e2] at h3; exact h3) (hm2 u hmem)
theorem LeastL.first (pts : List Int) (p : Int) (t : Nat) (all : List S74) (s : Nat) : LeastL pts p t all [s] (cN pts p t all s) (cK all s) :=
  ⟨⟨s, List.mem_singleton.2 rfl, rfl, rfl⟩, fun u hu => by rw [List.mem_singleton.1 hu]; exact kl_irr _ _⟩
theorem LeastL.take {pts : List Int} {p : Int} {t : Nat} {all : List S74} {ls : List Nat} {n : Int} {c : List Int} (h : LeastL pts p t all ls n c) (s : Nat) (hk : kl (cN pts p t all s) (cK all s) n c) : LeastL pts p t all (ls ++ [s]) (cN pts p t all s) (cK all s) := by
  refine ⟨⟨s, by simp, rfl, rfl⟩, fun u hu => ?_⟩
  rcases List.mem_append.1 hu with hu | hu
  · intro h4; exact h.2 u hu (kl_trans h4 hk)
  · rw [List.mem_singleton.1 hu]; exact kl_irr _ _
theorem LeastL.pass {pts : List Int} {p : Int} {t : Nat} {all : List S74} {ls : List Nat} {n : Int} {c : List Int} (h : LeastL pts p t all ls n c) (s : Nat) (hk : ¬ kl (cN pts p t all s) (cK all s) n c) : LeastL pts p t all (ls ++ [s]) n c := by
  obtain ⟨⟨u, hu, e1, e2⟩, hm⟩ := h
  refine ⟨⟨u, by simp [hu], e1, e2⟩, fun v hv => ?_⟩
  rcases List.mem_append.1 hv with hv | hv
  · exact hm v hv
  · rw [List.mem_singleton.1 hv]; exact hk
theorem take_snocN (l : List Nat) (i : Nat) (h : i < l.length) : l.take (i + 1) = l.take i ++ [l.getD i 0] := by
  rw [List.take_succ_eq_append_getElem h, List.getD_eq_getElem?_getD, List.getElem?_eq_getElem h]; rfl
theorem pr_inner {pts : List Int} {p : Int} {all : List S74} {t : Nat} {asked : Int} (g : Rnd pts p all t asked) (cs : List Nat) (hcs : ∀ s ∈ cs, s < t) (hcl : cs.length ≤ t) (hne : 0 < cs.length) (r : (List S74) × Int)
    (next : ∀ n c, LeastL pts p t all cs n c → Ev (fun k => segmentation_solve.l1 k pts p true (ci cs) (asked + (cs.length : Int)) (t : Int) (cs.length : Int) (cs.length : Int) all (costsOf pts t) n c) r) :
    ∀ (d i : Nat) (n : Int) (c : List Int), cs.length - i = d → i ≤ cs.length → (i = 0 ∨ LeastL pts p t all (cs.take i) n c) →
      Ev (fun k => segmentation_solve.l1 k pts p true (ci cs) (asked + (i : Int)) (t : Int) (cs.length : Int) (i : Int) all (costsOf pts t) n c) r := by
  have hlen := g.len
  intro d
  induction d with
  | zero =>
    intro i n c hd hi hinv
    obtain rfl : i = cs.length := by omega
    rcases hinv with h | h
    · omega
    · rw [List.take_of_length_le (Nat.le_refl _)] at h
      exact next n c h
  | succ d ih =>
    intro i n c hd hi hinv
    have hil : i < cs.length := by omega
    have hs := hcs _ (getD_memN hil)
    have hrd : rd (ci cs) (i : Int) = ((cs.getD i 0 : Nat) : Int) := by rw [rdn, ci_getD cs i hil]
    have htk := take_snocN cs i hil
    generalize cs.getD i 0 = s at hs hrd htk
    have hd2 : cs.length - (i + 1) = d := by omega
    have hi2 : i + 1 ≤ cs.length := by omega
    have q1 : (i : Int) < (cs.length : Int) := by omega
    have q2 : (0 : Int) ≤ (i : Int) := by omega
    have q3 : (s : Int) < (all.length : Int) := by omega
    have q4 : (0 : Int) ≤ (s : Int) := by omega
    have q5 : (s : Int) < (t : Int) := by omega
    have q6 : (i : Int) < ((ci cs).length : Int) := by rw [ci_length]; omega
    have q7 : i ≠ 0 → (i : Int) > 0 := by omega
    have q8 : i ≠ 0 → ¬ ((i : Int) = 0) := by omega
    have hit : i < t := by omega
    have e1 := g.asks (i := i) hit
    have e2 := g.ix (i := i) hit
    have e3 := g.cost hs
    have e4 := g.sum hs
    have e5 := g.after hs
    have ea : (rd_T74 all (s : Int)).f0 = rowN all s := rfl
    have eb : (rd_T74 all (s : Int)).f1 = rowK all s := rfl
    have j3t : ∀ (A : Int) (b : Bool), (b = true → LeastL pts p t all (cs.take (i + 1)) (cN pts p t all s) (cK all s)) → (b = false → LeastL pts p t all (cs.take (i + 1)) n c) →
        Ev (fun k => segmentation_solve.j3 k pts p true (ci cs) (asked + ((i + 1 : Nat) : Int)) (t : Int) (cs.length : Int) (i : Int) b all (costsOf pts t) n c (cN pts p t all s) (cK all s)) r := by
      intro A b h1 h2
      cases b with
      | true =>
        refine Ev.step (fun k => ?_) (ih (i + 1) _ _ hd2 hi2 (.inr (h1 rfl)))
        simp only [segmentation_solve.j3]
        rw [if_pos trivial, e2]
      | false =>
        refine Ev.step (fun k => ?_) (ih (i + 1) _ _ hd2 hi2 (.inr (h2 rfl)))
        simp only [segmentation_solve.j3]
        rw [if_neg (by decide), e2]
    by_cases hz : i = 0
    · have h0 : cs.take (i + 1) = [s] := by rw [htk, hz]; rfl
      have hj : Ev (fun k => segmentation_solve.j2 k pts p true (ci cs) (asked + ((i + 1 : Nat) : Int)) (t : Int) (i : Int) (s : Int) (cs.length : Int) (i : Int) false all (costsOf pts t) n c) r := by
        refine Ev.step (fun k => ?_) (j3t 0 true (fun _ => by rw [h0]; exact LeastL.first _ _ _ _ _) (fun h => by cases h))
        simp only [segmentation_solve.j2, costsOf_length]
        rw [if_neg (by decide), if_pos q4, if_pos q3, if_pos q5, e3, ea, eb, e5]
        simp only [Option.bind_some]
        rw [if_pos (by rw [hz]; rfl)]
      refine Ev.step (fun k => ?_) hj
      simp only [segmentation_solve.l1]
      rw [if_pos q1, if_pos q2, if_pos q6, if_neg (by rw [hz]; decide), e1, hrd]
    · rcases hinv with h | h
      · exact absurd h hz
      have enter : ∀ b : Bool, b = decide (cN pts p t all s > n) → Ev (fun k => segmentation_solve.j2 k pts p true (ci cs) (asked + ((i + 1 : Nat) : Int)) (t : Int) (i : Int) (s : Int) (cs.length : Int) (i : Int) b all (costsOf pts t) n c) r →
          Ev (fun k => segmentation_solve.l1 k pts p true (ci cs) (asked + (i : Int)) (t : Int) (cs.length : Int) (i : Int) all (costsOf pts t) n c) r := by
        intro b eb2 hb
        refine Ev.step (fun k => ?_) hb
        simp only [segmentation_solve.l1]
        rw [if_pos q1, if_pos q2, if_pos q6, if_pos (q7 hz), hrd, if_pos q4, if_pos q3, costsOf_length, if_pos q5, ea, e3, e4, e1, ← eb2]
      by_cases hsk : cN pts p t all s > n
      · have hp : ¬ kl (cN pts p t all s) (cK all s) n c := by rintro (h4 | ⟨h4, _⟩) <;> omega
        refine enter true (decide_eq_true hsk).symm (Ev.step (fun k => ?_) (ih (i + 1) n c hd2 hi2 (.inr (by rw [htk]; exact h.pass s hp))))
        simp only [segmentation_solve.j2]
        rw [if_pos trivial, e2]
      · obtain ⟨b, hev, hbt⟩ := better_ev (cN pts p t all s) (cK all s) n c (by have := cK_len g hs; omega)
        refine enter false (decide_eq_false hsk).symm (Ev.step (fun k => ?_) (Ev.bind (f := fun k b => segmentation_solve.j3 k pts p true (ci cs) (asked + ((i + 1 : Nat) : Int)) (t : Int) (cs.length : Int) (i : Int) b all (costsOf pts t) n c (cN pts p t all s) (cK all s)) hev (j3t 0 b (fun hb => by rw [htk]; exact h.take s (hbt.1 hb)) (fun hb => by rw [htk]; exact h.pass s (fun hk => by rw [hbt.2 hk] at hb; cases hb)))))
        simp only [segmentation_solve.j2, costsOf_length]
        rw [if_neg (by decide), if_pos q4, if_pos q3, if_pos q5, e3, ea, eb, e5]
        simp only [Option.bind_some]
        rw [if_neg (q8 hz)]
theorem prn_eq {pts : List Int} {p : Int} {F : Nat → Int} {all : List S74} {t : Nat} {asked : Int} (g : Rnd pts p all t asked) (hrow : ∀ s, s < t → rowN all s = F s) (cs : List Nat) (hcs : ∀ s ∈ cs, s < t) (e : S74) :
    prn (ci cs) (all ++ [e]) (costsOf pts t) (F t) = ci (cs.filter fun s => !decide (F s + C pts s t > F t)) := by
  unfold prn ci
  rw [List.filter_map]
  congr 1
  apply List.filter_congr
  intro s hs
  have hst := hcs s hs
  have hlen := g.len
  have h1 := g.bds hst
  have h2 := g.C hst
  have e1 : (rd_T74 (all ++ [e]) (s : Int)).f0 = F s := by
    rw [← hrow s hst]
    unfold rd_T74 rowN
    rw [Int.toNat_natCast, List.getD_eq_getElem?_getD, List.getElem?_append_left (by omega), ← List.getD_eq_getElem?_getD]
  have e2 : rd (costsOf pts t) (s : Int) = C pts s t := g.cost hst
  show (!decide (wrap64 ((rd_T74 (all ++ [e]) (s : Int)).f0 + rd (costsOf pts t) (s : Int)) > F t)) = _
  rw [e1, e2, w64 (by rw [← hrow s hst]; omega) (by rw [← hrow s hst]; omega)]
theorem solveP_ev (pts : List Int) (p : Int) (hP : Pts pts) (h0 : 0 ≤ p) (h1 : p ≤ 1099511627776) (F : Nat → Int) (hF : FOk pts p F) : ∃ (all : List S74), Ev (fun k => segmentation_solve.f k pts p true) (all, (totc pts F (pts.length + 1) : Int)) ∧ all.length = pts.length + 1 ∧ Rows pts p all := by
  have hl := hP.1
  have main : ∀ (d t : Nat) (all : List S74), pts.length + 1 - t = d → 1 ≤ t → t ≤ pts.length + 1 → all.length = t → Rows pts p all →
      ∃ (all' : List S74), Ev (fun k => segmentation_solve.l0 k pts p true (ci (cands pts F t)) (totc pts F t : Int) (t : Int) all) (all', (totc pts F (pts.length + 1) : Int)) ∧ all'.length = pts.length + 1 ∧ Rows pts p all' := by
    intro d
    induction d with
    | zero =>
      intro t all hd ht ht2 hlen hrows
      obtain rfl : t = pts.length + 1 := by omega
      refine ⟨all, Ev.step (f := fun _ => some _) (fun k => ?_) (Ev.now _), by omega, hrows⟩
      simp only [segmentation_solve.l0]
      rw [if_neg (by omega)]
    | succ d ih =>
      intro t all hd ht ht2 hlen hrows
      have htp : t ≤ pts.length := by omega
      have htb := totc_bd pts F t (by omega)
      have g : Rnd pts p all t (totc pts F t : Int) := ⟨hP, h0, h1, hrows, hlen, ht, htp, by omega, by omega⟩
      have hrow : ∀ s, s < t → rowN all s = F s := fun s hs => rowF hF hrows (by omega) s (by omega)
      obtain ⟨c, hbest⟩ := hF.best t ht htp
      obtain ⟨all', hev, h2, h3⟩ := ih (t + 1) (all ++ [(⟨F t, c⟩ : S74)]) (by omega) (by omega) (by omega) (by rw [List.length_append, List.length_singleton]; omega) (hrows.snoc (by rw [hlen]; exact hbest))
      refine ⟨all', ?_, h2, h3⟩
      have hcl := cands_len pts F t
      have hin := pr_inner g (cands pts F t) (fun s hs => cands_lt hs) hcl (cands_pos pts F t ht) (all', (totc pts F (pts.length + 1) : Int)) (fun n' c' hb' => by
        obtain ⟨rfl, rfl⟩ := hbest.uniq (best_pruned g hrow hb')
        refine Ev.step (fun k => ?_) hev
        have eall : ((ci (cands pts F t)).all fun s => decide (0 ≤ s ∧ s < ((all ++ [(⟨F t, c⟩ : S74)]).length : Int) ∧ s < ((costsOf pts t).length : Int))) = true := by
          rw [List.all_eq_true]
          intro x hx
          obtain ⟨s, hs, rfl⟩ := List.mem_map.1 hx
          have := cands_lt hs
          rw [List.length_append, List.length_singleton, costsOf_length]
          exact decide_eq_true ⟨by omega, by omega, by omega⟩
        have eprn := prn_eq g hrow (cands pts F t) (fun s hs => cands_lt hs) (⟨F t, c⟩ : S74)
        have elen : (ci ((cands pts F t).filter fun s => !decide (F s + C pts s t > F t))).length < 17592186044416 := by
          rw [ci_length]
          have := List.length_filter_le (fun s => !decide (F s + C pts s t > F t)) (cands pts F t)
          omega
        have esnoc : ci ((cands pts F t).filter fun s => !decide (F s + C pts s t > F t)) ++ [(t : Int)] = ci (cands pts F (t + 1)) := by
          rw [cands_succ]; unfold ci; rw [List.map_append]; rfl
        have eask : (totc pts F t : Int) + ((cands pts F t).length : Int) = ((totc pts F (t + 1) : Nat) : Int) := by
          show _ = ((totc pts F t + (cands pts F t).length : Nat) : Int); omega
        simp only [segmentation_solve.l1]
        rw [if_neg (Int.lt_irrefl _), if_pos (by omega), if_pos trivial, if_pos (by rw [ci_length]; exact cands_pos pts F t ht), if_pos eall, eprn, if_pos elen, esnoc, eask, w64 (x := (t : Int) + 1) (by omega) (by omega)]
        rfl) _ 0 0 [] rfl (Nat.zero_le _) (.inl rfl)
      have := Ev.bind (f := fun k t178 => segmentation_solve.l1 k pts p true (ci (cands pts F t)) (totc pts F t : Int) (t : Int) ((ci (cands pts F t)).length : Int) 0 all t178 0 []) (costs_ev pts hP t htp) (by simpa [ci_length] using hin)
      refine Ev.step (fun k => ?_) this
      simp only [segmentation_solve.l0]
      rw [if_pos (by omega)]
  have e0 : wrap64 (-p) = -p := w64 (by omega) (by omega)
  have ec : ci (cands pts F 1) = [0] := by
    have : cands pts F 1 = [0] := by
      unfold cands
      simp [List.range_succ, gone_late]
    rw [this]; rfl
  have et : totc pts F 1 = 0 := by simp [totc, cands]
  obtain ⟨all, hev, h2, h3⟩ := main (pts.length + 1 - 1) 1 [(⟨-p, []⟩ : S74)] rfl (by omega) (by omega) rfl (fun s hs => by
    cases (show s = 0 by rw [List.length_singleton] at hs; omega)
    exact .inl ⟨rfl, rfl, rfl⟩)
  rw [ec, et] at hev
  refine ⟨all, Ev.congr (fun k => ?_) hev, h2, h3⟩
  unfold segmentation_solve.f
  rw [e0]
  rfl
def cnt (pts : List Int) (F : Nat → Int) (t s : Nat) : Nat := ((List.range s).filter fun u => !gone pts F t u).length
theorem cnt_succ (pts : List Int) (F : Nat → Int) (t s : Nat) : cnt pts F t (s + 1) = cnt pts F t s + (if gone pts F t s = true then 0 else 1) := by
  unfold cnt
  rw [List.range_succ, List.filter_append, List.length_append]
  cases h : gone pts F t s <;> simp [h]
theorem cnt_le (pts : List Int) (F : Nat → Int) (t s : Nat) : cnt pts F t s ≤ s := by
  have := List.length_filter_le (fun u => !gone pts F t u) (List.range s)
  rw [List.length_range] at this
  exact this
theorem cnt_all (pts : List Int) (F : Nat → Int) (t : Nat) : cnt pts F t t = (cands pts F t).length := rfl
structure GL (pts : List Int) (F : Nat → Int) (t s : Nat) (gl : List Bool) : Prop where
  len : gl.length = 10
  at_ : ∀ u, u < 10 → gl.getD u false = if u < s then gone pts F (t + 1) u else gone pts F t u
theorem getD_set_sameB (xs : List Bool) (i : Nat) (e : Bool) (h : i < xs.length) : (xs.set i e).getD i false = e := by
  rw [List.getD_eq_getElem?_getD, List.getElem?_set_self h]; rfl
theorem getD_set_otherB (xs : List Bool) (i j : Nat) (e : Bool) (h : i ≠ j) : (xs.set i e).getD j false = xs.getD j false := by
  rw [List.getD_eq_getElem?_getD, List.getElem?_set_ne h, ← List.getD_eq_getElem?_getD]
theorem F_bd {l : List Int} {p : Int} {F : Nat → Int} (hP : Pts l) (h0 : 0 ≤ p) (h1 : p ≤ 1099511627776) (hn : l.length ≤ 9) (hF : FOk l p F) (s : Nat) (hs : s ≤ l.length) : -1099511627776 ≤ F s ∧ F s ≤ 29686813949952 := by
  rcases Nat.eq_zero_or_pos s with rfl | hp
  · rw [hF.zero]; omega
  · obtain ⟨c, hB⟩ := hF.best s hp hs
    have := Cut.bd hP.2 h0 h1 hB.cut
    omega
theorem wsucc (a b : Nat) (h : a + b ≤ 100000000) : wrap64 (((a + b : Nat) : Int) + 1) = ((a + b + 1 : Nat) : Int) := by rw [w64 (by omega) (by omega)]; omega
theorem rp_inner {l : List Int} {p : Int} {F : Nat → Int} (hP : Pts l) (h0 : 0 ≤ p) (h1 : p ≤ 1099511627776) (hn : l.length ≤ 9) (hF : FOk l p F) (f : List Int) (hfl : f.length = l.length + 1) (hfF : ∀ s, s ≤ l.length → f.getD s 0 = F s) (t : Nat) (ht1 : 1 ≤ t) (ht : t ≤ l.length) (r : Int)
    (next : ∀ gl, GL l F t t gl → Ev (fun k => sleuthlaw44_pruned.l0 k l f ((totc l F t + cnt l F t t : Nat) : Int) ((t + 1 : Nat) : Int) gl) r) :
    ∀ (d s : Nat) (gl : List Bool), t - s = d → s ≤ t → GL l F t s gl → Ev (fun k => sleuthlaw44_pruned.l1 k l f ((totc l F t + cnt l F t s : Nat) : Int) (t : Int) (s : Int) gl) r := by
  intro d
  induction d with
  | zero =>
    intro s gl hd hs hg
    obtain rfl : s = t := by omega
    have ew1 : wrap64 ((s : Int) + 1) = ((s + 1 : Nat) : Int) := by rw [w64 (by omega) (by omega)]; omega
    refine Ev.step (fun k => ?_) (next gl hg)
    simp only [sleuthlaw44_pruned.l1]
    rw [if_neg (Int.lt_irrefl _), ew1]
  | succ d ih =>
    intro s gl hd hs hg
    have hst : s < t := by omega
    have hd2 : t - (s + 1) = d := by omega
    have hs2 : s + 1 ≤ t := by omega
    have q1 : (s : Int) < (t : Int) := by omega
    have q2 : (0 : Int) ≤ (s : Int) := by omega
    have q3 : (s : Int) < 10 := by omega
    have q4 : (s : Int) < (f.length : Int) := by omega
    have q5 : (s : Int) ≤ (t : Int) := by omega
    have q6 : (t : Int) ≤ (l.length : Int) := by omega
    have q7 : (0 : Int) ≤ (t : Int) := by omega
    have q8 : (t : Int) < (f.length : Int) := by omega
    have hs10 : s < 10 := by omega
    have hb1 : 1025 * t + s ≤ 100000000 := by omega
    have hb2 : t ≤ 1025 := by omega
    have ew1 : wrap64 ((s : Int) + 1) = ((s + 1 : Nat) : Int) := by rw [w64 (by omega) (by omega)]; omega
    have ew2 := wsucc (totc l F t) (cnt l F t s) (Nat.le_trans (Nat.add_le_add (totc_bd l F t hb2) (cnt_le l F t s)) hb1)
    have hgs : gl.getD s false = gone l F t s := by rw [hg.at_ s hs10, if_neg (Nat.lt_irrefl _)]
    have hrd : rdb gl (s : Int) = gone l F t s := by unfold rdb; rw [Int.toNat_natCast, hgs]
    cases hgone : gone l F t s with
    | true =>
      have hg2 : GL l F t (s + 1) gl := ⟨hg.len, fun u hu => by
        rw [hg.at_ u hu]
        by_cases h3 : u < s
        · rw [if_pos h3, if_pos (by omega)]
        · by_cases h4 : u = s
          · subst h4
            rw [if_neg h3, if_pos (by omega), gone_succ, hgone]; rfl
          · rw [if_neg h3, if_neg (by omega)]⟩
      have n1 := ih (s + 1) gl hd2 hs2 hg2
      rw [cnt_succ, hgone, if_pos rfl, Nat.add_zero] at n1
      refine Ev.step (fun k => ?_) n1
      simp only [sleuthlaw44_pruned.l1]
      rw [if_pos q1, if_pos q2, if_pos q3, hrd, hgone, if_pos rfl, ew1]
    | false =>
      have hne : (l.take t).drop s ≠ [] := by
        intro e
        have := congrArg List.length e
        rw [List.length_drop, List.length_take, List.length_nil] at this
        omega
      have hPP : Pts ((l.take t).drop s) := ⟨by rw [List.length_drop, List.length_take]; omega, fun x hx => hP.2 x (List.mem_of_mem_take (List.mem_of_mem_drop hx))⟩
      have hc := rcost_ev _ hPP hne
      have b1 := F_bd hP h0 h1 hn hF s (by omega)
      have b2 := C_bd l hP.2 s t
      have b3 := C_nonneg l s t
      have b4 : 2199023255552 * ((t - s : Nat) : Int) ≤ 19791209299968 := by omega
      have ew : wrap64 (F s + C l s t) = F s + C l s t := w64 (by omega) (by omega)
      have ef1 : rd f (s : Int) = F s := by rw [rdn, hfF s (by omega)]
      have ef2 : rd f (t : Int) = F t := by rw [rdn, hfF t ht]
      have hgn : gone l F (t + 1) s = decide (F s + C l s t > F t) := by
        rw [gone_succ, hgone, Bool.false_or]
        simp [hst]
      have hg2 : GL l F t (s + 1) (gl.set s (decide (F s + C l s t > F t))) := ⟨by rw [List.length_set]; exact hg.len, fun u hu => by
        by_cases h4 : u = s
        · subst h4
          rw [getD_set_sameB _ _ _ (by rw [hg.len]; exact hu), if_pos (by omega), hgn]
        · rw [getD_set_otherB _ _ _ _ (by omega), hg.at_ u hu]
          by_cases h3 : u < s
          · rw [if_pos h3, if_pos (by omega)]
          · rw [if_neg h3, if_neg (by omega)]⟩
      have n1 := ih (s + 1) _ hd2 hs2 hg2
      rw [cnt_succ, hgone, if_neg (by decide), ← Nat.add_assoc] at n1
      refine Ev.step (fun k => ?_) (Ev.bind (f := fun (k : Nat) (c : Int) => sleuthlaw44_pruned.l1 k l f ((totc l F t + cnt l F t s + 1 : Nat) : Int) (t : Int) ((s + 1 : Nat) : Int) (gl.set s (decide (wrap64 (F s + c) > F t)))) hc ?_)
      · simp only [sleuthlaw44_pruned.l1]
        rw [if_pos q1, if_pos q2, if_pos q3, hrd, hgone, if_neg (by decide), if_pos q4, if_pos q5, if_pos q6, ef1, ef2, ew1, ew2, Int.toNat_natCast, Int.toNat_natCast]
        simp only [if_pos q2, if_pos q7, if_pos q8]
      · have : cst ((l.take t).drop s) = C l s t := rfl
        rw [this, ew]
        exact n1
theorem rp_outer {l : List Int} {p : Int} {F : Nat → Int} (hP : Pts l) (h0 : 0 ≤ p) (h1 : p ≤ 1099511627776) (hn : l.length ≤ 9) (hF : FOk l p F) (f : List Int) (hfl : f.length = l.length + 1) (hfF : ∀ s, s ≤ l.length → f.getD s 0 = F s) :
    ∀ (d t : Nat) (gl : List Bool), l.length + 1 - t = d → 1 ≤ t → t ≤ l.length + 1 → GL l F t 0 gl → Ev (fun k => sleuthlaw44_pruned.l0 k l f ((totc l F t : Nat) : Int) (t : Int) gl) ((totc l F (l.length + 1) : Nat) : Int) := by
  intro d
  induction d with
  | zero =>
    intro t gl hd ht1 ht hg
    obtain rfl : t = l.length + 1 := by omega
    refine Ev.step (f := fun _ => some _) (fun k => ?_) (Ev.now _)
    simp only [sleuthlaw44_pruned.l0]
    rw [if_neg (by omega)]
  | succ d ih =>
    intro t gl hd ht1 ht hg
    have htp : t ≤ l.length := by omega
    have hd2 : l.length + 1 - (t + 1) = d := by omega
    have hin := rp_inner hP h0 h1 hn hF f hfl hfF t ht1 htp ((totc l F (l.length + 1) : Nat) : Int) (fun gl' hg' => by
      have := ih (t + 1) gl' hd2 (by omega) (by omega) ⟨hg'.len, fun u hu => by
        rw [hg'.at_ u hu, if_neg (Nat.not_lt_zero _)]
        by_cases h3 : u < t
        · rw [if_pos h3]
        · rw [if_neg h3, gone_late _ _ _ _ (by omega), gone_late _ _ _ _ (by omega)]⟩
      exact this) _ 0 gl rfl (Nat.zero_le _) hg
    have e0 : cnt l F t 0 = 0 := rfl
    rw [e0, Nat.add_zero] at hin
    refine Ev.step (fun k => ?_) hin
    simp only [sleuthlaw44_pruned.l0]
    rw [if_pos (by omega)]
    rfl
theorem fok_of {l : List Int} {p : Int} {f : List Int} (hf : IsPot l p f) : FOk l p (fun s => f.getD s 0) := ⟨hf.2.1, fun t h1 h2 => hf.2.2 t h1 h2⟩
theorem rpruned_ev (l : List Int) (p : Int) (h : chk l p = 0) (hn : l.length ≤ 9) (f : List Int) (hf : IsPot l p f) : Ev (fun k => sleuthlaw44_pruned.f k l p) ((totc l (fun s => f.getD s 0) (l.length + 1) : Nat) : Int) := by
  obtain ⟨hP, hl, h0, h1⟩ := chk_ok h
  have hr := rpot_ev l p h (by omega) f hf
  unfold sleuthlaw44_pruned.f
  refine Ev.bind hr ?_
  have := rp_outer hP h0 h1 hn (fok_of hf) f hf.1 (fun _ _ => rfl) _ 1 (List.replicate 10 false) rfl (Nat.le_refl _) (by omega) ⟨by simp, fun u hu => by
    rw [if_neg (Nat.not_lt_zero _), gone_late _ _ _ _ (by omega), List.getD_eq_getElem?_getD, List.getElem?_replicate]
    simp [hu]⟩
  have et : totc l (fun s => f.getD s 0) 1 = 0 := by simp [totc, cands]
  rw [et] at this
  exact this
theorem pruned_ev (l : List Int) (p : Int) (h : chk l p = 0) (F : Nat → Int) (hF : FOk l p F) : ∃ n c, Best l p l.length n c ∧ Ev (fun k => segmentation_Pruned.f k l p) (c, n, ((totc l F (l.length + 1) : Nat) : Int), 0) := by
  obtain ⟨hP, hl, h0, h1⟩ := chk_ok h
  have hll := hP.1
  obtain ⟨all, hev, h2, h3⟩ := solveP_ev l p hP h0 h1 F hF
  have h4 : Row l p l.length (all.getD l.length z74).f0 (all.getD l.length z74).f1 := h3 l.length (by omega)
  rcases h4 with ⟨e, _, _⟩ | h4
  · exact absurd (List.length_eq_zero_iff.1 e) hl
  · have h5 := h4.cut.len
    refine ⟨_, _, h4, ?_⟩
    have e : all.length - 1 = l.length := by omega
    have hc := check_ev l p
    rw [h] at hc
    unfold segmentation_Pruned.f
    refine Ev.bind hc ?_
    simp only [if_true]
    refine Ev.bind hev ?_
    refine Ev.congr (fun k => ?_) (Ev.now _)
    rw [segm_eq all (by intro e; subst e; simp at h2) (by omega) (by rw [e]; omega), e]
    rfl
theorem lawPrunes (l0 : List Int) (a1 : Int) (h0 : ∀ x ∈ l0, 0 ≤ x ∧ x ≤ 255) (h1 : 0 ≤ a1 ∧ a1 ≤ 255) : Ev (fun k => sleuthlaw44_SegmentationPrunes.f k l0 a1) true := by
  have hp := pen_eq h1
  have hc := chk_pnts l0 (p := a1 % 64) (by omega) (by omega)
  have hlen := (pnts_ok l0).2.1
  obtain ⟨f, hF, _⟩ := pot_ev _ _ hc
  have hr := rpruned_ev _ _ hc hlen f hF
  obtain ⟨n, c, hB, hb⟩ := pruned_ev _ _ hc _ (fok_of hF)
  have hrb := rbest_all _ _ hc (Nat.le_trans hlen (by decide)) hB
  have hcl := hB.cut.len
  have hs := same_true c (by omega)
  unfold sleuthlaw44_SegmentationPrunes.f
  rw [hp]
  refine Ev.bind known_ev ?_
  simp only [if_true]
  refine Ev.bind (points_ev l0 h0) (Ev.bind hb (Ev.bind hrb ?_))
  simp only [if_true]
  refine Ev.bind hs ?_
  simp only [if_true]
  refine Ev.bind hr ?_
  exact Ev.congr (fun k => by simp) (Ev.now true)
end Go.Proofs.Ytiimanpmidnffaa.Seg
namespace Go.Proofs.Ytiimanpmidnffaa.Pure
open Go.RowKit Go.Proofs.Ytiimanpmidnffaa.Q
set_option linter.unusedVariables false
theorem SegmentationPrunes (l : List Int) (a : Int) (hm : l.length ≤ maxLen) (y : l.length * 1 ≤ 140737488351232) (hw : ∀ x ∈ l, (Lit.int .u8 x).wf = true) (wa : (Lit.int .u8 a).wf = true) :
    ∃ k, sleuthlaw44_SegmentationPrunes.f k l a = some true := (Seg.lawPrunes l a (fun x hx => Seg.u8_bd (hw x hx)) (Seg.u8_bd wa)).rounds
end Go.Proofs.Ytiimanpmidnffaa.Pure
