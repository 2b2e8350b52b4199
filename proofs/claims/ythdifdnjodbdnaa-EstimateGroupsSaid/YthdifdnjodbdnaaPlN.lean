/- Plain laws of layer 25: by answers the lines; same of one list with itself. -/
import Derived.Test.YthdifdnjodbdnaaPlM
import Derived.Test.YthdifdnjodbdnaaQgBy2
namespace Go.Proofs.Ythdifdnjodbdnaa.Pl
open Go.RowKit Go.Proofs.YthdifdnjodbdnaaW.PrintWords Go.Proofs.YthdifdnjodbdnaaW.PrintLast Go.Proofs.YthdifdnjodbdnaaW.PrintMore Go.Proofs.Ythdifdnjodbdnaa.Q Go.Proofs.Ythdifdnjodbdnaa.RowS
open Srt (Asc cL cG)
set_option linter.unusedVariables false
set_option linter.unusedSimpArgs false
set_option linter.unusedSimpArgs false
theorem asc_at {M : List S41} (h : Asc M) {p q : Nat} (hq : q < M.length) (hpq : p < q) : cG (M[p]'(by omega)).f0 M[q].f0 < 0 := List.pairwise_iff_getElem.1 h p q (by omega) hq hpq
/-- A line laid at its place. -/
theorem ins_asc {M : List S41} (hA : Asc M) (x : S41) (n : Nat) (hn : n ≤ M.length) (h1 : ∀ p (hp : p < M.length), n ≤ p → cG x.f0 M[p].f0 < 0) (h2 : ∀ h : 0 < n, cG (M[n - 1]'(by omega)).f0 x.f0 < 0) : Asc (M.take n ++ [x] ++ M.drop n) := by
  have lo : ∀ a ∈ M.take n, cL a x < 0 := by
    intro a ha
    obtain ⟨p, hp, rfl⟩ := List.getElem_of_mem ha
    rw [List.length_take] at hp
    rw [List.getElem_take]
    have h0 : 0 < n := by omega
    by_cases e : p = n - 1
    · subst e; exact h2 h0
    · exact Srt.cG_trans (asc_at hA (p := p) (q := n - 1) (by omega) (by omega)) (h2 h0)
  have hi : ∀ b ∈ M.drop n, cL x b < 0 := by
    intro b hb
    obtain ⟨q, hq, rfl⟩ := List.getElem_of_mem hb
    rw [List.length_drop] at hq
    rw [List.getElem_drop]
    exact h1 _ (by omega) (by omega)
  unfold Asc
  rw [List.pairwise_append, List.pairwise_append]
  refine ⟨⟨hA.take, List.pairwise_singleton _ _, fun a ha b hb => ?_⟩, hA.drop, fun a ha b hb => ?_⟩
  · rw [List.mem_singleton.1 hb]; exact lo a ha
  · rcases List.mem_append.1 ha with ha | ha
    · exact Srt.cG_trans (lo a ha) (hi b hb)
    · rw [List.mem_singleton.1 ha]; exact hi b hb
/-- The lines so far. -/
structure ByI (lv : Int) (ts : List S53) (M : List S41) (L : List (Int × S58)) : Prop where
  asc : Asc M
  val : ∀ x ∈ M, x.f1 = tot lv ts x.f0
  mem : ∀ k, (∃ x ∈ M, x.f0 = k) ↔ ∃ x ∈ L, key lv x.2 = k
section
variable (lv : Int) (ts : List S53) (hW : Wtd ts) (h3 : ts.length ≤ 10)
include hW
omit hW in
theorem byi_len {M : List S41} {L : List (Int × S58)} (h : ByI lv ts M L) (hL : ∀ x ∈ L, Named x.2) : M.length ≤ 12 := by
  have hnd : (M.map (·.f0)).Nodup := List.pairwise_map.2 (h.asc.imp (fun {a b} hab e => by rw [show cL a b = 0 from Srt.cG_zero.2 e] at hab; omega))
  have := nodup_le (M.map (·.f0)) (allK lv) hnd (fun k hk => by
    obtain ⟨x, hx, rfl⟩ := List.mem_map.1 hk
    obtain ⟨y, hy, e⟩ := (h.mem x.f0).1 ⟨x, hx, rfl⟩
    rw [← e]
    exact key_all lv (hL y hy))
  rw [List.length_map, allK_len] at this
  exact this
omit hW in
theorem l2_ev (M : List S41) (hA : Asc M) (hM : M.length ≤ 12) (i j : Int) (g : S39) : ∀ n : Nat, n ≤ M.length → (∀ p (hp : p < M.length), n ≤ p → cG g M[p].f0 < 0) →
    ∃ m : Nat, m ≤ n ∧ (∀ p (hp : p < M.length), m ≤ p → cG g M[p].f0 < 0) ∧ (∀ (h : 0 < m) (hm : m - 1 < M.length), ¬ cG g M[m - 1].f0 < 0) ∧ ∀ R, Ev (fun k => sleuthlaw25_by.j3 k ts lv M i j (m : Int) g.f0 g.f1 g.f2) R → Ev (fun k => sleuthlaw25_by.l2 k ts lv M i j (n : Int) g.f0 g.f1 g.f2) R := by
  intro n
  induction n with
  | zero =>
    intro hn h
    refine ⟨0, Nat.le_refl _, h, fun h => absurd h (Nat.lt_irrefl _), fun R hR => Ev.step (fun k => ?_) hR⟩
    simp only [sleuthlaw25_by.l2]
    rw [if_neg (by decide)]
  | succ n ih =>
    intro hn h
    have hlt : n < M.length := by omega
    have hr : rd_T41 M (n : Int) = M[n] := getD_at M z41 hlt
    have hw : wrap64 (((n + 1 : Nat) : Int) - 1) = (n : Int) := by rw [w64 (by omega) (by omega)]; omega
    by_cases c : cG g M[n].f0 < 0
    · obtain ⟨m, h1, h2, h3, h4⟩ := ih (by omega) (fun p hp hnp => by
        by_cases e : p = n
        · subst e; exact c
        · exact h p hp (by omega))
      refine ⟨m, by omega, h2, h3, fun R hR => Ev.step (fun k => ?_) (h4 R hR)⟩
      simp only [sleuthlaw25_by.l2]
      rw [if_pos (by omega), hw, if_pos (by omega), if_pos (by omega), hr, less_f, Option.bind_some, if_pos (decide_eq_true c)]
    · refine ⟨n + 1, Nat.le_refl _, h, fun _ _ => c, fun R hR => Ev.step (fun k => ?_) hR⟩
      simp only [sleuthlaw25_by.l2]
      rw [if_pos (by omega), hw, if_pos (by omega), if_pos (by omega), hr, less_f, Option.bind_some, if_neg (by rw [decide_eq_false c]; decide)]
include h3
theorem by_j4 (M : List S41) (hM : M.length ≤ 12) (i j : Int) (g : S39) (m : Nat) (hm : m ≤ M.length) (R : List S41) (h : Ev (fun k => sleuthlaw25_by.l1 k ts lv (M.take m ++ [⟨g, tot lv ts g⟩] ++ M.drop m) i (wrap64 (j + 1))) R) : Ev (fun k => sleuthlaw25_by.j4 k ts lv M i j (m : Int) false g.f0 g.f1 g.f2) R := by
  refine Ev.step (fun k => ?_) h
  simp only [sleuthlaw25_by.j4, Option.bind_some, total_f lv g ts hW.good h3, Int.toNat_natCast, List.nil_append]
  rw [if_neg (by decide), if_pos (by omega), if_pos (by omega), if_pos (by rw [List.length_take]; simp; omega), if_pos (by rw [List.length_take]; omega), if_pos (by rw [List.length_append, List.length_take, List.length_drop, List.length_singleton]; omega)]
theorem by_span (M : List S41) (L : List (Int × S58)) (w : Int) (s : S58) (hL : ∀ x ∈ L, Named x.2) (hs : Named s) (g : S39) (hg : key lv s = g) (h : ByI lv ts M L) (i j : Int) : ∃ M', ByI lv ts M' (L ++ [(w, s)]) ∧ ∀ R, Ev (fun k => sleuthlaw25_by.l1 k ts lv M' i (wrap64 (j + 1))) R → Ev (fun k => sleuthlaw25_by.l2 k ts lv M i j (M.length : Int) g.f0 g.f1 g.f2) R := by
  have hM := byi_len lv ts h hL
  obtain ⟨m, m1, m2, m3, m4⟩ := l2_ev lv ts M h.asc hM i j g M.length (Nat.le_refl _) (fun p hp hp2 => absurd hp (by omega))
  have hmem : ∀ k, (∃ x ∈ L ++ [(w, s)], key lv x.2 = k) ↔ (∃ x ∈ L, key lv x.2 = k) ∨ g = k := by
    intro k
    constructor
    · rintro ⟨x, hx, e⟩
      rcases List.mem_append.1 hx with hx | hx
      · exact .inl ⟨x, hx, e⟩
      · rw [List.mem_singleton.1 hx] at e; exact .inr (hg.symm.trans e)
    · rintro (⟨x, hx, e⟩ | e)
      · exact ⟨x, List.mem_append_left _ hx, e⟩
      · exact ⟨(w, s), List.mem_append_right _ List.mem_cons_self, hg.trans e⟩
  by_cases c : ∃ h0 : 0 < m, (M[m - 1]'(by omega)).f0 = g
  · obtain ⟨h0, e⟩ := c
    refine ⟨M, ⟨h.asc, h.val, fun k => ?_⟩, fun R hR => m4 R (Ev.step (fun k => ?_) (Ev.step (f := fun k => sleuthlaw25_by.l1 k ts lv M i (wrap64 (j + 1))) (g := fun k => sleuthlaw25_by.j4 k ts lv M i j (m : Int) true g.f0 g.f1 g.f2) (fun k => ?_) hR))⟩
    · rw [hmem, ← h.mem]
      constructor
      · exact fun h => .inl h
      · rintro (h | e2)
        · exact h
        · exact ⟨M[m - 1]'(by omega), List.getElem_mem _, e.trans e2⟩
    · have hr : rd_T41 M ((m - 1 : Nat) : Int) = M[m - 1]'(by omega) := getD_at M z41 (by omega)
      have hw : wrap64 ((m : Int) - 1) = ((m - 1 : Nat) : Int) := by rw [w64 (by omega) (by omega)]; omega
      simp only [sleuthlaw25_by.j3]
      rw [if_pos (by omega), hw, if_pos (by omega), if_pos (by omega), hr, e]
      simp
    · simp only [sleuthlaw25_by.j4]
      rw [if_pos trivial]
  · have hne : ∀ x ∈ M, x.f0 ≠ g := by
      intro x hx e
      obtain ⟨p, hp, rfl⟩ := List.getElem_of_mem hx
      by_cases hpm : m ≤ p
      · have := m2 p hp hpm
        rw [Srt.cG_zero.2 e.symm] at this
        omega
      · have h0 : 0 < m := by omega
        by_cases e2 : p = m - 1
        · subst e2; exact c ⟨h0, e⟩
        · have := asc_at h.asc (p := p) (q := m - 1) (by omega) (by omega)
          rw [e] at this
          exact m3 h0 (by omega) this
    have h2 : ∀ h0 : 0 < m, cG (M[m - 1]'(by omega)).f0 g < 0 := by
      intro h0
      have a := m3 h0 (by omega)
      have b : cG g (M[m - 1]'(by omega)).f0 ≠ 0 := fun e => hne _ (List.getElem_mem (by omega)) (Srt.cG_zero.1 e).symm
      rw [Srt.cG_swap g]
      omega
    refine ⟨M.take m ++ [⟨g, tot lv ts g⟩] ++ M.drop m, ⟨ins_asc h.asc _ m (by omega) m2 h2, fun x hx => ?_, fun k => ?_⟩, fun R hR => m4 R (Ev.step (fun k => ?_) (by_j4 lv ts hW h3 M hM i j g m (by omega) R hR))⟩
    · rcases List.mem_append.1 hx with hx | hx
      · rcases List.mem_append.1 hx with hx | hx
        · exact h.val x (List.mem_of_mem_take hx)
        · rw [List.mem_singleton.1 hx]
      · exact h.val x (List.mem_of_mem_drop hx)
    · rw [hmem, ← h.mem]
      constructor
      · rintro ⟨x, hx, e⟩
        rcases List.mem_append.1 hx with hx | hx
        · rcases List.mem_append.1 hx with hx | hx
          · exact .inl ⟨x, List.mem_of_mem_take hx, e⟩
          · rw [List.mem_singleton.1 hx] at e; exact .inr e
        · exact .inl ⟨x, List.mem_of_mem_drop hx, e⟩
      · rintro (⟨x, hx, e⟩ | e)
        · rw [← List.take_append_drop m M] at hx
          rcases List.mem_append.1 hx with hx | hx
          · exact ⟨x, List.mem_append_left _ (List.mem_append_left _ hx), e⟩
          · exact ⟨x, List.mem_append_right _ hx, e⟩
        · exact ⟨_, List.mem_append_left _ (List.mem_append_right _ List.mem_cons_self), e⟩
    · by_cases h0 : 0 < m
      · have hr : rd_T41 M ((m - 1 : Nat) : Int) = M[m - 1]'(by omega) := getD_at M z41 (by omega)
        have hw : wrap64 ((m : Int) - 1) = ((m - 1 : Nat) : Int) := by rw [w64 (by omega) (by omega)]; omega
        have hb : ((M[m - 1]'(by omega)).f0.f0.toList == g.f0.toList && ((M[m - 1]'(by omega)).f0.f1.toList == g.f1.toList && (M[m - 1]'(by omega)).f0.f2.toList == g.f2.toList)) = false := by
          rw [Bool.eq_false_iff]
          intro e
          simp only [Bool.and_eq_true, beq_iff_eq, toL_iff] at e
          refine hne (M[m - 1]'(by omega)) (List.getElem_mem (by omega)) ?_
          obtain ⟨e0, e1, e2⟩ := e
          cases hx : (M[m - 1]'(by omega)).f0 with
          | mk a b c =>
            rw [hx] at e0 e1 e2
            simp only at e0 e1 e2
            rw [e0, e1, e2]
        have hm1 : ((m - 1 : Nat) : Int) < (M.length : Int) := by omega
        have hm0 : (m : Int) > 0 := by omega
        show (if (m : Int) > 0 then _ else _) = _
        rw [if_pos hm0, hw, if_pos (Int.natCast_nonneg _), if_pos hm1, hr, hb]
      · simp only [sleuthlaw25_by.j3]
        rw [if_neg (by omega)]
theorem by2_l1 {i : Nat} (hi : i < ts.length) (hnext : ∀ M', ByI lv ts M' (wS (ts.take (i + 1))) → ∃ R, Lines lv ts R ∧ Ev (fun k => sleuthlaw25_by.l0 k ts lv M' ((i + 1 : Nat) : Int)) R) : ∀ (d j : Nat), ts[i].f2.length - j = d → j ≤ ts[i].f2.length → ∀ M, ByI lv ts M (wS (ts.take i) ++ (ts[i].f2.take j).map fun s => (ts[i].f1, s)) → ∃ R, Lines lv ts R ∧ Ev (fun k => sleuthlaw25_by.l1 k ts lv M (i : Int) (j : Int)) R := by
  have hr : rd_T53 ts (i : Int) = ts[i] := getD_at ts z53 hi
  have h8 := hW.good.len ts[i] (List.getElem_mem hi)
  intro d
  induction d with
  | zero =>
    intro j hd hj M h
    obtain rfl : j = ts[i].f2.length := by omega
    rw [List.take_length, ← wS_take ts hi] at h
    obtain ⟨R, r1, r2⟩ := hnext M h
    refine ⟨R, r1, Ev.step (fun k => ?_) r2⟩
    simp only [sleuthlaw25_by.l1, hr]
    rw [if_pos (by omega), if_pos (by omega), if_neg (by omega), wsucc hi (by omega)]
  | succ d ih =>
    intro j hd hj M h
    have hlt : j < ts[i].f2.length := by omega
    have hrs : rd_T58 ts[i].f2 (j : Int) = ts[i].f2[j] := getD_at _ z58 hlt
    have hL : ∀ x ∈ wS (ts.take i) ++ (ts[i].f2.take j).map (fun s => (ts[i].f1, s)), Named x.2 := by
      intro x hx
      rcases List.mem_append.1 hx with hx | hx
      · obtain ⟨t, ht, hx⟩ := List.mem_flatMap.1 hx
        obtain ⟨s, hs, rfl⟩ := List.mem_map.1 hx
        exact hW.names t (List.mem_of_mem_take ht) s hs
      · obtain ⟨s, hs, rfl⟩ := List.mem_map.1 hx
        exact hW.names ts[i] (List.getElem_mem hi) s (List.mem_of_mem_take hs)
    obtain ⟨M', q1, q2⟩ := by_span lv ts hW h3 M _ ts[i].f1 ts[i].f2[j] hL (hW.names ts[i] (List.getElem_mem hi) _ (List.getElem_mem hlt)) _ rfl h (i : Int) (j : Int)
    rw [List.append_assoc, show ((ts[i].f2.take j).map fun s => (ts[i].f1, s)) ++ [(ts[i].f1, ts[i].f2[j])] = (ts[i].f2.take (j + 1)).map fun s => (ts[i].f1, s) by rw [List.take_add_one, List.getElem?_eq_getElem hlt, List.map_append]; rfl] at q1
    obtain ⟨R, r1, r2⟩ := ih (j + 1) (by omega) (by omega) M' q1
    rw [wsucc hlt (by omega)] at q2
    refine ⟨R, r1, Ev.step (fun k => ?_) (q2 R r2)⟩
    simp only [sleuthlaw25_by.l1, hr, hrs, group_f, Option.bind_some]
    rw [if_pos (by omega), if_pos (by omega), if_pos (by omega), if_pos (by omega)]
    rfl
theorem by2_l0 : ∀ (d i : Nat), ts.length - i = d → i ≤ ts.length → ∀ M, ByI lv ts M (wS (ts.take i)) → ∃ R, Lines lv ts R ∧ Ev (fun k => sleuthlaw25_by.l0 k ts lv M (i : Int)) R := by
  intro d
  induction d with
  | zero =>
    intro i hd hi M h
    obtain rfl : i = ts.length := by omega
    rw [List.take_length] at h
    have hM := byi_len lv ts h (fun x hx => by
      obtain ⟨t, ht, hx⟩ := List.mem_flatMap.1 hx
      obtain ⟨s, hs, rfl⟩ := List.mem_map.1 hx
      exact hW.names t ht s hs)
    refine ⟨M, ⟨h.asc, hM, h.val, h.mem⟩, Ev.step (f := fun _ => some M) (fun k => ?_) (Ev.now _)⟩
    simp only [sleuthlaw25_by.l0]
    rw [if_neg (by omega)]
  | succ d ih =>
    intro i hd hi M h
    have hlt : i < ts.length := by omega
    obtain ⟨R, r1, r2⟩ := by2_l1 lv ts hW h3 hlt (fun M' h' => ih (i + 1) (by omega) (by omega) M' h') ts[i].f2.length 0 rfl (Nat.zero_le _) M (by simpa using h)
    refine ⟨R, r1, Ev.step (fun k => ?_) r2⟩
    simp only [sleuthlaw25_by.l0]
    rw [if_pos (by omega)]
    rfl
/-- by answers the lines. -/
theorem by2_ev : ∃ R, Lines lv ts R ∧ Ev (fun k => sleuthlaw25_by.f k ts lv) R :=
  by2_l0 lv ts hW h3 ts.length 0 rfl (Nat.zero_le _) [] ⟨List.Pairwise.nil, (fun x hx => absurd hx List.not_mem_nil), (fun k => ⟨fun ⟨x, hx, _⟩ => absurd hx List.not_mem_nil, fun ⟨x, hx, _⟩ => absurd hx List.not_mem_nil⟩)⟩
end
/-- A list is the same as itself. -/
theorem same_self (L : List S41) (hL : L.length ≤ 1000) : Ev (fun k => sleuthlaw25_same.f k L L) true := by
  have : ∀ (d i : Nat), L.length - i = d → i ≤ L.length → Ev (fun k => sleuthlaw25_same.l0 k L L (i : Int)) true := by
    intro d
    induction d with
    | zero =>
      intro i hd hi
      refine Ev.step (f := fun _ => some true) (fun k => ?_) (Ev.now _)
      simp only [sleuthlaw25_same.l0]
      rw [if_neg (by omega)]
    | succ d ih =>
      intro i hd hi
      have hlt : i < L.length := by omega
      refine Ev.step (fun k => ?_) (ih (i + 1) (by omega) (by omega))
      simp only [sleuthlaw25_same.l0]
      rw [if_pos (by omega), if_pos (by omega), if_pos (by omega), if_neg (by simp), wsucc hlt (by omega)]
  refine Ev.congr (fun k => ?_) (this L.length 0 rfl (Nat.zero_le _))
  unfold sleuthlaw25_same.f
  rw [if_pos rfl]
  rfl
end Go.Proofs.Ythdifdnjodbdnaa.Pl
