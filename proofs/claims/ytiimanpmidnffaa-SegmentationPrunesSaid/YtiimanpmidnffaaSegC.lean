/- What the printed functions of segmentation compute, part C: 'costs'. -/
import Derived.Test.YtiimanpmidnffaaSegB
namespace Go.Proofs.Ytiimanpmidnffaa.Seg
open Go.RowKit Go.Proofs.YtiimanpmidnffaaW.PrintWords Go.Proofs.YtiimanpmidnffaaW.PrintLast Go.Proofs.YtiimanpmidnffaaW.PrintMore Go.Proofs.Ytiimanpmidnffaa.Q
set_option linter.unusedVariables false
set_option linter.unusedSimpArgs false
theorem mul_bd (m : Int) (a : Nat) (h1 : -1099511627776 ≤ m) (h2 : m ≤ 1099511627776) (ha : a ≤ 4096) : -4503599627370496 ≤ m * (a : Int) ∧ m * (a : Int) ≤ 4503599627370496 := by
  have h3 : m * (a : Int) ≤ 1099511627776 * (a : Int) := Int.mul_le_mul_of_nonneg_right h2 (by omega)
  have h4 : (-1099511627776) * (a : Int) ≤ m * (a : Int) := Int.mul_le_mul_of_nonneg_right h1 (by omega)
  omega
theorem out_val (m : Int) (a b : Nat) (sl sh : Int) (h1 : -1099511627776 ≤ m) (h2 : m ≤ 1099511627776) (ha : a ≤ 4096) (hb : b ≤ 4096) (s1 : -4503599627370496 ≤ sl) (s2 : sl ≤ 4503599627370496) (s3 : -4503599627370496 ≤ sh) (s4 : sh ≤ 4503599627370496) :
    wrap64 ((wrap64 ((wrap64 ((wrap64 (m * (a : Int))) - sl)) + sh)) - (wrap64 (m * (b : Int)))) = m * (a : Int) - sl + sh - m * (b : Int) := by
  have ma := mul_bd m a h1 h2 ha
  have mb := mul_bd m b h1 h2 hb
  generalize m * (a : Int) = A at ma ⊢
  generalize m * (b : Int) = B at mb ⊢
  have e1 : wrap64 A = A := w64 (by omega) (by omega)
  have e2 : wrap64 B = B := w64 (by omega) (by omega)
  have e3 : wrap64 (A - sl) = A - sl := w64 (by omega) (by omega)
  have e4 : wrap64 (A - sl + sh) = A - sl + sh := w64 (by omega) (by omega)
  have e5 : wrap64 (A - sl + sh - B) = A - sl + sh - B := w64 (by omega) (by omega)
  rw [e1, e2, e3, e4, e5]
theorem bd_of {l : List Int} (h : ∀ x ∈ l, -1099511627776 ≤ x ∧ x ≤ 1099511627776) (hl : l.length ≤ 4096) : -4503599627370496 ≤ sm l ∧ sm l ≤ 4503599627370496 := by
  have := sm_bd l h
  omega
theorem wlen (n : Nat) (h : n ≤ 4611686018427387904) (h0 : 0 < n) : wrap64 ((n : Int) - 1) = ((n - 1 : Nat) : Int) := by
  rw [w64 (by omega) (by omega)]; omega
theorem wlen1 (n : Nat) (h : n ≤ 4611686018427387904) : wrap64 ((n : Int) + 1) = ((n + 1 : Nat) : Int) := by
  rw [w64 (by omega) (by omega)]; omega
theorem take_last (l : List Int) (h : l ≠ []) : (l.take (l.length - 1)).length = l.length - 1 := by rw [List.length_take]; omega
/-- The halves are brought into balance, and the cost is stored. -/
theorem j2_ev (pts part out : List Int) (s : Nat) (r : List Int) (hb : ∀ x ∈ part, -1099511627776 ≤ x ∧ x ≤ 1099511627776) (hl : part.length ≤ 1024) (hs : s < out.length) (hso : out.length ≤ 1024)
    (IH : ∀ low' high', Half part low' high' → high'.length ≤ low'.length → low'.length ≤ high'.length + 1 → low' ≠ [] → Ev (fun k => segmentation_costs.l0 k pts (out.set s (cst part)) low' high' (sm low') (sm high') ((s : Int) - 1)) r)
    (low high : List Int) (H : Half part low high) (h1 : low.length ≤ high.length + 2) (h2 : high.length ≤ low.length + 1) (h0 : low ≠ []) :
    Ev (fun k => segmentation_costs.j2 k pts out low high (sm low) (sm high) (s : Int)) r := by
  have hpl := H.perm.length_eq
  rw [List.length_append] at hpl
  have hlow : 0 < low.length := List.length_pos_iff.2 h0
  have hbl : ∀ x ∈ low, -1099511627776 ≤ x ∧ x ≤ 1099511627776 := fun x hx => hb x (H.perm.mem_iff.1 (List.mem_append_left _ hx))
  have hbh : ∀ x ∈ high, -1099511627776 ≤ x ∧ x ≤ 1099511627776 := fun x hx => hb x (H.perm.mem_iff.1 (List.mem_append_right _ hx))
  have bl := bd_of hbl (by omega)
  have bh := bd_of hbh (by omega)
  have ws : wrap64 ((s : Int) - 1) = (s : Int) - 1 := w64 (by omega) (by omega)
  have fin : ∀ low' high', Half part low' high' → high'.length ≤ low'.length → low'.length ≤ high'.length + 1 → low' ≠ [] →
      wrap64 ((wrap64 ((wrap64 ((wrap64 (low'.getD (low'.length - 1) 0 * (low'.length : Int))) - sm low')) + sm high')) - (wrap64 (low'.getD (low'.length - 1) 0 * (high'.length : Int)))) = cst part := by
    intro low' high' H' g1 g2 g0
    have hpl' := H'.perm.length_eq
    rw [List.length_append] at hpl'
    have hb1 : ∀ x ∈ low', -1099511627776 ≤ x ∧ x ≤ 1099511627776 := fun x hx => hb x (H'.perm.mem_iff.1 (List.mem_append_left _ hx))
    have hb2 : ∀ x ∈ high', -1099511627776 ≤ x ∧ x ≤ 1099511627776 := fun x hx => hb x (H'.perm.mem_iff.1 (List.mem_append_right _ hx))
    have c1 := bd_of hb1 (by omega)
    have c2 := bd_of hb2 (by omega)
    have hm := hb1 _ (getD_mem (xs := low') (i := low'.length - 1) (by have := List.length_pos_iff.2 g0; omega))
    rw [out_val _ _ _ _ _ hm.1 hm.2 (by omega) (by omega) c1.1 c1.2 c2.1 c2.2]
    exact H'.cost g1 g2 g0
  have hlast := hbl _ (getD_mem (xs := low) (i := low.length - 1) (by omega))
  by_cases hA : high.length + 1 < low.length
  · -- the lower half is too long
    have H' := H.down h0
    have htl := take_last low h0
    have hne : low.take (low.length - 1) ≠ [] := by intro e; rw [e] at htl; simp at htl; omega
    have hev := IH _ _ H' (by simp; omega) (by simp; omega) hne
    have hf := fin _ _ H' (by simp; omega) (by simp; omega) hne
    have esl : sm low = sm (low.take (low.length - 1)) + low.getD (low.length - 1) 0 := by
      conv => lhs; rw [snoc_of low h0]
      rw [sm_append]; simp [sm]
    have e1 : wrap64 (sm low - low.getD (low.length - 1) 0) = sm (low.take (low.length - 1)) := by rw [w64 (by omega) (by omega)]; omega
    have e2 : wrap64 (sm high + low.getD (low.length - 1) 0) = sm (low.getD (low.length - 1) 0 :: high) := by rw [w64 (by omega) (by omega)]; simp only [sm]; omega
    refine Ev.step (fun k => ?_) hev
    simp only [segmentation_costs.j2]
    rw [wlen1 _ (by omega), if_pos (by omega), wlen _ (by omega) hlow, if_pos (by omega), if_pos (by omega), if_pos (by omega)]
    simp only [Option.bind_some, Int.toNat_natCast, rdn]
    have ei : slices_Insert_int_int.f high 0 [low.getD (low.length - 1) 0] = some (low.getD (low.length - 1) 0 :: high) := by
      have := insert_eq high (low.getD (low.length - 1) 0) 0 (Nat.zero_le _) (by omega)
      simpa using this
    rw [ei]
    simp only [Option.bind_some]
    rw [wlen _ (by omega) (by omega), if_pos (by omega), if_pos (by omega), if_pos (by omega), if_pos (by omega)]
    simp only [rdn, Int.toNat_natCast]
    rw [e1, e2, hf, ws]
  · by_cases hB : low.length < high.length
    · -- the upper half is longer
      have hhn : high ≠ [] := by intro e; rw [e] at hB; simp at hB
      have hhl : 0 < high.length := List.length_pos_iff.2 hhn
      have H' := H.up hhn
      have hne : low ++ [high.getD 0 0] ≠ [] := by simp
      have hev := IH _ _ H' (by simp; omega) (by simp; omega) hne
      have hf := fin _ _ H' (by simp; omega) (by simp; omega) hne
      have hx := hbh _ (getD_mem (xs := high) (i := 0) hhl)
      have esh : sm high = high.getD 0 0 + sm (high.drop 1) := by
        conv => lhs; rw [cons_of high hhn]
        rfl
      have e1 : wrap64 (sm low + high.getD 0 0) = sm (low ++ [high.getD 0 0]) := by rw [w64 (by omega) (by omega), sm_append]; simp [sm]
      have e2 : wrap64 (sm high - high.getD 0 0) = sm (high.drop 1) := by rw [w64 (by omega) (by omega)]; omega
      refine Ev.step (fun k => ?_) hev
      simp only [segmentation_costs.j2]
      rw [wlen1 _ (by omega), if_neg (by omega), if_pos (by omega), if_pos (by omega)]
      have ed : slices_Delete_int_int.f high 0 1 = some (high.drop 1) := by
        unfold slices_Delete_int_int.f
        rw [if_pos ⟨by omega, by omega, by omega, hhl⟩]
        simp
      rw [ed]
      simp only [Option.bind_some]
      rw [if_pos (by omega)]
      have er : rd high 0 = high.getD 0 0 := rfl
      rw [er, wlen _ (by simp; omega) (by simp), if_pos (by omega), if_pos (by simp only [List.length_append, List.length_singleton]; omega), if_pos (by omega), if_pos (by omega)]
      simp only [rdn, Int.toNat_natCast]
      rw [e1, e2, hf, ws]
    · have hev := IH _ _ H (by omega) (by omega) h0
      have hf := fin _ _ H (by omega) (by omega) h0
      refine Ev.step (fun k => ?_) hev
      simp only [segmentation_costs.j2]
      rw [wlen1 _ (by omega), if_neg (by omega), if_neg (by omega), wlen _ (by omega) hlow, if_pos (by omega), if_pos (by omega), if_pos (by omega), if_pos (by omega)]
      simp only [rdn, Int.toNat_natCast]
      rw [hf, ws]
theorem costs_loop (pts : List Int) (hP : Pts pts) (t : Nat) (ht : t ≤ pts.length) : ∀ (s : Nat) (out low high : List Int), s ≤ t → out.length = t → Half ((pts.take t).drop s) low high → high.length ≤ low.length → low.length ≤ high.length + 1 →
    (∀ q, s ≤ q → q < t → out.getD q 0 = cst ((pts.take t).drop q)) →
    Ev (fun k => segmentation_costs.l0 k pts out low high (sm low) (sm high) ((s : Int) - 1)) ((List.range t).map fun q => cst ((pts.take t).drop q)) := by
  have hpl := hP.1
  intro s
  induction s with
  | zero =>
    intro out low high _ hlen H h1 h2 hout
    refine Ev.step (f := fun _ => some _) (fun k => ?_) (Ev.now _)
    simp only [segmentation_costs.l0]
    rw [if_neg (by omega)]
    congr 1
    apply List.ext_getElem?
    intro q
    rcases Nat.lt_or_ge q t with hq | hq
    · have := hout q (Nat.zero_le _) hq
      rw [List.getD_eq_getElem?_getD, List.getElem?_eq_getElem (by omega)] at this
      rw [List.getElem?_eq_getElem (by omega), List.getElem?_map, List.getElem?_range hq]
      simpa using this
    · rw [List.getElem?_eq_none (by omega), List.getElem?_eq_none (by simp; omega)]
  | succ s ih =>
    intro out low high hst hlen H h1 h2 hout
    have hsl : s < pts.length := by omega
    have epart : (pts.take t).drop s = pts.getD s 0 :: (pts.take t).drop (s + 1) := by
      rw [List.drop_eq_getElem_cons (by rw [List.length_take]; omega)]
      congr 1
      rw [List.getElem_take, List.getD_eq_getElem?_getD, List.getElem?_eq_getElem hsl]
      rfl
    have hbp : ∀ x ∈ (pts.take t).drop s, -1099511627776 ≤ x ∧ x ≤ 1099511627776 := fun x hx => hP.2 x (List.mem_of_mem_take (List.mem_of_mem_drop hx))
    have hlp : ((pts.take t).drop s).length ≤ 1024 := by rw [List.length_drop, List.length_take]; omega
    have hlen1 := H.perm.length_eq
    rw [List.length_append, List.length_drop, List.length_take] at hlen1
    -- behind the insertion
    have next := j2_ev pts ((pts.take t).drop s) out s ((List.range t).map fun q => cst ((pts.take t).drop q)) hbp hlp (by omega) (by omega) (fun low' high' H' g1 g2 _ => by
      refine ih (out.set s (cst ((pts.take t).drop s))) low' high' (by omega) (by simpa using hlen) H' g1 g2 (fun q hq hqt => ?_)
      rcases Nat.eq_or_lt_of_le hq with e | e
      · subst e
        rw [List.getD_eq_getElem?_getD, List.getElem?_set_self (by omega)]
        rfl
      · rw [List.getD_eq_getElem?_getD, List.getElem?_set_ne (by omega), ← List.getD_eq_getElem?_getD]
        exact hout q e hqt)
    rw [epart] at next
    have hx := hbp (pts.getD s 0) (by rw [epart]; exact List.mem_cons_self)
    have hbl : ∀ x ∈ low, -1099511627776 ≤ x ∧ x ≤ 1099511627776 := fun x hx => hP.2 x (List.mem_of_mem_take (List.mem_of_mem_drop (H.perm.mem_iff.1 (List.mem_append_left _ hx))))
    have hbh : ∀ x ∈ high, -1099511627776 ≤ x ∧ x ≤ 1099511627776 := fun x hx => hP.2 x (List.mem_of_mem_take (List.mem_of_mem_drop (H.perm.mem_iff.1 (List.mem_append_right _ hx))))
    have bl := bd_of hbl (by omega)
    have bh := bd_of hbh (by omega)
    have es : ((s + 1 : Nat) : Int) - 1 = (s : Int) := by omega
    rw [es]
    -- into the lower half
    have lowway : (∀ b ∈ high, pts.getD s 0 ≤ b) → Ev (fun k => segmentation_costs.j1 k pts out low high (sm low) (sm high) (s : Int) (pts.getD s 0) false) ((List.range t).map fun q => cst ((pts.take t).drop q)) := by
      intro hle
      obtain ⟨p, b, hev, hp, q1, q2⟩ := bs_ev low (pts.getD s 0) H.sl (by omega)
      have hn := next _ _ (H.insLow p hp q1 q2 hle) (by simp; omega) (by simp; omega) (by simp)
      refine Ev.step (fun k => ?_) (Ev.bind hev (f := fun k bt => (slices_Insert_int_int.f low bt.1 [pts.getD s 0]).bind fun t128 => segmentation_costs.j2 k pts out t128 high (wrap64 (sm low + pts.getD s 0)) (sm high) (s : Int)) ?_)
      · simp only [segmentation_costs.j1]; rw [if_neg (by simp)]
      · refine Ev.congr (fun k => ?_) hn
        simp only []
        rw [insert_eq low _ p hp (by omega)]
        simp only [Option.bind_some]
        rw [w64 (by omega) (by omega), sm_perm (insert_perm low (pts.getD s 0) p)]
        simp only [sm]
        rw [Int.add_comm]
    have highway : (∀ a ∈ low, a ≤ pts.getD s 0) → low ≠ [] → Ev (fun k => segmentation_costs.j1 k pts out low high (sm low) (sm high) (s : Int) (pts.getD s 0) true) ((List.range t).map fun q => cst ((pts.take t).drop q)) := by
      intro hle h0
      obtain ⟨p, b, hev, hp, q1, q2⟩ := bs_ev high (pts.getD s 0) H.sh (by omega)
      have hn := next _ _ (H.insHigh p hp q1 q2 hle) (by simp; omega) (by simp; omega) h0
      refine Ev.step (fun k => ?_) (Ev.bind hev (f := fun k bt => (slices_Insert_int_int.f high bt.1 [pts.getD s 0]).bind fun t120 => segmentation_costs.j2 k pts out low t120 (sm low) (wrap64 (sm high + pts.getD s 0)) (s : Int)) ?_)
      · simp only [segmentation_costs.j1]; rw [if_pos trivial]
      · refine Ev.congr (fun k => ?_) hn
        simp only []
        rw [insert_eq high _ p hp (by omega)]
        simp only [Option.bind_some]
        rw [w64 (by omega) (by omega), sm_perm (insert_perm high (pts.getD s 0) p)]
        simp only [sm]
        rw [Int.add_comm]
    by_cases h0 : low = []
    · subst h0
      have hh0 : high = [] := List.length_eq_zero_iff.1 (by simpa using h1)
      subst hh0
      refine Ev.step (fun k => ?_) (lowway (by simp))
      simp only [segmentation_costs.l0]
      rw [if_pos (by omega), if_pos (by omega), if_pos (by omega), if_neg (by simp), rdn]
    · have hl0 : 0 < low.length := List.length_pos_iff.2 h0
      have hmx := last_max low H.sl
      have hlm : low.getD (low.length - 1) 0 ∈ low := getD_mem (by omega)
      by_cases hc : pts.getD s 0 > low.getD (low.length - 1) 0
      · refine Ev.step (fun k => ?_) (highway (fun a ha => by have := hmx a ha; omega) h0)
        simp only [segmentation_costs.l0]
        rw [if_pos (by omega), if_pos (by omega), if_pos (by omega), if_pos (by omega), wlen _ (by omega) hl0, if_pos (by omega), if_pos (by omega), rdn, rdn, decide_eq_true hc]
      · refine Ev.step (fun k => ?_) (lowway (fun b hb => by have := H.ord _ hlm b hb; omega))
        simp only [segmentation_costs.l0]
        rw [if_pos (by omega), if_pos (by omega), if_pos (by omega), if_pos (by omega), wlen _ (by omega) hl0, if_pos (by omega), if_pos (by omega), rdn, rdn, decide_eq_false hc]
/-- The costs of all parts that end at t. -/
def costsOf (pts : List Int) (t : Nat) : List Int := (List.range t).map fun q => cst ((pts.take t).drop q)
theorem costs_ev (pts : List Int) (hP : Pts pts) (t : Nat) (ht : t ≤ pts.length) : Ev (fun k => segmentation_costs.f k pts (t : Int)) (costsOf pts t) := by
  have hpl := hP.1
  have := costs_loop pts hP t ht t (List.replicate t 0) [] [] (Nat.le_refl _) (by simp) ⟨by rw [List.drop_eq_nil_of_le (by simp; omega)]; exact List.Perm.refl _, List.Pairwise.nil, List.Pairwise.nil, by simp⟩ (by simp) (by simp) (fun q h1 h2 => by omega)
  refine Ev.congr (fun k => ?_) this
  unfold segmentation_costs.f
  rw [if_pos (by omega)]
  simp only [Int.toNat_natCast, sm]
  rw [if_pos (by omega), w64 (by omega) (by omega)]
end Go.Proofs.Ytiimanpmidnffaa.Seg
