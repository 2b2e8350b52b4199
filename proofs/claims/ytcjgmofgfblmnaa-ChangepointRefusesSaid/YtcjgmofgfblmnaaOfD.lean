/- Plain law: ChangepointRefuses. -/
import Derived.Test.YtcjgmofgfblmnaaSg
import Derived.Test.YtcjgmofgfblmnaaQgSleuthlaw45ChangepointRefuses
namespace Go.Proofs.Ytcjgmofgfblmnaa.Seg
open Go.RowKit Go.Proofs.YtcjgmofgfblmnaaW.PrintWords Go.Proofs.YtcjgmofgfblmnaaW.PrintLast Go.Proofs.YtcjgmofgfblmnaaW.PrintMore Go.Proofs.Ytcjgmofgfblmnaa.Q
set_option linter.unusedVariables false
set_option linter.unusedSimpArgs false
set_option linter.unusedSimpArgs false
theorem within_ev (s : ByteArray) (a b : Int) (hs : s.size ≤ 1048576) : ∃ r, Ev (fun k => attribute_within.f k s a b) r := by
  have : ∀ (d i : Nat), s.size - i = d → i ≤ s.size → ∃ r, Ev (fun k => attribute_within.l0 k s a b (s.size : Int) (i : Int)) r := by
    intro d
    induction d with
    | zero =>
      intro i hd hi
      refine ⟨true, Ev.step (f := fun _ => some true) (fun k => ?_) (Ev.now _)⟩
      simp only [attribute_within.l0]
      rw [if_neg (by omega)]
    | succ d ih =>
      intro i hd hi
      have hw : wrap64 ((i : Int) + 1) = ((i + 1 : Nat) : Int) := by rw [w64 (by omega) (by omega)]; omega
      by_cases h1 : bt s (i : Int) < a
      · refine ⟨false, Ev.step (f := fun _ => some false) (fun k => ?_) (Ev.now _)⟩
        simp only [attribute_within.l0]
        rw [if_pos (by omega), if_pos (by omega), if_pos (by omega), if_pos h1]
      · by_cases h2 : bt s (i : Int) > b
        · refine ⟨false, Ev.step (f := fun _ => some false) (fun k => ?_) (Ev.now _)⟩
          simp only [attribute_within.l0]
          rw [if_pos (by omega), if_pos (by omega), if_pos (by omega), if_neg h1, if_pos h2]
        · obtain ⟨r, hr⟩ := ih (i + 1) (by omega) (by omega)
          refine ⟨r, Ev.step (fun k => ?_) hr⟩
          simp only [attribute_within.l0]
          rw [if_pos (by omega), if_pos (by omega), if_pos (by omega), if_neg h1, if_neg h2, hw]
  exact this _ 0 rfl (Nat.zero_le _)
theorem name_ev (s : ByteArray) (hs : s.size ≤ 1048576) : ∃ r, Ev (fun k => attribute_IsName.f k s) r := by
  unfold attribute_IsName.f
  by_cases h1 : s.toList = ([] : List UInt8)
  · exact ⟨false, Ev.congr (fun k => if_pos h1) (Ev.now _)⟩
  · by_cases h2 : (s.size : Int) ≤ 64
    · obtain ⟨r, hr⟩ := within_ev s 33 126 hs
      exact ⟨r, Ev.congr (fun k => (if_neg h1).trans (if_pos h2)) (Ev.bind hr (Ev.now _))⟩
    · exact ⟨false, Ev.congr (fun k => (if_neg h1).trans (if_neg h2)) (Ev.now _)⟩
theorem gcd_ev : ∀ (n : Nat) (a b : Int), b.toNat = n → 0 ≤ a → 0 ≤ b → (a ≠ 0 ∨ b ≠ 0) → ∃ r, r ≠ 0 ∧ Ev (fun k => fraction_gcd.l0 k a b) r := by
  intro n
  induction n using Nat.strongRecOn with
  | _ n ih =>
    intro a b hn ha hb hne
    by_cases h : b = 0
    · refine ⟨a, by omega, Ev.step (f := fun _ => some a) (fun k => ?_) (Ev.now _)⟩
      simp only [fraction_gcd.l0]
      rw [if_pos h]
    · have h1 : 0 ≤ Int.tmod a b := Int.tmod_nonneg _ ha
      have h2 : Int.tmod a b < b := Int.tmod_lt_of_pos _ (by omega)
      obtain ⟨r, hr0, hr⟩ := ih (Int.tmod a b).toNat (by omega) b (Int.tmod a b) rfl hb h1 (.inl h)
      refine ⟨r, hr0, Ev.step (fun k => ?_) hr⟩
      simp only [fraction_gcd.l0]
      rw [if_neg h]
theorem u64w (x : Int) : IntKind.u64.wrap x = x % 18446744073709551616 := by
  simp [IntKind.wrap, IntKind.bits, IntKind.signed]
theorem mag_ev (a : Int) (h1 : -9223372036854775808 ≤ a) (h2 : a ≤ 9223372036854775807) : fraction_magnitude.f a = some (if a < 0 then -a else a) := by
  unfold fraction_magnitude.f
  rw [u64w, u64w]
  by_cases h : a < 0
  · rw [if_pos h, if_pos h]
    congr 1
    omega
  · rw [if_neg h, if_neg h]
    congr 1
    omega
theorem make_ev (a b : Int) (ha : -9223372036854775808 ≤ a ∧ a ≤ 9223372036854775807) (hb : -9223372036854775808 ≤ b ∧ b ≤ 9223372036854775807) : ∃ r, Ev (fun k => fraction_Make.f k a b) r := by
  unfold fraction_Make.f
  by_cases h : b = 0
  · exact ⟨_, Ev.congr (fun k => if_pos h) (Ev.now _)⟩
  · obtain ⟨g, hg0, hg⟩ := gcd_ev _ (if a < 0 then -a else a) (if b < 0 then -b else b) rfl (by split <;> omega) (by split <;> omega) (.inr (by split <;> omega))
    have hj : ∀ (c : Bool) (x y : Int), ∃ r, Ev (fun k => fraction_Make.j0 k a b x y c) r := by
      intro c x y
      cases c with
      | true => exact ⟨_, Ev.step (f := fun _ => some (0, 0, 20)) (fun k => by simp only [fraction_Make.j0]; rfl) (Ev.now _)⟩
      | false =>
        by_cases hd : ((decide (a < 0)) != (decide (b < 0))) = true
        · exact ⟨_, Ev.step (f := fun _ => some (wrap64 (-(wrap64 x)), wrap64 y, 0)) (fun k => by simp only [fraction_Make.j0]; rw [if_neg (by decide), if_pos hd]) (Ev.now _)⟩
        · exact ⟨_, Ev.step (f := fun _ => some (wrap64 x, wrap64 y, 0)) (fun k => by simp only [fraction_Make.j0]; rw [if_neg (by decide), if_neg hd]) (Ev.now _)⟩
    have hG : Ev (fun k => fraction_gcd.f k (if a < 0 then -a else a) (if b < 0 then -b else b)) g := hg
    rw [mag_ev a ha.1 ha.2, mag_ev b hb.1 hb.2]
    simp only [Option.bind_some]
    by_cases hc : IntKind.u64.wrap (Int.tdiv (if a < 0 then -a else a) g) > 1048576
    · obtain ⟨r, hr⟩ := hj true (IntKind.u64.wrap (Int.tdiv (if a < 0 then -a else a) g)) (IntKind.u64.wrap (Int.tdiv (if b < 0 then -b else b) g))
      exact ⟨r, Ev.congr (fun k => if_neg h) (Ev.bind hG (Ev.congr (fun k => (if_neg hg0).trans (if_pos hc)) hr))⟩
    · obtain ⟨r, hr⟩ := hj (decide (IntKind.u64.wrap (Int.tdiv (if b < 0 then -b else b) g) > 1048576)) (IntKind.u64.wrap (Int.tdiv (if a < 0 then -a else a) g)) (IntKind.u64.wrap (Int.tdiv (if b < 0 then -b else b) g))
      exact ⟨r, Ev.congr (fun k => if_neg h) (Ev.bind hG (Ev.congr (fun k => (if_neg hg0).trans (if_neg hc)) hr))⟩
theorem quant_ev (a b : Int) (ha : -9223372036854775808 ≤ a ∧ a ≤ 9223372036854775807) (hb : -9223372036854775808 ≤ b ∧ b ≤ 9223372036854775807) : ∃ r, Ev (fun k => series_quantile.f k a b) r := by
  obtain ⟨r, hr⟩ := make_ev a b ha hb
  have hc : ∃ c, Ev (fun k => fraction_Check.f k a b) c := by
    unfold fraction_Check.f
    by_cases h1 : r.2.2 = 0
    · by_cases h2 : (!(r.1 == a) || (!(r.2.1 == b))) = true
      · exact ⟨3, Ev.bind hr (Ev.congr (fun k => (if_pos h1).trans (if_pos h2)) (Ev.now _))⟩
      · exact ⟨0, Ev.bind hr (Ev.congr (fun k => (if_pos h1).trans (if_neg h2)) (Ev.now _))⟩
    · exact ⟨3, Ev.bind hr (Ev.congr (fun k => if_neg h1) (Ev.now _))⟩
  obtain ⟨c, hc⟩ := hc
  unfold series_quantile.f
  by_cases h1 : c = 0
  · by_cases h2 : a > 0
    · exact ⟨_, Ev.bind hc (Ev.congr (fun k => (if_pos h1).trans (if_pos h2)) (Ev.now _))⟩
    · exact ⟨_, Ev.bind hc (Ev.congr (fun k => (if_pos h1).trans (if_neg h2)) (Ev.now _))⟩
  · exact ⟨_, Ev.bind hc (Ev.congr (fun k => if_neg h1) (Ev.now _))⟩
theorem sj3 (c : Bool) (s0 s1 : ByteArray) (s2 s3 s4 s5 : Int) (l : List Int) : ∃ r, Ev (fun k => series_Check.j3 k c s0 s1 s2 s3 s4 s5 l) r := by
  cases c with
  | true => exact ⟨_, Ev.step (f := fun _ => some 32) (fun k => by simp only [series_Check.j3]; rfl) (Ev.now _)⟩
  | false =>
    by_cases h1 : (l.length : Int) > 1024
    · exact ⟨_, Ev.step (f := fun _ => some 6) (fun k => by simp only [series_Check.j3]; rw [if_neg (by decide), if_pos h1]) (Ev.now _)⟩
    · by_cases h2 : wrap64 (s5 + (l.length : Int)) > 1048577
      · exact ⟨_, Ev.step (f := fun _ => some 32) (fun k => by simp only [series_Check.j3]; rw [if_neg (by decide), if_neg h1, if_pos h2]) (Ev.now _)⟩
      · exact ⟨_, Ev.step (f := fun _ => some (if l.any HandC.bad = true then 2 else 0)) (fun k => by
          simp only [series_Check.j3, slices_ContainsFunc_int_int.f, Option.bind_some]
          rw [if_neg (by decide), if_neg h1, if_neg h2]
          split <;> rfl) (Ev.now _)⟩
theorem sj2 (c : Bool) (s0 s1 : ByteArray) (s2 s3 s4 s5 : Int) (l : List Int) : ∃ r, Ev (fun k => series_Check.j2 k c s0 s1 s2 s3 s4 s5 l) r := by
  cases c with
  | true => exact ⟨_, Ev.step (f := fun _ => some 3) (fun k => by simp only [series_Check.j2]; rfl) (Ev.now _)⟩
  | false =>
    by_cases h1 : s5 < 0
    · obtain ⟨r, hr⟩ := sj3 true s0 s1 s2 s3 s4 s5 l
      exact ⟨r, Ev.step (fun k => by simp only [series_Check.j2]; rw [if_neg (by decide), if_pos h1]) hr⟩
    · obtain ⟨r, hr⟩ := sj3 (decide (s5 > 1048576)) s0 s1 s2 s3 s4 s5 l
      exact ⟨r, Ev.step (fun k => by simp only [series_Check.j2]; rw [if_neg (by decide), if_neg h1]) hr⟩
theorem sj1 (c : Bool) (s0 s1 : ByteArray) (s2 s3 s4 s5 : Int) (l : List Int) (h3 : -9223372036854775808 ≤ s3 ∧ s3 ≤ 9223372036854775807) (h4 : -9223372036854775808 ≤ s4 ∧ s4 ≤ 9223372036854775807) : ∃ r, Ev (fun k => series_Check.j1 k c s0 s1 s2 s3 s4 s5 l) r := by
  cases c with
  | true => exact ⟨_, Ev.step (f := fun _ => some 12) (fun k => by simp only [series_Check.j1]; rfl) (Ev.now _)⟩
  | false =>
    by_cases h1 : s2 = 3
    · obtain ⟨q, hq⟩ := quant_ev s3 s4 h3 h4
      obtain ⟨r, hr⟩ := sj2 (!q) s0 s1 s2 s3 s4 s5 l
      refine ⟨r, Ev.step (f := fun k => (series_quantile.f k s3 s4).bind fun t272 => (if t272 = true then (series_Check.j2 k false s0 s1 s2 s3 s4 s5 l) else (series_Check.j2 k true s0 s1 s2 s3 s4 s5 l))) (fun k => by simp only [series_Check.j1]; rw [if_neg (by decide), if_pos h1]) (Ev.bind hq ?_)⟩
      cases q with
      | true => exact Ev.congr (fun k => if_pos rfl) hr
      | false => exact Ev.congr (fun k => if_neg (by decide)) hr
    · obtain ⟨r, hr⟩ := sj2 (!(s3 == 0) || (!(s4 == 0))) s0 s1 s2 s3 s4 s5 l
      exact ⟨r, Ev.step (fun k => by simp only [series_Check.j1]; rw [if_neg (by decide), if_neg h1]) hr⟩
theorem sj0 (c : Bool) (s0 s1 : ByteArray) (s2 s3 s4 s5 : Int) (l : List Int) (h3 : -9223372036854775808 ≤ s3 ∧ s3 ≤ 9223372036854775807) (h4 : -9223372036854775808 ≤ s4 ∧ s4 ≤ 9223372036854775807) : ∃ r, Ev (fun k => series_Check.j0 k c s0 s1 s2 s3 s4 s5 l) r := by
  cases c with
  | true => exact ⟨_, Ev.step (f := fun _ => some 11) (fun k => by simp only [series_Check.j0]; rfl) (Ev.now _)⟩
  | false =>
    by_cases h1 : s2 < 1
    · obtain ⟨r, hr⟩ := sj1 true s0 s1 s2 s3 s4 s5 l h3 h4
      exact ⟨r, Ev.step (fun k => by simp only [series_Check.j0]; rw [if_neg (by decide), if_pos h1]) hr⟩
    · obtain ⟨r, hr⟩ := sj1 (decide (s2 > 3)) s0 s1 s2 s3 s4 s5 l h3 h4
      exact ⟨r, Ev.step (fun k => by simp only [series_Check.j0]; rw [if_neg (by decide), if_neg h1]) hr⟩
theorem series_ev (s0 s1 : ByteArray) (s2 s3 s4 s5 : Int) (l : List Int) (h0 : s0.size ≤ 1048576) (hs1 : s1.size ≤ 1048576) (h3 : -9223372036854775808 ≤ s3 ∧ s3 ≤ 9223372036854775807) (h4 : -9223372036854775808 ≤ s4 ∧ s4 ≤ 9223372036854775807) : ∃ r, Ev (fun k => series_Check.f k s0 s1 s2 s3 s4 s5 l) r := by
  obtain ⟨n0, e0⟩ := name_ev s0 h0
  obtain ⟨n1, e1⟩ := name_ev s1 hs1
  unfold series_Check.f
  cases n0 with
  | false =>
    obtain ⟨r, hr⟩ := sj0 true s0 s1 s2 s3 s4 s5 l h3 h4
    exact ⟨r, Ev.bind e0 (Ev.congr (fun k => if_neg (by decide)) hr)⟩
  | true =>
    by_cases h1 : s1.toList = ([] : List UInt8)
    · obtain ⟨r, hr⟩ := sj0 false s0 s1 s2 s3 s4 s5 l h3 h4
      exact ⟨r, Ev.bind e0 (Ev.congr (fun k => (if_pos rfl).trans (if_pos h1)) hr)⟩
    · obtain ⟨r, hr⟩ := sj0 (!n1) s0 s1 s2 s3 s4 s5 l h3 h4
      exact ⟨r, Ev.bind e0 (Ev.congr (fun k => (if_pos rfl).trans (if_neg h1)) (Ev.bind e1 hr))⟩
theorem lawRefuses (s0 s1 : ByteArray) (s2 s3 s4 s5 : Int) (l : List Int) (p : Int) (h3 : -9223372036854775808 ≤ s3 ∧ s3 ≤ 9223372036854775807) (h4 : -9223372036854775808 ≤ s4 ∧ s4 ≤ 9223372036854775807) : Ev (fun k => sleuthlaw45_ChangepointRefuses.f k s0 s1 s2 s3 s4 s5 l p) true := by
  have hj : Ev (fun k => sleuthlaw45_ChangepointRefuses.j0 k p true s0 s1 s2 s3 s4 s5 l) true := by
    refine Ev.step (f := fun k => (sleuthlaw45_known.f k).bind fun t => some t) (fun k => ?_) (Ev.bind known_ev (Ev.now true))
    simp only [sleuthlaw45_ChangepointRefuses.j0]
    rfl
  unfold sleuthlaw45_ChangepointRefuses.f
  refine Ev.bind known_ev ?_
  simp only [if_true]
  by_cases c1 : (l.length : Int) > 8
  · exact Ev.congr (fun k => if_pos c1) hj
  · refine Ev.congr (fun k => if_neg c1) ?_
    by_cases c2 : (s0.size : Int) > 80
    · exact Ev.congr (fun k => if_pos c2) hj
    · refine Ev.congr (fun k => if_neg c2) ?_
      by_cases c3 : (s1.size : Int) > 80
      · rw [decide_eq_true c3]
        exact hj
      · rw [decide_eq_false c3]
        obtain ⟨sc, hs⟩ := series_ev s0 s1 s2 s3 s4 s5 l (by omega) (by omega) h3 h4
        refine Ev.step (f := fun k => (changepoint_Of.f k s0 s1 s2 s3 s4 s5 l p).bind fun bt599 => ((series_Check.f k s0 s1 s2 s3 s4 s5 l).bind fun t603 => (if t603 = 0 then ((segmentation_Check.f k l p).bind fun t604 => (if bt599.2 = t604 then (if bt599.2 = 0 then (some true) else (some ((bt599.1.length : Int) == 0))) else (some false))) else (if bt599.2 = t603 then (if bt599.2 = 0 then (some true) else (some ((bt599.1.length : Int) == 0))) else (some false))))) (fun k => ?_) ?_
        · simp only [sleuthlaw45_ChangepointRefuses.j0]
          rw [if_neg (by decide)]
        · by_cases hz : sc = 0
          · subst hz
            by_cases hc : chk l p = 0
            · obtain ⟨n, c, lev, eb, ev, hl, hcc⟩ := found l p hc
              refine Ev.bind (of_ok hs hc eb ev hl hcc) ?_
              refine Ev.bind hs ?_
              simp only [if_true]
              have hk := check_ev l p
              rw [hc] at hk
              refine Ev.bind hk ?_
              simp only [if_true]
              exact Ev.now _
            · refine Ev.bind (of_bad2 hs hc) ?_
              refine Ev.bind hs ?_
              simp only [if_true]
              refine Ev.bind (check_ev l p) ?_
              simp only [if_true]
              refine Ev.congr (fun k => if_neg hc) ?_
              exact Ev.now _
          · refine Ev.bind (of_bad1 hs hz) ?_
            refine Ev.bind hs ?_
            refine Ev.congr (fun k => if_neg hz) ?_
            simp only [if_true]
            refine Ev.congr (fun k => if_neg hz) ?_
            exact Ev.now _
end Go.Proofs.Ytcjgmofgfblmnaa.Seg
