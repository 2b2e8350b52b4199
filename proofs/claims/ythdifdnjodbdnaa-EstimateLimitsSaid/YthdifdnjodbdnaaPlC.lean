/- Plain law: EstimateLimits. -/
import Derived.Test.YthdifdnjodbdnaaPl
import Derived.Test.YthdifdnjodbdnaaQgLim
namespace Go.Proofs.Ythdifdnjodbdnaa.Pl
open Go.RowKit Go.Proofs.YthdifdnjodbdnaaW.PrintWords Go.Proofs.YthdifdnjodbdnaaW.PrintLast Go.Proofs.YthdifdnjodbdnaaW.PrintMore Go.Proofs.Ythdifdnjodbdnaa.Q
set_option linter.unusedVariables false
set_option linter.unusedSimpArgs false
set_option linter.unusedSimpArgs false
theorem within_ev (s : ByteArray) (a b : Int) (hs : s.size ≤ 1048576) : ∃ r, Ev (fun k => attribute_within.f k s a b) r := by
  have : ∀ (d i : Nat), s.size - i = d → i ≤ s.size → ∃ r, Ev (fun k => attribute_within.l0 k s a b (s.size : Int) (i : Int)) r := by
    intro d
    induction d with
    | zero =>
      intro i hd hi
      refine ⟨true, Ev.step (f := fun _ => some true) (fun k => ?_) (Ev.now _)⟩
      simp only [attribute_within.l0]
      rw [if_neg (by omega)]
    | succ d ih =>
      intro i hd hi
      have hw : wrap64 ((i : Int) + 1) = ((i + 1 : Nat) : Int) := by rw [w64 (by omega) (by omega)]; omega
      by_cases h1 : bt s (i : Int) < a
      · refine ⟨false, Ev.step (f := fun _ => some false) (fun k => ?_) (Ev.now _)⟩
        simp only [attribute_within.l0]
        rw [if_pos (by omega), if_pos (by omega), if_pos (by omega), if_pos h1]
      · by_cases h2 : bt s (i : Int) > b
        · refine ⟨false, Ev.step (f := fun _ => some false) (fun k => ?_) (Ev.now _)⟩
          simp only [attribute_within.l0]
          rw [if_pos (by omega), if_pos (by omega), if_pos (by omega), if_neg h1, if_pos h2]
        · obtain ⟨r, hr⟩ := ih (i + 1) (by omega) (by omega)
          refine ⟨r, Ev.step (fun k => ?_) hr⟩
          simp only [attribute_within.l0]
          rw [if_pos (by omega), if_pos (by omega), if_pos (by omega), if_neg h1, if_neg h2, hw]
  exact this _ 0 rfl (Nat.zero_le _)
theorem name_ev (s : ByteArray) (hs : s.size ≤ 1048576) : ∃ r, Ev (fun k => attribute_IsName.f k s) r := by
  unfold attribute_IsName.f
  by_cases h1 : s.toList = ([] : List UInt8)
  · exact ⟨false, Ev.congr (fun k => if_pos h1) (Ev.now _)⟩
  · by_cases h2 : (s.size : Int) ≤ 64
    · obtain ⟨r, hr⟩ := within_ev s 33 126 hs
      exact ⟨r, Ev.congr (fun k => (if_neg h1).trans (if_pos h2)) (Ev.bind hr (Ev.now _))⟩
    · exact ⟨false, Ev.congr (fun k => (if_neg h1).trans (if_neg h2)) (Ev.now _)⟩
section
variable (a0 a1 a2 : ByteArray)
theorem span_end (i : Int) : Ev (fun k => span_Check.j3 k false 9 i 0 0 1 3 a0 a1 a2 0 0 false [] []) 0 := by
  refine Ev.step (f := fun k => (attribute_CheckAttrs.f k []).bind fun t209 => ((span_checkLinks.f k []).bind fun t210 => ((api_Errno.f k [t209, t210]).bind fun t214 => some t214))) (fun k => by kernel_rfl) ?_
  have hA : Ev (fun k => attribute_CheckAttrs.f k []) 0 := Ev.of (fun k => attribute_CheckAttrs.mono [] k) (k := 4) (by kernel_rfl)
  have hB : Ev (fun k => span_checkLinks.f k []) 0 := Ev.of (fun k => span_checkLinks.mono [] k) (k := 4) (by kernel_rfl)
  have hC : Ev (fun k => api_Errno.f k [0, 0]) 0 := Ev.of (fun k => api_Errno.mono [0, 0] k) (k := 4) (by kernel_rfl)
  exact Ev.bind hA (Ev.bind hB (Ev.bind hC (Ev.now 0)))
theorem span_tail (b : Bool) : ∃ r, ∀ i : Int, Ev (fun k => span_Check.j2 k b 9 i 0 0 1 3 a0 a1 a2 0 0 false [] []) r := by
  cases b with
  | true => exact ⟨11, fun i => Ev.step (f := fun _ => some 11) (fun k => by kernel_rfl) (Ev.now _)⟩
  | false => exact ⟨0, fun i => Ev.step (fun k => by kernel_rfl) (span_end a0 a1 a2 i)⟩
theorem span_names (h0 : a0.size ≤ 1048576) (h1 : a1.size ≤ 1048576) (h2 : a2.size ≤ 1048576) : ∃ r, ∀ i : Int, Ev (fun k => span_Check.j1 k false 9 i 0 0 1 3 a0 a1 a2 0 0 false [] []) r := by
  obtain ⟨b0, e0⟩ := name_ev a0 h0
  obtain ⟨b1, e1⟩ := name_ev a1 h1
  obtain ⟨b2, e2⟩ := name_ev a2 h2
  have hs : ∀ i k, span_Check.j1 (k + 1) false 9 i 0 0 1 3 a0 a1 a2 0 0 false [] [] = (attribute_IsName.f k a0).bind fun t206 => (if t206 = true then ((attribute_IsName.f k a2).bind fun t207 => (if t207 = true then (if a1.toList = ([] : List UInt8) then (span_Check.j2 k false 9 i 0 0 1 3 a0 a1 a2 0 0 false [] []) else ((attribute_IsName.f k a1).bind fun t208 => (span_Check.j2 k (!t208) 9 i 0 0 1 3 a0 a1 a2 0 0 false [] []))) else (span_Check.j2 k true 9 i 0 0 1 3 a0 a1 a2 0 0 false [] []))) else (span_Check.j2 k true 9 i 0 0 1 3 a0 a1 a2 0 0 false [] [])) := fun i k => rfl
  cases b0 with
  | false =>
    obtain ⟨r, hr⟩ := span_tail a0 a1 a2 true
    exact ⟨r, fun i => Ev.step (hs i) (Ev.bind e0 (Ev.congr (fun k => if_neg (by decide)) (hr i)))⟩
  | true =>
    cases b2 with
    | false =>
      obtain ⟨r, hr⟩ := span_tail a0 a1 a2 true
      exact ⟨r, fun i => Ev.step (hs i) (Ev.bind e0 (Ev.congr (fun k => if_pos rfl) (Ev.bind e2 (Ev.congr (fun k => if_neg (by decide)) (hr i)))))⟩
    | true =>
      by_cases c : a1.toList = ([] : List UInt8)
      · obtain ⟨r, hr⟩ := span_tail a0 a1 a2 false
        exact ⟨r, fun i => Ev.step (hs i) (Ev.bind e0 (Ev.congr (fun k => if_pos rfl) (Ev.bind e2 (Ev.congr (fun k => (if_pos rfl).trans (if_pos c)) (hr i)))))⟩
      · obtain ⟨r, hr⟩ := span_tail a0 a1 a2 (!b1)
        exact ⟨r, fun i => Ev.step (hs i) (Ev.bind e0 (Ev.congr (fun k => if_pos rfl) (Ev.bind e2 (Ev.congr (fun k => (if_pos rfl).trans (if_neg c)) (Ev.bind e1 (hr i))))))⟩
theorem span_ind (h0 : a0.size ≤ 1048576) (h1 : a1.size ≤ 1048576) (h2 : a2.size ≤ 1048576) : ∃ r, ∀ i : Int, 1 ≤ i → i ≤ 1099511627776 → Ev (fun k => span_Check.f k 9 i 0 0 1 3 a0 a1 a2 0 0 false [] []) r := by
  obtain ⟨r, hr⟩ := span_names a0 a1 a2 h0 h1 h2
  refine ⟨r, fun i hi1 hi2 => ?_⟩
  have b9 : span_badId.f 9 = some false := by kernel_rfl
  have bi : span_badId.f i = some false := by
    unfold span_badId.f
    rw [if_neg (by omega), decide_eq_false (by omega)]
  have h3 : Ev (fun k => span_Check.j0 k false 9 i 0 0 1 3 a0 a1 a2 0 0 false [] []) r := Ev.step (fun k => by kernel_rfl) (hr i)
  refine Ev.congr (fun k => ?_) h3
  unfold span_Check.f
  rw [b9, bi]
  rfl
/-- The spans. -/
def spn (i : Int) : S58 := ⟨9, i, 0, 0, 1, 3, a0, a1, a2, 0, 0, false, [], []⟩
def mkL (n : Nat) : List S58 := (List.range n).map fun j : Nat => spn a0 a1 a2 ((j : Int) + 1)
theorem mkL_len (n : Nat) : (mkL a0 a1 a2 n).length = n := by simp [mkL]
theorem mkL_at (n j : Nat) (h : j < n) : rd_T58 (mkL a0 a1 a2 n) (j : Int) = spn a0 a1 a2 ((j : Int) + 1) := by
  unfold rd_T58
  rw [getD_at _ _ (by rw [mkL_len]; exact h)]
  simp [mkL]
theorem mkL_succ (n : Nat) : mkL a0 a1 a2 (n + 1) = mkL a0 a1 a2 n ++ [spn a0 a1 a2 ((n : Int) + 1)] := by simp [mkL, List.range_succ]
theorem check_head (n : Nat) (R : Int) (h : Ev (fun k => estimate_Check.l1 k [⟨9, 1, mkL a0 a1 a2 n⟩] 0 [⟨9, 1, mkL a0 a1 a2 n⟩] 1 0 (mkL a0 a1 a2 n) (n : Int) 0 9 1 (mkL a0 a1 a2 n)) R) : Ev (fun k => Check1.f k (mkL a0 a1 a2 n)) R := by
  have e : ((mkL a0 a1 a2 n).length : Int) = n := by rw [mkL_len]
  refine Ev.step (g := fun k => estimate_Check.l0 k [⟨9, 1, mkL a0 a1 a2 n⟩] 0 [⟨9, 1, mkL a0 a1 a2 n⟩] 1 0) (f := fun k => estimate_Check.j1 k [⟨9, 1, mkL a0 a1 a2 n⟩] 0 0 [⟨9, 1, mkL a0 a1 a2 n⟩] 1 0 false 9 1 (mkL a0 a1 a2 n)) (fun k => rfl) ?_
  refine Ev.step (f := fun k => estimate_Check.j2 k [⟨9, 1, mkL a0 a1 a2 n⟩] 0 [⟨9, 1, mkL a0 a1 a2 n⟩] 1 0 9 1 (mkL a0 a1 a2 n)) (fun k => rfl) ?_
  refine Ev.step (fun k => ?_) h
  rw [← e]
  rfl
def step1 (n j : Nat) (t : Int) (k : Nat) : Option Int := if t = 0 then estimate_Check.l1 k [⟨9, 1, mkL a0 a1 a2 n⟩] 0 [⟨9, 1, mkL a0 a1 a2 n⟩] 1 0 (mkL a0 a1 a2 n) (n : Int) ((j + 1 : Nat) : Int) 9 1 (mkL a0 a1 a2 n) else some t
theorem step_eq (n j : Nat) (h : j < n) (hn : n ≤ 1000000) (k : Nat) : estimate_Check.l1 (k + 1) [⟨9, 1, mkL a0 a1 a2 n⟩] 0 [⟨9, 1, mkL a0 a1 a2 n⟩] 1 0 (mkL a0 a1 a2 n) (n : Int) (j : Int) 9 1 (mkL a0 a1 a2 n) =
    (span_Check.f k 9 ((j : Int) + 1) 0 0 1 3 a0 a1 a2 0 0 false [] []).bind fun t => step1 a0 a1 a2 n j t k := by
  have hg := mkL_at a0 a1 a2 n j h
  have hw : wrap64 ((j : Int) + 1) = ((j + 1 : Nat) : Int) := w_succ h (by omega)
  simp only [estimate_Check.l1]
  rw [if_pos (by omega), if_pos (by omega), if_pos (by rw [mkL_len]; omega), hg]
  show (span_Check.f k 9 ((j : Int) + 1) 0 0 1 3 a0 a1 a2 0 0 false [] []).bind _ = _
  congr 1
  funext t
  unfold step1
  by_cases c : t = 0
  · rw [if_pos c, if_pos c, if_pos (show (spn a0 a1 a2 ((j : Int) + 1)).f0 = 9 from rfl)]
    by_cases c2 : (j : Int) > 0
    · have hw2 : wrap64 ((j : Int) - 1) = ((j - 1 : Nat) : Int) := by rw [w64 (by omega) (by omega)]; omega
      rw [if_pos c2, hw2, if_pos (by omega), if_pos (by rw [mkL_len]; omega), mkL_at a0 a1 a2 n (j - 1) (by omega)]
      rw [if_neg (show ¬ ((spn a0 a1 a2 ((j : Int) + 1)).f1 ≤ (spn a0 a1 a2 (((j - 1 : Nat) : Int) + 1)).f1) by show ¬ ((j : Int) + 1 ≤ ((j - 1 : Nat) : Int) + 1); omega), hw]
    · rw [if_neg c2, hw]
  · rw [if_neg c, if_neg c]
theorem check_bad (n : Nat) (hn : 0 < n) (hn2 : n ≤ 1000000) (r : Int) (hr : Ev (fun k => span_Check.f k 9 1 0 0 1 3 a0 a1 a2 0 0 false [] []) r) (hr0 : r ≠ 0) : Ev (fun k => Check1.f k (mkL a0 a1 a2 n)) r := by
  refine check_head a0 a1 a2 n r ?_
  have hg := mkL_at a0 a1 a2 n 0 hn
  refine Ev.step (f := fun k => (span_Check.f k 9 1 0 0 1 3 a0 a1 a2 0 0 false [] []).bind fun t => step1 a0 a1 a2 n 0 t k) (fun k => step_eq a0 a1 a2 n 0 hn (by omega) k) (Ev.bind hr ?_)
  exact Ev.congr (fun k => if_neg hr0) (Ev.now r)
theorem check_good (n : Nat) (hn : n ≤ 4097) (hr : ∀ i : Int, 1 ≤ i → i ≤ 1099511627776 → Ev (fun k => span_Check.f k 9 i 0 0 1 3 a0 a1 a2 0 0 false [] []) 0) : Ev (fun k => Check1.f k (mkL a0 a1 a2 n)) (if n > 4096 then 6 else 0) := by
  refine check_head a0 a1 a2 n _ ?_
  have : ∀ (d j : Nat), n - j = d → j ≤ n → Ev (fun k => estimate_Check.l1 k [⟨9, 1, mkL a0 a1 a2 n⟩] 0 [⟨9, 1, mkL a0 a1 a2 n⟩] 1 0 (mkL a0 a1 a2 n) (n : Int) (j : Int) 9 1 (mkL a0 a1 a2 n)) (if n > 4096 then 6 else 0) := by
    intro d
    induction d with
    | zero =>
      intro j hd hj
      refine Ev.step (f := fun k => estimate_Check.l0 k [⟨9, 1, mkL a0 a1 a2 n⟩] (n : Int) [⟨9, 1, mkL a0 a1 a2 n⟩] 1 1) (fun k => ?_) ?_
      · simp only [estimate_Check.l1]
        rw [if_neg (by omega), mkL_len, Int.zero_add, w64 (by omega) (by omega), Int.zero_add, w64 (by omega) (by omega)]
      · refine Ev.step (f := fun _ => some _) (fun k => ?_) (Ev.now _)
        simp only [estimate_Check.l0]
        rw [if_neg (by omega)]
        by_cases c : n > 4096
        · rw [if_pos (by omega), if_pos c]
        · rw [if_neg (by omega), if_neg c]
    | succ d ih =>
      intro j hd hj
      have hlt : j < n := by omega
      refine Ev.step (f := fun k => (span_Check.f k 9 ((j : Int) + 1) 0 0 1 3 a0 a1 a2 0 0 false [] []).bind fun t => step1 a0 a1 a2 n j t k) (fun k => step_eq a0 a1 a2 n j hlt (by omega) k) (Ev.bind (hr _ (by omega) (by omega)) ?_)
      exact Ev.congr (fun k => if_pos rfl) (ih (j + 1) (by omega) (by omega))
  exact this n 0 rfl (Nat.zero_le _)
def lastT (t205 t209 t210 : Int) : Option Bool := if t205 = t210 then (if t209 = t210 then (if t210 = 0 then (if t209 = 6 then (some (t210 == 0)) else (some false)) else (some true)) else (if t209 = 6 then (some (t210 == 0)) else (some false))) else (some false)
theorem last_eq (L1 L2 : List S58) (x9 q : Int) (hx : ¬ x9 ≤ 4096) (k : Nat) (hl : L1.length < 837723144972) (e1 : L1 ++ [(⟨9, 4097, 0, 0, 1, 3, a0, a1, a2, 0, 0, false, [], []⟩ : S58)] = L2) : sleuthlaw25_EstimateLimits.l0 (k + 1) x9 9 1 L1 9 q 0 0 1 3 a0 a1 a2 0 0 false =
    (Check1.f k L1).bind fun t205 => ((Check1.f k L2).bind fun t209 => ((span_Check.f k 9 4097 0 0 1 3 a0 a1 a2 0 0 false [] []).bind fun t210 => lastT t205 t209 t210)) := by
  simp only [sleuthlaw25_EstimateLimits.l0]
  rw [if_neg hx, e1]
  congr 1
  funext t205
  rw [if_pos hl]
  rfl
theorem lim_loop (r : Int) (hr : ∀ i : Int, 1 ≤ i → i ≤ 1099511627776 → Ev (fun k => span_Check.f k 9 i 0 0 1 3 a0 a1 a2 0 0 false [] []) r) :
    ∀ (d i : Nat), 4096 - i = d → i ≤ 4096 → ∀ q : Int, Ev (fun k => sleuthlaw25_EstimateLimits.l0 k ((i : Int) + 1) 9 1 (mkL a0 a1 a2 i) 9 q 0 0 1 3 a0 a1 a2 0 0 false) true := by
  intro d
  induction d with
  | zero =>
    intro i hd hi q
    obtain rfl : i = 4096 := by omega
    have e1 : mkL a0 a1 a2 4096 ++ [(⟨9, 4097, 0, 0, 1, 3, a0, a1, a2, 0, 0, false, [], []⟩ : S58)] = mkL a0 a1 a2 4097 := (mkL_succ a0 a1 a2 4096).symm
    by_cases c : r = 0
    · subst c
      have c1 := check_good a0 a1 a2 4096 (by omega) hr
      have c2 := check_good a0 a1 a2 4097 (by omega) hr
      rw [if_neg (by omega)] at c1
      rw [if_pos (by omega)] at c2
      refine Ev.step (f := fun k => (Check1.f k (mkL a0 a1 a2 4096)).bind fun t205 => ((Check1.f k (mkL a0 a1 a2 4097)).bind fun t209 => ((span_Check.f k 9 4097 0 0 1 3 a0 a1 a2 0 0 false [] []).bind fun t210 => lastT t205 t209 t210))) (fun k => last_eq a0 a1 a2 _ _ _ q (by omega) k (by rw [mkL_len]; omega) e1) ?_
      exact Ev.bind c1 (Ev.bind c2 (Ev.bind (hr 4097 (by omega) (by omega)) (Ev.now true)))
    · have c1 := check_bad a0 a1 a2 4096 (by omega) (by omega) r (hr 1 (by omega) (by omega)) c
      have c2 := check_bad a0 a1 a2 4097 (by omega) (by omega) r (hr 1 (by omega) (by omega)) c
      refine Ev.step (f := fun k => (Check1.f k (mkL a0 a1 a2 4096)).bind fun t205 => ((Check1.f k (mkL a0 a1 a2 4097)).bind fun t209 => ((span_Check.f k 9 4097 0 0 1 3 a0 a1 a2 0 0 false [] []).bind fun t210 => lastT t205 t209 t210))) (fun k => last_eq a0 a1 a2 _ _ _ q (by omega) k (by rw [mkL_len]; omega) e1) ?_
      refine Ev.bind c1 (Ev.bind c2 (Ev.bind (hr 4097 (by omega) (by omega)) (Ev.congr (fun k => ?_) (Ev.now true))))
      unfold lastT
      rw [if_pos rfl, if_pos rfl, if_neg c]
  | succ d ih =>
    intro i hd hi q
    refine Ev.step (fun k => ?_) (ih (i + 1) (by omega) (by omega) ((i : Int) + 1))
    simp only [sleuthlaw25_EstimateLimits.l0]
    rw [if_pos (by omega), if_pos (by rw [mkL_len]; omega), show wrap64 ((i : Int) + 1 + 1) = ((i + 1 : Nat) : Int) + 1 by rw [w64 (by omega) (by omega)]; omega, mkL_succ]
    rfl
theorem limits (h0 : a0.size ≤ 140737488351232) (h1 : a1.size ≤ 140737488351232) (h2 : a2.size ≤ 140737488351232) : ∃ k, sleuthlaw25_EstimateLimits.f k a0 a1 a2 = some true := by
  apply Ev.rounds
  have hk := known_ev
  have hj : Ev (fun k => sleuthlaw25_EstimateLimits.j0 k a0 a1 a2 true) true := Ev.step (f := fun k => (sleuthlaw25_known.f k).bind fun t199 => some t199) (fun k => rfl) (Ev.bind hk (Ev.now true))
  refine Ev.bind (g := fun k => sleuthlaw25_known.f k) (f := fun k t198 => if t198 = true then (if (a0.size : Int) > 100 then (sleuthlaw25_EstimateLimits.j0 k a0 a1 a2 true) else (if (a1.size : Int) > 100 then (sleuthlaw25_EstimateLimits.j0 k a0 a1 a2 true) else (sleuthlaw25_EstimateLimits.j0 k a0 a1 a2 (decide ((a2.size : Int) > 100))))) else (sleuthlaw25_EstimateLimits.j0 k a0 a1 a2 true)) hk ?_
  refine Ev.congr (fun k => if_pos rfl) ?_
  by_cases c0 : (a0.size : Int) > 100
  · exact Ev.congr (fun k => if_pos c0) hj
  · refine Ev.congr (fun k => if_neg c0) ?_
    by_cases c1 : (a1.size : Int) > 100
    · exact Ev.congr (fun k => if_pos c1) hj
    · refine Ev.congr (fun k => if_neg c1) ?_
      by_cases c2 : (a2.size : Int) > 100
      · exact Ev.congr (fun k => by rw [decide_eq_true c2]) hj
      · refine Ev.congr (f := fun k => sleuthlaw25_EstimateLimits.j0 k a0 a1 a2 false) (fun k => by rw [decide_eq_false c2]) ?_
        obtain ⟨r, hr⟩ := span_ind a0 a1 a2 (by omega) (by omega) (by omega)
        exact Ev.step (fun k => rfl) (lim_loop a0 a1 a2 r hr 4096 0 rfl (by omega) 0)
end
end Go.Proofs.Ythdifdnjodbdnaa.Pl
