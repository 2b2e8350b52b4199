/- The plain law of EstimateContains. -/
import Derived.Test.YthdifdnjodbdnaaPs
import Derived.Test.YthdifdnjodbdnaaPl
import Derived.Test.YthdifdnjodbdnaaQgSleuthlaw25EstimateContains
namespace Go.Proofs.Ythdifdnjodbdnaa.Pl
open Go.RowKit Go.Proofs.YthdifdnjodbdnaaW.PrintWords Go.Proofs.YthdifdnjodbdnaaW.PrintLast Go.Proofs.YthdifdnjodbdnaaW.PrintMore Go.Proofs.Ythdifdnjodbdnaa.Q Go.Proofs.Ythdifdnjodbdnaa.RowS
set_option linter.unusedVariables false
set_option linter.unusedSimpArgs false
set_option linter.unusedSimpArgs false
theorem remS_append (p : Int) (svc : ByteArray) (a b : List S60) : remS p svc (a ++ b) = remS p svc a + remS p svc b := by
  unfold remS
  rw [List.map_append, List.sum_append]
theorem remS_made (p : Int) (svc : ByteArray) (t : Int) (l : List S58) : remS p svc (l.map fun s => (⟨t / 1048576 / 16, s.f6, 1, 0⟩ : S60)) = (hits p svc t l : Int) := by
  induction l with
  | nil => rfl
  | cons s l ih =>
    have h0 : remS p svc ((s :: l).map fun s => (⟨t / 1048576 / 16, s.f6, 1, 0⟩ : S60)) = (if t / 1048576 / 16 = p ∧ s.f6.toList = svc.toList then 1 else 0) + remS p svc (l.map fun s => (⟨t / 1048576 / 16, s.f6, 1, 0⟩ : S60)) := by
      unfold remS
      rw [List.map_cons, List.map_cons, List.sum_cons]
    rw [h0, ih]
    unfold hits
    by_cases c : t / 1048576 / 16 = p ∧ s.f6.toList = svc.toList
    · rw [if_pos c, List.filter_cons_of_pos (by simp [hit, c.1, c.2]), List.length_cons]; omega
    · rw [if_neg c, List.filter_cons_of_neg (by unfold hit; rw [Bool.and_eq_true, decide_eq_true_eq, decide_eq_true_eq]; exact c)]; omega
theorem hitsT_append (p : Int) (svc : ByteArray) (a b : List S53) : hitsT p svc (a ++ b) = hitsT p svc a + hitsT p svc b := by
  unfold hitsT
  rw [List.map_append, List.sum_append]
theorem hitsT_one (p : Int) (svc : ByteArray) (t : S53) : hitsT p svc [t] = hits p svc t.f0 t.f2 := by
  unfold hitsT
  simp
theorem lens_le (ts : List S53) (h : ∀ t ∈ ts, t.f2.length ≤ 8) : (ts.map fun t => t.f2.length).sum ≤ 8 * ts.length := by
  induction ts with
  | nil => exact Nat.le_refl _
  | cons t ts ih =>
    have h1 := ih (fun x hx => h x (List.mem_cons_of_mem _ hx))
    have h2 := h t List.mem_cons_self
    rw [List.map_cons, List.sum_cons, List.length_cons]
    omega
theorem hitsT_le (p : Int) (svc : ByteArray) (ts : List S53) : hitsT p svc ts ≤ (ts.map fun t => t.f2.length).sum := by
  induction ts with
  | nil => exact Nat.le_refl _
  | cons t ts ih =>
    have h1 := hits_le p svc t.f0 t.f2
    unfold hitsT at ih ⊢
    rw [List.map_cons, List.sum_cons, List.map_cons, List.sum_cons]
    omega
theorem lateS_b (p m : Int) (hm : 0 ≤ m ∧ m ≤ 2) (d : List S62) (h : ∀ x ∈ d, x.f1 = m) : 0 ≤ lateS p d ∧ lateS p d ≤ m * d.length := by
  induction d with
  | nil => exact ⟨Int.le_refl _, by show (0 : Int) ≤ m * 0; omega⟩
  | cons x d ih =>
    obtain ⟨h1, h2⟩ := ih (fun x hx => h x (List.mem_cons_of_mem _ hx))
    have h3 := h x List.mem_cons_self
    have e : lateS p (x :: d) = (if x.f0 = p then x.f1 else 0) + lateS p d := by
      unfold lateS
      rw [List.map_cons, List.sum_cons]
    rw [e, List.length_cons, show m * ((d.length + 1 : Nat) : Int) = m * (d.length : Int) + m by rw [Int.natCast_add, Int.mul_add, Int.natCast_one, Int.mul_one]]
    generalize m * (d.length : Int) = q at h2 ⊢
    split <;> omega
/-- What the first loop keeps, at a trace. -/
structure Kept (ts : List S53) (m : Int) (i : Nat) (A : List S53) (C : List S60) (D : List S62) : Prop where
  sum : ∀ p svc, (hitsT p svc A : Int) + remS p svc C = (hitsT p svc (ts.take i) : Int)
  la : A.length ≤ i
  lc : C.length ≤ 8 * i
  ld : D.length ≤ i
  pa : ∀ t ∈ A, t.f2.length ≤ 8
  pc : ∀ x ∈ C, x.f2 = 1
  pd : ∀ x ∈ D, x.f1 = m
section
variable (ts : List S53) (hts : ts.length ≤ 3) (h8 : ∀ t ∈ ts, t.f2.length ≤ 8) (a2 : Int) (ha2 : U8 a2)
theorem traceAt {i : Nat} (hi : i < ts.length) : rd_T53 ts (i : Int) = ts[i] := getD_at ts z53 hi
theorem spanAt (l : List S58) {i : Nat} (hi : i < l.length) : rd_T58 l (i : Int) = l[i] := getD_at l z58 hi
include hts h8 in
theorem k_l5 (p x97 x98 : Int) (svc : ByteArray) (sv : List ByteArray) (A : List S53) (C : List S60) (D : List S62) (R : Bool) {i : Nat} (hi : i < ts.length) : ∀ (d j : Nat), ts[i].f2.length - j = d → j ≤ ts[i].f2.length → ∀ x15 : Int, 0 ≤ x15 → x15 + (ts[i].f2.length - j : Nat) ≤ 1000 →
    Ev (fun k => sleuthlaw25_EstimateContains.l4 k a2 ts p svc (x15 + (hits p svc ts[i].f0 (ts[i].f2.drop j) : Int)) ((i + 1 : Nat) : Int) sv x97 x98 A C D) R →
    Ev (fun k => sleuthlaw25_EstimateContains.l5 k a2 ts p svc x15 (i : Int) (j : Int) sv x97 x98 A C D) R := by
  have hl := h8 _ (List.getElem_mem hi)
  intro d
  induction d with
  | zero =>
    intro j hd hj x15 h0 h1 h
    refine Ev.step (fun k => ?_) h
    simp only [sleuthlaw25_EstimateContains.l5, traceAt ts hi]
    rw [if_pos (by omega), if_pos (by omega), if_neg (by omega), List.drop_of_length_le (by omega), wsucc hi (by omega)]
    simp [hits]
  | succ d ih =>
    intro j hd hj x15 h0 h1 h
    have hlt : j < ts[i].f2.length := by omega
    have hdr : ts[i].f2.drop j = ts[i].f2[j] :: ts[i].f2.drop (j + 1) := drop_at _ hlt
    by_cases c1 : ts[i].f0 / 1048576 / 16 = p
    · by_cases c2 : ts[i].f2[j].f6.toList = svc.toList
      · have hh : hits p svc ts[i].f0 (ts[i].f2.drop j) = hits p svc ts[i].f0 (ts[i].f2.drop (j + 1)) + 1 := by rw [hdr]; unfold hits; rw [List.filter_cons_of_pos (by simp [hit, c1, c2])]; rfl
        refine Ev.step (fun k => ?_) (ih (j + 1) (by omega) (by omega) (x15 + 1) (by omega) (by omega) (by rw [hh] at h; rw [show x15 + 1 + (hits p svc ts[i].f0 (ts[i].f2.drop (j + 1)) : Int) = x15 + ((hits p svc ts[i].f0 (ts[i].f2.drop (j + 1)) + 1 : Nat) : Int) by omega]; exact h))
        simp only [sleuthlaw25_EstimateContains.l5, traceAt ts hi, part_f, Option.bind_some, spanAt _ hlt]
        rw [if_pos (by omega), if_pos (by omega), if_pos (by omega), if_pos c1, if_pos (by omega), if_pos c2, wsucc hlt (by omega), w64d (x := x15 + 1) (by omega) (by omega)]
      · have hh : hits p svc ts[i].f0 (ts[i].f2.drop j) = hits p svc ts[i].f0 (ts[i].f2.drop (j + 1)) := by rw [hdr]; unfold hits; rw [List.filter_cons_of_neg (by simp [hit, c1, c2])]
        refine Ev.step (fun k => ?_) (ih (j + 1) (by omega) (by omega) x15 (by omega) (by omega) (by rw [hh] at h; exact h))
        simp only [sleuthlaw25_EstimateContains.l5, traceAt ts hi, part_f, Option.bind_some, spanAt _ hlt]
        rw [if_pos (by omega), if_pos (by omega), if_pos (by omega), if_pos c1, if_pos (by omega), if_neg c2, wsucc hlt (by omega)]
    · have hh : hits p svc ts[i].f0 (ts[i].f2.drop j) = hits p svc ts[i].f0 (ts[i].f2.drop (j + 1)) := by rw [hdr]; unfold hits; rw [List.filter_cons_of_neg (by simp [hit, c1])]
      refine Ev.step (fun k => ?_) (ih (j + 1) (by omega) (by omega) x15 (by omega) (by omega) (by rw [hh] at h; exact h))
      simp only [sleuthlaw25_EstimateContains.l5, traceAt ts hi, part_f, Option.bind_some, spanAt _ hlt]
      rw [if_pos (by omega), if_pos (by omega), if_pos (by omega), if_neg c1, wsucc hlt (by omega)]
include hts h8 in
theorem k_l4 (p x97 x98 : Int) (svc : ByteArray) (sv : List ByteArray) (A : List S53) (C : List S60) (D : List S62) (R : Bool) : ∀ (d i : Nat), ts.length - i = d → i ≤ ts.length → ∀ x15 : Int, 0 ≤ x15 → x15 + 8 * (ts.length - i : Nat) ≤ 100 →
    Ev (fun k => sleuthlaw25_EstimateContains.l4 k a2 ts p svc (x15 + (hitsT p svc (ts.drop i) : Int)) (ts.length : Int) sv x97 x98 A C D) R →
    Ev (fun k => sleuthlaw25_EstimateContains.l4 k a2 ts p svc x15 (i : Int) sv x97 x98 A C D) R := by
  intro d
  induction d with
  | zero =>
    intro i hd hi x15 h0 h1 h
    obtain rfl : i = ts.length := by omega
    rw [List.drop_of_length_le (Nat.le_refl _)] at h
    simpa [hitsT] using h
  | succ d ih =>
    intro i hd hi x15 h0 h1 h
    have hlt : i < ts.length := by omega
    have hl := h8 _ (List.getElem_mem hlt)
    have hdr : ts.drop i = ts[i] :: ts.drop (i + 1) := drop_at _ hlt
    have hle := hits_le p svc ts[i].f0 ts[i].f2
    have hh : hitsT p svc (ts.drop i) = hits p svc ts[i].f0 ts[i].f2 + hitsT p svc (ts.drop (i + 1)) := by rw [hdr]; unfold hitsT; rw [List.map_cons, List.sum_cons]
    refine Ev.step (fun k => ?_) (k_l5 ts hts h8 a2 p x97 x98 svc sv A C D R hlt _ 0 rfl (Nat.zero_le _) x15 h0 (by omega) ?_)
    · simp only [sleuthlaw25_EstimateContains.l4]
      rw [if_pos (by omega)]
      rfl
    · rw [List.drop_zero]
      refine ih (i + 1) (by omega) (by omega) _ (by omega) (by omega) ?_
      rw [show x15 + (hits p svc ts[i].f0 ts[i].f2 : Int) + (hitsT p svc (ts.drop (i + 1)) : Int) = x15 + (hitsT p svc (ts.drop i) : Int) by rw [hh]; omega]
      exact h
variable {A : List S53} {C : List S60} {D : List S62} (HK : Kept ts (wrap64 (Int.tmod a2 3)) ts.length A C D)
include hts h8 ha2 HK
/-- One service in one partition. -/
theorem k_one (p x97 x98 : Int) (svc : ByteArray) (sv : List ByteArray) (R : Bool) (h : Ev (fun k => sleuthlaw25_EstimateContains.l3 k a2 ts p sv x97 (wrap64 (x98 + 1)) A C D) R) : Ev (fun k => sleuthlaw25_EstimateContains.l4 k a2 ts p svc 0 0 sv x97 x98 A C D) R := by
  obtain ⟨u1, u2⟩ := ha2
  have hm : wrap64 (Int.tmod a2 3) = a2 % 3 := by rw [Int.tmod_eq_emod_of_nonneg u1, w64d (by omega) (by omega)]
  have hm2 : 0 ≤ a2 % 3 ∧ a2 % 3 ≤ 2 := by omega
  have hb := lateS_b p (wrap64 (Int.tmod a2 3)) (by rw [hm]; exact hm2) D HK.pd
  have hsum := HK.sum p svc
  rw [List.take_length] at hsum
  have hle := Nat.le_trans (hitsT_le p svc ts) (lens_le ts h8)
  have hla := lens_le A HK.pa
  have ld := HK.ld
  have la := HK.la
  have lc := HK.lc
  have hL : lateS p D ≤ 6 := by
    refine Int.le_trans hb.2 ?_
    rw [hm]
    have : a2 % 3 * (D.length : Int) ≤ 2 * 3 := Int.mul_le_mul hm2.2 (by omega) (by omega) (by omega)
    omega
  have hC := count_ev p svc A [] C D (by omega) (fun t ht => by have := HK.pa t ht; omega) (by omega) (by omega) (fun x hx => by rw [HK.pc x hx]; decide) (fun x hx => by rw [HK.pd x hx, hm]; exact hm2.1) (by omega) (by rw [hsum]; omega) (by omega)
  rw [hsum, w64d (x := (hitsT p svc ts : Int) - lateS p D) (by omega) (by omega), w64d (x := (hitsT p svc ts : Int) + lateS p D) (by omega) (by omega)] at hC
  refine k_l4 ts hts h8 a2 p x97 x98 svc sv A C D R ts.length 0 (by omega) (Nat.zero_le _) 0 (Int.le_refl _) (by omega) ?_
  rw [List.drop_zero, Int.zero_add]
  have hj : Ev (fun k => sleuthlaw25_EstimateContains.j7 k a2 ts p sv x97 x98 false A C D) R := by
    refine Ev.step (fun k => ?_) h
    simp only [sleuthlaw25_EstimateContains.j7]
    rw [if_neg (by decide)]
  generalize hN : hitsT p svc ts = N at hC ⊢ hle
  generalize hLL : lateS p D = L at hC hL hb
  have hmx : mx 0 ((N : Int) - L) ≤ (N : Int) := by unfold mx; split <;> omega
  refine Ev.step (f := fun k => (estimate_Count.f k A [] C D p svc).bind fun bt313 => if (N : Int) < bt313.1 then sleuthlaw25_EstimateContains.j7 k a2 ts p sv x97 x98 true A C D else if (N : Int) > bt313.2 then sleuthlaw25_EstimateContains.j7 k a2 ts p sv x97 x98 true A C D else if Int.tmod a2 3 = 0 then sleuthlaw25_EstimateContains.j7 k a2 ts p sv x97 x98 (bt313.1 != bt313.2) A C D else sleuthlaw25_EstimateContains.j7 k a2 ts p sv x97 x98 false A C D) (fun k => ?_) (Ev.bind hC ?_)
  · simp only [sleuthlaw25_EstimateContains.l4]
    rw [if_neg (by omega)]
  · refine Ev.congr (fun k => ?_) hj
    show (if (N : Int) < mx 0 ((N : Int) - L) then _ else _) = _
    rw [if_neg (by omega), if_neg (by omega)]
    by_cases c : Int.tmod a2 3 = 0
    · rw [if_pos c]
      have e0 : L = 0 := by
        have := hb.2
        rw [c] at this
        simp [wrap64] at this
        omega
      have : (mx 0 ((N : Int) - L) != (N : Int) + L) = false := by
        rw [e0]
        unfold mx
        simp
        omega
      rw [this]
    · rw [if_neg c]
/-- The services in one partition. -/
theorem k_l3 (p : Int) (sv : List ByteArray) (hs : sv.length ≤ 1000) (R : Bool) (h : Ev (fun k => sleuthlaw25_EstimateContains.l2 k a2 ts (wrap64 (p + 1)) A C D) R) : ∀ (d i : Nat), sv.length - i = d → i ≤ sv.length → Ev (fun k => sleuthlaw25_EstimateContains.l3 k a2 ts p sv (sv.length : Int) (i : Int) A C D) R := by
  intro d
  induction d with
  | zero =>
    intro i hd hi
    refine Ev.step (fun k => ?_) h
    simp only [sleuthlaw25_EstimateContains.l3]
    rw [if_neg (by omega)]
  | succ d ih =>
    intro i hd hi
    have hlt : i < sv.length := by omega
    refine Ev.step (fun k => ?_) (k_one ts hts h8 a2 ha2 HK p (sv.length : Int) (i : Int) (rdOf ByteArray.empty sv (i : Int)) sv R ?_)
    · simp only [sleuthlaw25_EstimateContains.l3]
      rw [if_pos (by omega), if_pos (by omega), if_pos (by omega)]
    · rw [wsucc hlt (by omega)]
      exact ih (i + 1) (by omega) (by omega)
/-- All partitions. -/
theorem k_l2 : ∀ (d i : Nat), 4 - i = d → i ≤ 4 → Ev (fun k => sleuthlaw25_EstimateContains.l2 k a2 ts (i : Int) A C D) true := by
  intro d
  induction d with
  | zero =>
    intro i hd hi
    refine Ev.step (f := fun _ => some true) (fun k => ?_) (Ev.now _)
    simp only [sleuthlaw25_EstimateContains.l2]
    rw [if_neg (by omega)]
  | succ d ih =>
    intro i hd hi
    refine Ev.step (fun k => ?_) (k_l3 ts hts h8 a2 ha2 HK (i : Int) [(⟨#[97, 112, 105]⟩ : ByteArray), (⟨#[100, 98]⟩ : ByteArray), (⟨#[119, 101, 98]⟩ : ByteArray), (⟨#[99, 97, 99, 104, 101]⟩ : ByteArray)] (by decide) true ?_ 4 0 rfl (Nat.zero_le _))
    · simp only [sleuthlaw25_EstimateContains.l2, Option.bind_some]
      rw [if_pos (by omega)]
      rfl
    · rw [wsucc (n := 4) (by omega) (by omega)]
      exact ih (i + 1) (by omega) (by omega)
end
section
variable (ts : List S53) (hts : ts.length ≤ 3) (h8 : ∀ t ∈ ts, t.f2.length ≤ 8) (a1 a2 : Int) (ha2 : U8 a2)
include hts h8 in
/-- A trace is removed: its spans are counted. -/
theorem k_l1 (A : List S53) (D : List S62) (R : Bool) {i : Nat} (hi : i < ts.length) (hD : D.length ≤ 3) : ∀ (d j : Nat), ts[i].f2.length - j = d → j ≤ ts[i].f2.length → ∀ C : List S60, C.length ≤ 24 + j →
    Ev (fun k => sleuthlaw25_EstimateContains.l0 k a1 a2 ts ((i + 1 : Nat) : Int) A (C ++ (ts[i].f2.drop j).map fun s => (⟨ts[i].f0 / 1048576 / 16, s.f6, 1, 0⟩ : S60)) (D ++ [⟨ts[i].f0 / 1048576 / 16, wrap64 (Int.tmod a2 3)⟩])) R →
    Ev (fun k => sleuthlaw25_EstimateContains.l1 k a1 a2 ts (i : Int) (ts[i].f0 / 1048576 / 16) (j : Int) A C D) R := by
  have hl := h8 _ (List.getElem_mem hi)
  intro d
  induction d with
  | zero =>
    intro j hd hj C hC h
    refine Ev.step (fun k => ?_) h
    simp only [sleuthlaw25_EstimateContains.l1, traceAt ts hi]
    rw [if_pos (by omega), if_pos (by omega), if_neg (by omega), if_pos (by omega), List.drop_of_length_le (by omega), wsucc hi (by omega)]
    simp
  | succ d ih =>
    intro j hd hj C hC h
    have hlt : j < ts[i].f2.length := by omega
    have hdr : ts[i].f2.drop j = ts[i].f2[j] :: ts[i].f2.drop (j + 1) := drop_at _ hlt
    refine Ev.step (fun k => ?_) (ih (j + 1) (by omega) (by omega) (C ++ [⟨ts[i].f0 / 1048576 / 16, ts[i].f2[j].f6, 1, 0⟩]) (by rw [List.length_append]; show C.length + 1 ≤ _; omega) ?_)
    · simp only [sleuthlaw25_EstimateContains.l1, traceAt ts hi, spanAt _ hlt]
      rw [if_pos (by omega), if_pos (by omega), if_pos (by omega), if_pos (by omega), if_pos (by omega), wsucc hlt (by omega)]
    · rw [hdr, List.map_cons] at h
      rw [List.append_assoc]
      exact h
include hts h8 ha2 in
theorem k_l0 : ∀ (d i : Nat), ts.length - i = d → i ≤ ts.length → ∀ A C D, Kept ts (wrap64 (Int.tmod a2 3)) i A C D → Ev (fun k => sleuthlaw25_EstimateContains.l0 k a1 a2 ts (i : Int) A C D) true := by
  intro d
  induction d with
  | zero =>
    intro i hd hi A C D HK
    obtain rfl : i = ts.length := by omega
    refine Ev.step (fun k => ?_) (k_l2 ts hts h8 a2 ha2 HK 4 0 rfl (Nat.zero_le _))
    simp only [sleuthlaw25_EstimateContains.l0]
    rw [if_neg (by omega)]
    rfl
  | succ d ih =>
    intro i hd hi A C D HK
    have hlt : i < ts.length := by omega
    have hl := h8 _ (List.getElem_mem hlt)
    have htk : ts.take (i + 1) = ts.take i ++ [ts[i]] := by rw [List.take_add_one, List.getElem?_eq_getElem hlt]; rfl
    have la := HK.la
    have lc := HK.lc
    have ld := HK.ld
    by_cases c : Int.tmod (shr .u8 a1 (i : Int)) 2 = 0
    · refine Ev.step (fun k => ?_) (ih (i + 1) (by omega) (by omega) (A ++ [ts[i]]) C D {
        sum := fun p svc => by
          have := HK.sum p svc
          rw [htk, hitsT_append, hitsT_append]
          omega
        la := by rw [List.length_append]; show A.length + 1 ≤ _; omega
        lc := by omega
        ld := by omega
        pa := fun t hm => by
          rcases List.mem_append.1 hm with hm | hm
          · exact HK.pa t hm
          · rw [List.mem_singleton.1 hm]; exact hl
        pc := HK.pc
        pd := HK.pd })
      simp only [sleuthlaw25_EstimateContains.l0, traceAt ts hlt]
      rw [if_pos (by omega), if_pos (by omega), if_pos c, if_pos (by omega), wsucc hlt (by omega)]
    · refine Ev.step (fun k => ?_) (k_l1 ts hts h8 a1 a2 A D true hlt (by omega) _ 0 rfl (Nat.zero_le _) C (by omega) (ih (i + 1) (by omega) (by omega) A _ _ {
        sum := fun p svc => by
          have := HK.sum p svc
          rw [htk, hitsT_append, remS_append, List.drop_zero, remS_made, hitsT_one]
          omega
        la := by omega
        lc := by rw [List.length_append, List.length_map, List.drop_zero]; omega
        ld := by rw [List.length_append]; show D.length + 1 ≤ _; omega
        pa := HK.pa
        pc := fun x hm => by
          rcases List.mem_append.1 hm with hm | hm
          · exact HK.pc x hm
          · obtain ⟨s, _, rfl⟩ := List.mem_map.1 hm
            rfl
        pd := fun x hm => by
          rcases List.mem_append.1 hm with hm | hm
          · exact HK.pd x hm
          · rw [List.mem_singleton.1 hm] }))
      simp only [sleuthlaw25_EstimateContains.l0, traceAt ts hlt, part_f, Option.bind_some]
      rw [if_pos (by omega), if_pos (by omega), if_neg c]
      rfl
end
/-- EstimateContains. -/
theorem contains (l0 : List S104) (o1 o2 o3 o4 : Int) (l5 : List S193) (wr a1 a2 : Int) (ht : ∀ t ∈ l0, TreeOk t) (ho : I8 o1 ∧ I8 o2 ∧ I8 o3 ∧ I8 o4) (hn : l0.length ≤ 9223372036854775807) (ha2 : U8 a2) : ∃ k, sleuthlaw25_EstimateContains.f k l0 o1 o2 o3 o4 l5 wr a1 a2 = some true := by
  refine Ev.rounds (Ev.bind known_ev ?_)
  obtain ⟨b, hb, hbt⟩ := short_ev l0 o1 o2 o3 o4 l5 wr hn
  refine Ev.congr (fun k => if_pos rfl) (Ev.bind hb ?_)
  cases b with
  | false =>
    refine Ev.step (fun k => ?_) (Ev.bind (f := fun _ t => some t) known_ev (Ev.now _))
    simp only [sleuthlaw25_EstimateContains.j0]
    rw [if_pos (by decide)]
  | true =>
    obtain ⟨h3, h8⟩ := hbt rfl
    obtain ⟨ts, q1, q2, q3⟩ := traces_ev l0 o1 o2 o3 o4 l5 wr ht h8 ho h3
    refine Ev.step (fun k => ?_) (Ev.bind (f := fun k t => sleuthlaw25_EstimateContains.l0 k a1 a2 t ((0 : Nat) : Int) [] [] []) q3 (k_l0 ts (by omega) (fun t hm => (q2 t hm).few) a1 a2 ha2 _ 0 rfl (Nat.zero_le _) [] [] [] { sum := fun p svc => rfl, la := Nat.zero_le _, lc := Nat.zero_le _, ld := Nat.zero_le _, pa := fun _ h => (by cases h), pc := fun _ h => (by cases h), pd := fun _ h => (by cases h) }))
    simp only [sleuthlaw25_EstimateContains.j0]
    rw [if_neg (by decide)]
    rfl
end Go.Proofs.Ythdifdnjodbdnaa.Pl
