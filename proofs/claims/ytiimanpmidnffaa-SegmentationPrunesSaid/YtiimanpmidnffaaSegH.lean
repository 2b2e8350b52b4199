/- What the printed functions of segmentation compute, part H: cuts, parts, Total, Verify. -/
import Derived.Test.YtiimanpmidnffaaSegG
namespace Go.Proofs.Ytiimanpmidnffaa.Seg
open Go.RowKit Go.Proofs.YtiimanpmidnffaaW.PrintWords Go.Proofs.YtiimanpmidnffaaW.PrintLast Go.Proofs.YtiimanpmidnffaaW.PrintMore Go.Proofs.Ytiimanpmidnffaa.Q
set_option linter.unusedVariables false
set_option linter.unusedSimpArgs false
theorem drop_cons (l : List Int) (i : Nat) (h : i < l.length) : l.drop i = l.getD i 0 :: l.drop (i + 1) := by
  rw [List.drop_eq_getElem_cons h, List.getD_eq_getElem?_getD, List.getElem?_eq_getElem h]
  rfl
theorem cuts_loop (l cuts : List Int) (hl : l.length ≤ 1024) (hc : cuts.length ≤ 1099511627776) : ∀ (d i : Nat), cuts.length - i = d → i ≤ cuts.length →
    Ev (fun k => segmentation_checkCuts.l0 k l cuts cuts (cuts.length : Int) (i : Int)) (cutErr l.length (if i = 0 then 0 else cuts.getD (i - 1) 0) (cuts.drop i)) := by
  intro d
  induction d with
  | zero =>
    intro i hd hi
    refine Ev.step (f := fun _ => some _) (fun k => ?_) (Ev.now _)
    simp only [segmentation_checkCuts.l0]
    rw [if_neg (by omega), List.drop_eq_nil_of_le (by omega)]
    rfl
  | succ d ih =>
    intro i hd hi
    have hlt : i < cuts.length := by omega
    have next := ih (i + 1) (by omega) (by omega)
    rw [if_neg (by omega), Nat.add_sub_cancel] at next
    rw [drop_cons cuts i hlt]
    simp only [cutErr]
    have ew : wrap64 ((i : Int) + 1) = ((i + 1 : Nat) : Int) := by rw [w64 (by omega) (by omega)]; omega
    by_cases h1 : cuts.getD i 0 < 1
    · rw [if_pos (by omega)]
      refine Ev.step (f := fun k => segmentation_checkCuts.j1 k l cuts (i : Int) (cuts.getD i 0) cuts (cuts.length : Int) (i : Int) true) (fun k => ?_) (Ev.step (f := fun _ => some 2) (fun k => ?_) (Ev.now _))
      · simp only [segmentation_checkCuts.l0]
        rw [if_pos (by omega), if_pos (by omega), if_pos (by omega), rdn, if_pos h1]
      · simp only [segmentation_checkCuts.j1]
        rw [if_pos trivial]
    · by_cases h2 : (l.length : Int) ≤ cuts.getD i 0
      · rw [if_pos (.inr h2)]
        refine Ev.step (f := fun k => segmentation_checkCuts.j1 k l cuts (i : Int) (cuts.getD i 0) cuts (cuts.length : Int) (i : Int) true) (fun k => ?_) (Ev.step (f := fun _ => some 2) (fun k => ?_) (Ev.now _))
        · simp only [segmentation_checkCuts.l0]
          rw [if_pos (by omega), if_pos (by omega), if_pos (by omega), rdn, if_neg h1, decide_eq_true (by omega)]
        · simp only [segmentation_checkCuts.j1]
          rw [if_pos trivial]
      · rw [if_neg (by omega)]
        refine Ev.step (f := fun k => segmentation_checkCuts.j1 k l cuts (i : Int) (cuts.getD i 0) cuts (cuts.length : Int) (i : Int) false) (fun k => ?_) ?_
        · simp only [segmentation_checkCuts.l0]
          rw [if_pos (by omega), if_pos (by omega), if_pos (by omega), rdn, if_neg h1, decide_eq_false (by omega)]
        · by_cases hz : i = 0
          · subst hz
            rw [if_pos rfl, if_neg (by omega)]
            refine Ev.step (fun k => ?_) next
            simp only [segmentation_checkCuts.j1]
            rw [if_neg (by decide), if_neg (by omega), ew]
          · rw [if_neg hz]
            have e1 : wrap64 ((i : Int) - 1) = ((i - 1 : Nat) : Int) := by rw [w64 (by omega) (by omega)]; omega
            by_cases h3 : cuts.getD i 0 ≤ cuts.getD (i - 1) 0
            · rw [if_pos h3]
              refine Ev.step (f := fun _ => some 8) (fun k => ?_) (Ev.now _)
              simp only [segmentation_checkCuts.j1]
              rw [if_neg (by decide), if_pos (by omega), e1, if_pos (by omega), if_pos (by omega), rdn, if_pos h3]
            · rw [if_neg h3]
              refine Ev.step (fun k => ?_) next
              simp only [segmentation_checkCuts.j1]
              rw [if_neg (by decide), if_pos (by omega), e1, if_pos (by omega), if_pos (by omega), rdn, if_neg h3, ew]
theorem cuts_ev (l cuts : List Int) (hl : l.length ≤ 1024) (hc : cuts.length ≤ 1099511627776) : Ev (fun k => segmentation_checkCuts.f k l cuts) (cutErr l.length 0 cuts) := by
  have := cuts_loop l cuts hl hc (cuts.length - 0) 0 rfl (Nat.zero_le _)
  exact this
theorem parts_loop (l cuts : List Int) (hl : l.length ≤ 1024) (hc : cuts.length ≤ 1024) : ∀ (d i a : Nat) (out : List (List Int)), cuts.length - i = d → i ≤ cuts.length → cutErr l.length (a : Int) (cuts.drop i) = 0 → a ≤ l.length → out.length + d ≤ 2048 →
    Ev (fun k => segmentation_parts.l0 k l out (a : Int) cuts (cuts.length : Int) (i : Int)) (out ++ prt l a (cuts.drop i)) := by
  intro d
  induction d with
  | zero =>
    intro i a out hd hi he ha ho
    refine Ev.step (f := fun _ => some _) (fun k => ?_) (Ev.now _)
    simp only [segmentation_parts.l0]
    rw [if_neg (by omega), if_pos (by omega), if_pos (by omega), if_pos (by omega), List.drop_eq_nil_of_le (by omega : cuts.length ≤ i)]
    rfl
  | succ d ih =>
    intro i a out hd hi he ha ho
    have hlt : i < cuts.length := by omega
    rw [drop_cons cuts i hlt] at he ⊢
    simp only [cutErr] at he
    split at he
    · omega
    · split at he
      · omega
      · obtain ⟨c, hcc⟩ := Int.eq_ofNat_of_zero_le (show 0 ≤ cuts.getD i 0 by omega)
        rw [hcc] at he ⊢
        have := ih (i + 1) c (out ++ [(l.take c).drop a]) (by omega) (by omega) he (by omega) (by simp; omega)
        simp only [prt, Int.toNat_natCast]
        rw [List.append_assoc] at this
        refine Ev.step (fun k => ?_) this
        simp only [segmentation_parts.l0]
        rw [if_pos (by omega), if_pos (by omega), if_pos (by omega), if_pos (by omega), rdn, hcc, if_pos (by omega), if_pos (by omega), if_pos (by omega), w64 (by omega) (by omega)]
        rfl
theorem parts_ev (l cuts : List Int) (hl : l.length ≤ 1024) (hc : cuts.length ≤ 1024) (he : cutErr l.length 0 cuts = 0) : Ev (fun k => segmentation_parts.f k l cuts) (prt l 0 cuts) := by
  have := parts_loop l cuts hl hc (cuts.length - 0) 0 0 [] rfl (Nat.zero_le _) he (Nat.zero_le _) (by simp; omega)
  exact this
theorem dropL_cons (l : List (List Int)) (i : Nat) (h : i < l.length) : l.drop i = l.getD i [] :: l.drop (i + 1) := by
  rw [List.drop_eq_getElem_cons h, List.getD_eq_getElem?_getD, List.getElem?_eq_getElem h]
  rfl
theorem memL (l : List (List Int)) (i : Nat) (h : i < l.length) : l.getD i [] ∈ l := by
  rw [List.getD_eq_getElem?_getD, List.getElem?_eq_getElem h]; exact List.getElem_mem h
def GoodParts (r : List (List Int)) : Prop := ∀ x ∈ r, x ≠ [] ∧ Pts x
theorem total_loop (r : List (List Int)) (hr : GoodParts r) (hl : r.length ≤ 2048) : ∀ (d i : Nat) (acc : Int), r.length - i = d → i ≤ r.length → 0 ≤ acc → acc + sumc (r.drop i) ≤ 1152921504606846976 →
    Ev (fun k => segmentation_Total.l0 k acc r (r.length : Int) (i : Int)) (acc + sumc (r.drop i), 0) := by
  intro d
  induction d with
  | zero =>
    intro i acc hd hi _ _
    refine Ev.step (f := fun _ => some _) (fun k => ?_) (Ev.now _)
    simp only [segmentation_Total.l0]
    rw [if_neg (by omega), List.drop_eq_nil_of_le (by omega)]
    simp [sumc]
  | succ d ih =>
    intro i acc hd hi h0 h1
    have hlt : i < r.length := by omega
    obtain ⟨g1, g2⟩ := hr _ (memL r i hlt)
    have hc := cst_nonneg (r.getD i [])
    have hs : 0 ≤ sumc (r.drop (i + 1)) := (sumc_bd _ (fun x hx => (hr x (List.mem_of_mem_drop hx)).2.2)).1
    rw [dropL_cons r i hlt] at h1 ⊢
    simp only [sumc] at h1 ⊢
    have := ih (i + 1) (acc + cst (r.getD i [])) (by omega) (by omega) (by omega) (by omega)
    rw [← Int.add_assoc]
    refine Ev.step (fun k => ?_) (Ev.bind (f := fun k t261 => segmentation_Total.l0 k (wrap64 (acc + t261)) r (r.length : Int) (((i + 1 : Nat) : Int))) (cost_ev _ g2 g1) ?_)
    · simp only [segmentation_Total.l0]
      rw [if_pos (by omega), if_pos (by omega), if_pos (by omega), w64 (x := (i : Int) + 1) (by omega) (by omega)]
      rfl
    · refine Ev.congr (fun k => ?_) this
      rw [w64 (by omega) (by omega)]
theorem good_prt {l cuts : List Int} (hP : Pts l) (hl : l ≠ []) (he : cutErr l.length 0 cuts = 0) : GoodParts (prt l 0 cuts) ∧ lens (prt l 0 cuts) = l.length := by
  obtain ⟨h1, h2⟩ := prt_ok l cuts 0 he (List.length_pos_iff.2 hl)
  have h3 : ∀ (r : List (List Int)) (x : List Int), x ∈ r → x.length ≤ lens r := by
    intro r
    induction r with
    | nil => intro x hx; cases hx
    | cons y r ih =>
      intro x hx
      simp only [lens]
      rcases List.mem_cons.1 hx with rfl | hx
      · omega
      · have := ih x hx; omega
  refine ⟨fun x hx => ⟨(h1 x hx).1, ⟨?_, fun y hy => hP.2 y ((h1 x hx).2 y hy)⟩⟩, by omega⟩
  have := h3 _ x hx
  have := hP.1
  omega
theorem fw_bd {l cuts : List Int} (hP : Pts l) (hl : l ≠ []) (he : cutErr l.length 0 cuts = 0) : 0 ≤ fw l l.length 0 cuts ∧ fw l l.length 0 cuts ≤ 2251799813685248 := by
  obtain ⟨h1, h2⟩ := good_prt hP hl he
  have := sumc_bd (prt l 0 cuts) (fun x hx => (h1 x hx).2.2)
  rw [sumc_prt, h2] at this
  have := hP.1
  omega
theorem pen_bd {p : Int} (h0 : 0 ≤ p) (h1 : p ≤ 1099511627776) (n : Nat) (hn : n ≤ 1024) : 0 ≤ p * (n : Int) ∧ p * (n : Int) ≤ 1125899906842624 := by
  have := Int.mul_nonneg h0 (Int.natCast_nonneg n)
  have := (mul_bd p n (by omega) h1 (by omega)).2
  have h3 : p * (n : Int) ≤ 1099511627776 * (n : Int) := Int.mul_le_mul_of_nonneg_right h1 (by omega)
  omega
theorem tot_bd {l cuts : List Int} {p : Int} (hP : Pts l) (hl : l ≠ []) (h0 : 0 ≤ p) (h1 : p ≤ 1099511627776) (he : cutErr l.length 0 cuts = 0) : 0 ≤ tot l p cuts ∧ tot l p cuts ≤ 3377699720527872 ∧ cuts.length ≤ 1024 := by
  have h2 := fw_bd hP hl he
  have h3 := cutErr_len l.length cuts 0 he (List.length_pos_iff.2 hl)
  have h4 := hP.1
  have h5 := pen_bd h0 h1 cuts.length (by omega)
  unfold tot
  omega
/-- Total. -/
theorem total_ev (l : List Int) (p : Int) (cuts : List Int) (hc : cuts.length ≤ 1099511627776) : Ev (fun k => segmentation_Total.f k l p cuts) (if chk l p = 0 then (if cutErr l.length 0 cuts = 0 then (tot l p cuts, 0) else (0, cutErr l.length 0 cuts)) else (0, chk l p)) := by
  refine Ev.congr (fun k => (rfl : segmentation_Total.f k l p cuts = _)) (Ev.bind (f := fun k t255 => if t255 = 0 then ((segmentation_checkCuts.f k l cuts).bind fun t256 => (if t256 = 0 then ((segmentation_parts.f k l cuts).bind fun t257 => (segmentation_Total.l0 k (wrap64 (p * (cuts.length : Int))) t257 (t257.length : Int) 0)) else (some (0, t256)))) else (some (0, t255))) (check_ev l p) ?_)
  by_cases h : chk l p = 0
  · obtain ⟨hP, hl, h0, h1⟩ := chk_ok h
    simp only [h, if_true]
    refine Ev.bind (f := fun k t256 => if t256 = 0 then ((segmentation_parts.f k l cuts).bind fun t257 => (segmentation_Total.l0 k (wrap64 (p * (cuts.length : Int))) t257 (t257.length : Int) 0)) else (some (0, t256))) (cuts_ev l cuts hP.1 hc) ?_
    by_cases he : cutErr l.length 0 cuts = 0
    · simp only [he, if_true]
      have h3 := tot_bd hP hl h0 h1 he
      have h4 := pen_bd h0 h1 cuts.length h3.2.2
      obtain ⟨g1, g2⟩ := good_prt hP hl he
      have hs := sumc_prt l cuts 0
      have hw : wrap64 (p * (cuts.length : Int)) = p * (cuts.length : Int) := w64 (by omega) (by omega)
      have hpl := prt_length l cuts 0
      refine Ev.bind (f := fun k t257 => segmentation_Total.l0 k (wrap64 (p * (cuts.length : Int))) t257 (t257.length : Int) 0) (parts_ev l cuts hP.1 h3.2.2 he) ?_
      rw [hw]
      have := total_loop (prt l 0 cuts) g1 (by omega) ((prt l 0 cuts).length - 0) 0 (p * (cuts.length : Int)) rfl (Nat.zero_le _) h4.1 (by rw [List.drop_zero, hs]; unfold tot at h3; omega)
      rw [List.drop_zero, hs] at this
      exact this
    · simp only [he, if_false]
      exact Ev.now _
  · simp only [h, if_false]
    exact Ev.now _
/-- The inner test of Verify: is there a bad part among the last d ones that end at t. -/
def inn (l : List Int) (p : Int) (f : List Int) (t : Nat) : Nat → Bool
  | 0 => false
  | d + 1 => decide (f.getD t 0 > f.getD (t - (d + 1)) 0 + p + C l (t - (d + 1)) t) || inn l p f t d
def outr (l : List Int) (p : Int) (f : List Int) : Nat → Bool
  | 0 => false
  | d + 1 => inn l p f (l.length - d) (l.length - d) || outr l p f d
theorem inn_iff (l : List Int) (p : Int) (f : List Int) (t : Nat) : ∀ d, d ≤ t → (inn l p f t d = false ↔ ∀ q, t - d ≤ q → q < t → f.getD t 0 ≤ f.getD q 0 + p + C l q t) := by
  intro d
  induction d with
  | zero => intro _; simp only [inn, true_iff]; intro q h1 h2; omega
  | succ d ih =>
    intro hd
    simp only [inn, Bool.or_eq_false_iff, decide_eq_false_iff_not, ih (by omega)]
    constructor
    · rintro ⟨h1, h2⟩ q h3 h4
      rcases Nat.eq_or_lt_of_le h3 with e | e
      · rw [← e]; omega
      · exact h2 q (by omega) h4
    · intro h
      refine ⟨?_, fun q h1 h2 => h q (by omega) h2⟩
      have := h (t - (d + 1)) (by omega) (by omega)
      omega
theorem outr_iff (l : List Int) (p : Int) (f : List Int) : ∀ d, d ≤ l.length → (outr l p f d = false ↔ ∀ t, l.length - d < t → t ≤ l.length → ∀ q, q < t → f.getD t 0 ≤ f.getD q 0 + p + C l q t) := by
  intro d
  induction d with
  | zero => intro _; simp only [outr, true_iff]; intro t h1 h2; omega
  | succ d ih =>
    intro hd
    simp only [outr, Bool.or_eq_false_iff, ih (by omega), inn_iff l p f (l.length - d) (l.length - d) (Nat.le_refl _)]
    constructor
    · rintro ⟨h1, h2⟩ t h3 h4 q h5
      rcases Nat.eq_or_lt_of_le (show l.length - d ≤ t by omega) with e | e
      · rw [← e] at h5 ⊢; exact h1 q (by omega) h5
      · exact h2 t e h4 q h5
    · intro h
      exact ⟨fun q _ h2 => h (l.length - d) (by omega) (by omega) q h2, fun t h1 h2 q h3 => h t (by omega) h2 q h3⟩
theorem verify_l2 (l : List Int) (p : Int) (f : List Int) (hP : Pts l) (h0 : 0 ≤ p) (h1 : p ≤ 1099511627776) (hf : f.length = l.length + 1) (hb : ∀ x ∈ f, -4503599627370496 ≤ x ∧ x ≤ 4503599627370496) (t : Nat) (ht : t ≤ l.length) (R : Int)
    (next : Ev (fun k => segmentation_Verify.l1 k l p f (l.length : Int) ((t : Int) + 1)) R) : ∀ (d i : Nat), t - i = d → i ≤ t →
    Ev (fun k => segmentation_Verify.l2 k l p f (l.length : Int) (t : Int) (costsOf l t) (t : Int) (i : Int)) (if inn l p f t d then 24 else R) := by
  have hl := hP.1
  intro d
  induction d with
  | zero =>
    intro i hd hi
    have e : i = t := by omega
    subst e
    simp only [inn, Bool.false_eq_true, if_false]
    refine Ev.step (fun k => ?_) next
    simp only [segmentation_Verify.l2]
    rw [if_neg (by omega), w64 (by omega) (by omega)]
  | succ d ih =>
    intro i hd hi
    have hit : i < t := by omega
    have hx := hb _ (getD_mem (xs := f) (i := i) (by omega))
    have hC := C_bd l hP.2 i t
    have hC0 := C_nonneg l i t
    have ei : t - (d + 1) = i := by omega
    have ec : rd (costsOf l t) (i : Int) = C l i t := by rw [rdn, costsOf_getD l t i hit]
    have ew : wrap64 ((wrap64 (f.getD i 0 + p)) + C l i t) = f.getD i 0 + p + C l i t := by
      rw [w64 (x := f.getD i 0 + p) (by omega) (by omega), w64 (by omega) (by omega)]
    have n := ih (i + 1) (by omega) (by omega)
    simp only [inn, ei]
    by_cases hc : f.getD t 0 > f.getD i 0 + p + C l i t
    · rw [decide_eq_true hc, Bool.true_or, if_pos rfl]
      refine Ev.step (f := fun _ => some 24) (fun k => ?_) (Ev.now _)
      simp only [segmentation_Verify.l2, costsOf_length]
      rw [if_pos (by omega), if_pos (by omega), if_pos (by omega), if_pos (by omega), if_pos (by omega), if_pos (by omega), rdn, rdn, ec, ew, if_pos hc]
    · rw [decide_eq_false hc, Bool.false_or]
      refine Ev.step (fun k => ?_) n
      simp only [segmentation_Verify.l2, costsOf_length]
      rw [if_pos (by omega), if_pos (by omega), if_pos (by omega), if_pos (by omega), if_pos (by omega), if_pos (by omega), rdn, rdn, ec, ew, if_neg hc, w64 (by omega) (by omega)]
      rfl
theorem verify_l1 (l : List Int) (p : Int) (f : List Int) (hP : Pts l) (h0 : 0 ≤ p) (h1 : p ≤ 1099511627776) (hf : f.length = l.length + 1) (hb : ∀ x ∈ f, -4503599627370496 ≤ x ∧ x ≤ 4503599627370496) : ∀ (d t : Nat), l.length + 1 - t = d → 1 ≤ t → t ≤ l.length + 1 →
    Ev (fun k => segmentation_Verify.l1 k l p f (l.length : Int) (t : Int)) (if outr l p f d then 24 else 0) := by
  have hl := hP.1
  intro d
  induction d with
  | zero =>
    intro t hd h2 h3
    simp only [outr, Bool.false_eq_true, if_false]
    refine Ev.step (f := fun _ => some 0) (fun k => ?_) (Ev.now _)
    simp only [segmentation_Verify.l1]
    rw [if_neg (by omega)]
  | succ d ih =>
    intro t hd h2 h3
    have n := ih (t + 1) (by omega) (by omega) (by omega)
    have ht : t ≤ l.length := by omega
    have et : l.length - d = t := by omega
    have := verify_l2 l p f hP h0 h1 hf hb t ht _ n (t - 0) 0 rfl (Nat.zero_le _)
    simp only [outr, et]
    have e : (if (inn l p f t t || outr l p f d) = true then (24 : Int) else 0) = if inn l p f t (t - 0) = true then 24 else if outr l p f d = true then 24 else 0 := by
      rw [Nat.sub_zero]
      cases inn l p f t t <;> simp
    rw [e]
    refine Ev.step (fun k => ?_) (Ev.bind (f := fun k t268 => segmentation_Verify.l2 k l p f (l.length : Int) (t : Int) t268 (t268.length : Int) 0) (costs_ev l hP t ht) (Ev.congr (fun k => ?_) this))
    · simp only [segmentation_Verify.l1]
      rw [if_pos (by omega)]
    · simp only [costsOf_length]
      rfl
/-- Is a potential out of range. -/
def badF (x : Int) : Bool := decide (x < -4503599627370496) || decide (x > 4503599627370496)
theorem dropF_any (l : List Int) (i : Nat) (h : i < l.length) : (l.drop i).any badF = (badF (l.getD i 0) || (l.drop (i + 1)).any badF) := by
  rw [drop_cons l i h, List.any_cons]
theorem verify_l0 (l : List Int) (p : Int) (f cuts : List Int) (cost : Int) (hf : f.length = l.length + 1) (hl : l.length ≤ 1024) (R : Int)
    (next : f.any badF = false → Ev (fun k => if (f.getD 0 0) = (wrap64 (-p)) then segmentation_Verify.j2 k l p f (l.length : Int) (f.getD l.length 0 != cost) else segmentation_Verify.j2 k l p f (l.length : Int) true) R) : ∀ (d i : Nat), f.length - i = d → i ≤ f.length → (f.any badF = (f.drop i).any badF) →
    Ev (fun k => segmentation_Verify.l0 k l p f (l.length : Int) f (f.length : Int) (i : Int) cuts cost) (if (f.drop i).any badF then 24 else R) := by
  intro d
  induction d with
  | zero =>
    intro i hd hi hany
    rw [List.drop_eq_nil_of_le (by omega)] at hany ⊢
    simp only [List.any_nil, Bool.false_eq_true, if_false] at hany ⊢
    refine Ev.step (fun k => ?_) (next hany)
    simp only [segmentation_Verify.l0]
    have er : rd f 0 = f.getD 0 0 := rfl
    rw [if_neg (by omega), if_pos (by omega), er, rdn]
    split
    · rw [if_pos (by omega), if_pos (by omega)]
    · rfl
  | succ d ih =>
    intro i hd hi hany
    have hd2 := dropF_any f i (by omega)
    by_cases h1 : f.getD i 0 < -4503599627370496
    · have e : badF (f.getD i 0) = true := by unfold badF; rw [decide_eq_true h1]; rfl
      rw [hd2, e, Bool.true_or, if_pos rfl]
      refine Ev.step (f := fun _ => some 24) (fun k => ?_) (Ev.now _)
      simp only [segmentation_Verify.l0]
      rw [if_pos (by omega), if_pos (by omega), if_pos (by omega), rdn, if_pos h1]
    · by_cases h2 : f.getD i 0 > 4503599627370496
      · have e : badF (f.getD i 0) = true := by unfold badF; rw [decide_eq_true h2, Bool.or_true]
        rw [hd2, e, Bool.true_or, if_pos rfl]
        refine Ev.step (f := fun _ => some 24) (fun k => ?_) (Ev.now _)
        simp only [segmentation_Verify.l0]
        rw [if_pos (by omega), if_pos (by omega), if_pos (by omega), rdn, if_neg h1, if_pos h2]
      · have e : badF (f.getD i 0) = false := by unfold badF; rw [decide_eq_false h1, decide_eq_false h2]; rfl
        rw [e, Bool.false_or] at hd2
        have n := ih (i + 1) (by omega) (by omega) (hany.trans hd2)
        rw [hd2]
        refine Ev.step (fun k => ?_) n
        simp only [segmentation_Verify.l0]
        rw [if_pos (by omega), if_pos (by omega), if_pos (by omega), rdn, if_neg h1, if_neg h2, w64 (by omega) (by omega)]
        rfl
/-- What a proof must show. -/
structure Proves (l : List Int) (p : Int) (f cuts : List Int) (cost : Int) : Prop where
  total : cost = tot l p cuts
  len : f.length = l.length + 1
  first : f.getD 0 0 = -p
  last : f.getD l.length 0 = cost
  step : ∀ t, 1 ≤ t → t ≤ l.length → ∀ q, q < t → f.getD t 0 ≤ f.getD q 0 + p + C l q t
theorem verify_ev (l : List Int) (p : Int) (f cuts : List Int) (cost : Int) (h : chk l p = 0) (he : cutErr l.length 0 cuts = 0) (hfl : f.length ≤ 1099511627776) :
    ∃ r, Ev (fun k => segmentation_Verify.f k l p f cuts cost) r ∧ (r = 0 ∨ r = 24) ∧ (r = 0 ↔ Proves l p f cuts cost ∧ ∀ x ∈ f, -4503599627370496 ≤ x ∧ x ≤ 4503599627370496) := by
  obtain ⟨hP, hl, h0, h1⟩ := chk_ok h
  have hll := hP.1
  have hT := total_ev l p cuts (by have := (tot_bd hP hl h0 h1 he).2.2; omega)
  rw [if_pos h, if_pos he] at hT
  have hj : ∀ r, Ev (fun k => if cost = tot l p cuts then segmentation_Verify.j0 k l p f (l.length : Int) ((f.length : Int) != (wrap64 ((l.length : Int) + 1))) cuts cost else segmentation_Verify.j0 k l p f (l.length : Int) true cuts cost) r → Ev (fun k => segmentation_Verify.f k l p f cuts cost) r := by
    intro r hr
    have := Ev.bind (f := fun (k : Nat) (bt263 : Int × Int) => if bt263.2 = 0 then (if cost = bt263.1 then segmentation_Verify.j0 k l p f (l.length : Int) ((f.length : Int) != (wrap64 ((l.length : Int) + 1))) cuts cost else segmentation_Verify.j0 k l p f (l.length : Int) true cuts cost) else some bt263.2) hT (Ev.congr (fun k => if_pos rfl) hr)
    refine Ev.congr (fun k => ?_) this
    rfl
  have bad24 : Ev (fun k => segmentation_Verify.j0 k l p f (l.length : Int) true cuts cost) 24 := Ev.step (f := fun _ => some 24) (fun k => by simp only [segmentation_Verify.j0]; rw [if_pos trivial]) (Ev.now _)
  have badj2 : Ev (fun k => segmentation_Verify.j2 k l p f (l.length : Int) true) 24 := Ev.step (f := fun _ => some 24) (fun k => by simp only [segmentation_Verify.j2]; rw [if_pos trivial]) (Ev.now _)
  have ewl : wrap64 ((l.length : Int) + 1) = ((l.length + 1 : Nat) : Int) := by rw [w64 (by omega) (by omega)]; omega
  have ewp : wrap64 (-p) = -p := w64 (by omega) (by omega)
  by_cases c1 : cost = tot l p cuts
  · by_cases c2 : f.length = l.length + 1
    · have hany : f.any badF = false ↔ ∀ x ∈ f, -4503599627370496 ≤ x ∧ x ≤ 4503599627370496 := by
        rw [List.any_eq_false]
        constructor
        · intro h x hx
          have := h x hx
          unfold badF at this
          simp at this
          omega
        · intro h x hx
          have := h x hx
          unfold badF
          simp
          omega
      have hR : f.any badF = false → Ev (fun k => if (f.getD 0 0) = (wrap64 (-p)) then segmentation_Verify.j2 k l p f (l.length : Int) (f.getD l.length 0 != cost) else segmentation_Verify.j2 k l p f (l.length : Int) true) (if f.getD 0 0 = -p then (if f.getD l.length 0 = cost then (if outr l p f l.length then 24 else 0) else 24) else 24) := by
        intro hb
        rw [ewp]
        by_cases c4 : f.getD 0 0 = -p
        · simp only [c4, if_true]
          by_cases c5 : f.getD l.length 0 = cost
          · have := verify_l1 l p f hP h0 h1 c2 (hany.1 hb) (l.length + 1 - 1) 1 rfl (by omega) (by omega)
            rw [Nat.add_sub_cancel] at this
            rw [if_pos c5]
            refine Ev.step (fun k => ?_) this
            simp only [segmentation_Verify.j2]
            rw [c5, bne_self_eq_false, if_neg (by decide)]
            rfl
          · have e : (f.getD l.length 0 != cost) = true := by simpa using c5
            rw [if_neg c5, e]
            exact badj2
        · simp only [c4, if_false]
          exact badj2
      have hl0 := verify_l0 l p f cuts cost c2 hll _ hR (f.length - 0) 0 rfl (Nat.zero_le _) (by rw [List.drop_zero])
      rw [List.drop_zero] at hl0
      refine ⟨_, hj _ (Ev.step (fun k => ?_) hl0), ?_, ?_⟩
      · rw [if_pos c1, ewl, c2, bne_self_eq_false]
        simp only [segmentation_Verify.j0]
        rw [if_neg (by decide), c2]
        rfl
      · split
        · exact .inr rfl
        · split
          · split
            · split
              · exact .inr rfl
              · exact .inl rfl
            · exact .inr rfl
          · exact .inr rfl
      · have ho := outr_iff l p f l.length (Nat.le_refl _)
        constructor
        · intro hr
          by_cases c3 : f.any badF = true
          · rw [if_pos c3] at hr; omega
          · rw [if_neg c3] at hr
            by_cases c4 : f.getD 0 0 = -p
            · rw [if_pos c4] at hr
              by_cases c5 : f.getD l.length 0 = cost
              · rw [if_pos c5] at hr
                by_cases c6 : outr l p f l.length = true
                · rw [if_pos c6] at hr; omega
                · exact ⟨⟨c1, c2, c4, c5, fun t h2 h3 q h4 => (ho.1 (by simpa using c6)) t (by omega) h3 q h4⟩, hany.1 (by simpa using c3)⟩
              · rw [if_neg c5] at hr; omega
            · rw [if_neg c4] at hr; omega
        · rintro ⟨hp, hb⟩
          rw [if_neg (by rw [hany.2 hb]; decide), if_pos hp.first, if_pos hp.last, if_neg]
          rw [ho.2 (fun t h2 h3 q h4 => hp.step t (by omega) h3 q h4)]
          decide
    · refine ⟨24, hj 24 (Ev.congr (fun k => by rw [if_pos c1, ewl, show ((f.length : Int) != ((l.length + 1 : Nat) : Int)) = true by simp; omega]) bad24), .inr rfl, ⟨fun e => by omega, fun hp => absurd hp.1.len c2⟩⟩
  · refine ⟨24, hj 24 (Ev.congr (fun k => by rw [if_neg c1]) bad24), .inr rfl, ⟨fun e => by omega, fun hp => absurd hp.1.total c1⟩⟩
/-- The error comes first. -/
theorem verify_err (l : List Int) (p : Int) (f cuts : List Int) (cost : Int) (hc : cuts.length ≤ 1099511627776) (e : Int) (he : e ≠ 0) (h : (if chk l p = 0 then cutErr l.length 0 cuts else chk l p) = e) : Ev (fun k => segmentation_Verify.f k l p f cuts cost) e := by
  have hT := total_ev l p cuts hc
  have h2 : (if chk l p = 0 then (if cutErr l.length 0 cuts = 0 then (tot l p cuts, (0 : Int)) else (0, cutErr l.length 0 cuts)) else (0, chk l p)) = (0, e) := by
    by_cases c : chk l p = 0
    · rw [if_pos c] at h ⊢
      rw [if_neg (by omega), h]
    · rw [if_neg c] at h ⊢
      rw [h]
  rw [h2] at hT
  have := Ev.bind (f := fun (k : Nat) (bt263 : Int × Int) => if bt263.2 = 0 then (if cost = bt263.1 then segmentation_Verify.j0 k l p f (l.length : Int) ((f.length : Int) != (wrap64 ((l.length : Int) + 1))) cuts cost else segmentation_Verify.j0 k l p f (l.length : Int) true cuts cost) else some bt263.2) hT (Ev.congr (fun k => if_neg he) (Ev.now e))
  refine Ev.congr (fun k => ?_) this
  rfl
/-- Weak duality: what is proved has the least total. -/
theorem Proves.low {l : List Int} {p : Int} {f cuts : List Int} {cost : Int} (h : Proves l p f cuts cost) : ∀ {t : Nat} {c : List Int} {n : Int}, Cut l p t c n → t ≤ l.length → f.getD t 0 ≤ n := by
  intro t c n hc
  induction hc with
  | whole t h1 =>
    intro ht
    have := h.step t h1 ht 0 (by omega)
    have := h.first
    omega
  | more s t c n h1 h2 ih =>
    intro ht
    have := h.step t (by have := h2.pos; omega) ht s h1
    have := ih (by omega)
    omega
end Go.Proofs.Ytiimanpmidnffaa.Seg
