/- What the references of segmentation compute, part I: same, points, median, cost, total, less. -/
import Derived.Test.YtiimanpmidnffaaSegH
import Derived.Test.YtiimanpmidnffaaQx8
import Derived.Test.YtiimanpmidnffaaQx9
import Derived.Test.YtiimanpmidnffaaQy1
namespace Go.Proofs.Ytiimanpmidnffaa.Seg
open Go.RowKit Go.Proofs.YtiimanpmidnffaaW.PrintWords Go.Proofs.YtiimanpmidnffaaW.PrintLast Go.Proofs.YtiimanpmidnffaaW.PrintMore Go.Proofs.Ytiimanpmidnffaa.Q
set_option linter.unusedVariables false
set_option linter.unusedSimpArgs false
theorem same_loop (a b : List Int) (hl : a.length = b.length) (hb : a.length ≤ 1099511627776) : ∀ (d i : Nat), a.length - i = d → i ≤ a.length → Ev (fun k => sleuthlaw44_same.l0 k a b (i : Int)) (decide (a.drop i = b.drop i)) := by
  intro d
  induction d with
  | zero =>
    intro i hd hi
    refine Ev.step (f := fun _ => some _) (fun k => ?_) (Ev.now _)
    simp only [sleuthlaw44_same.l0]
    rw [if_neg (by omega), List.drop_eq_nil_of_le (by omega), List.drop_eq_nil_of_le (by omega)]
    simp
  | succ d ih =>
    intro i hd hi
    have n := ih (i + 1) (by omega) (by omega)
    have e1 := drop_cons a i (by omega)
    have e2 := drop_cons b i (by omega)
    by_cases h : a.getD i 0 = b.getD i 0
    · have e3 : decide (a.drop i = b.drop i) = decide (a.drop (i + 1) = b.drop (i + 1)) := decide_eq_decide.2 (by rw [e1, e2, h]; exact ⟨fun e => (List.cons.inj e).2, fun e => by rw [e]⟩)
      rw [e3]
      refine Ev.step (fun k => ?_) n
      simp only [sleuthlaw44_same.l0]
      rw [if_pos (by omega), if_pos (by omega), if_pos (by omega), rdn, rdn, if_pos h, w64 (by omega) (by omega)]
      rfl
    · have e3 : decide (a.drop i = b.drop i) = false := decide_eq_false (by rw [e1, e2]; exact fun e => h (List.cons.inj e).1)
      rw [e3]
      refine Ev.step (f := fun _ => some false) (fun k => ?_) (Ev.now _)
      simp only [sleuthlaw44_same.l0]
      rw [if_pos (by omega), if_pos (by omega), if_pos (by omega), rdn, rdn, if_neg h]
theorem same_ev (a b : List Int) (hb : a.length ≤ 1099511627776) : Ev (fun k => sleuthlaw44_same.f k a b) (decide (a = b)) := by
  by_cases h : a.length = b.length
  · have := same_loop a b h hb (a.length - 0) 0 rfl (Nat.zero_le _)
    rw [List.drop_zero, List.drop_zero] at this
    refine Ev.congr (fun k => ?_) this
    unfold sleuthlaw44_same.f
    rw [if_pos (by omega)]
    rfl
  · have e : decide (a = b) = false := by
      apply decide_eq_false
      intro e; rw [e] at h; exact h rfl
    rw [e]
    refine Ev.congr (fun k => ?_) (Ev.now false)
    unfold sleuthlaw44_same.f
    rw [if_neg (by omega)]
/-- The points that small numbers describe. -/
def pts0 (l : List Int) : List Int := (l.take 9).map fun x => x % 32 - 8
def pnts (l : List Int) : List Int := if pts0 l = [] then [3] else pts0 l
theorem points_loop (l : List Int) (hx : ∀ x ∈ l, 0 ≤ x ∧ x ≤ 255) : ∀ (d i : Nat) (out : List Int), min l.length 9 - i = d → i ≤ min l.length 9 → out = (pts0 l).take i → Ev (fun k => sleuthlaw44_points.l0 k l out (i : Int)) (pnts l) := by
  have hlen : (pts0 l).length = min l.length 9 := by simp [pts0, Nat.min_comm]
  intro d
  induction d with
  | zero =>
    intro i out hd hi ho
    have e : out = pts0 l := by rw [ho, List.take_of_length_le (by omega)]
    subst e
    have key : ∀ k : Nat, (if ((pts0 l).length : Int) = 0 then (if (pts0 l).length < 17592186044416 then some (pts0 l ++ [3]) else none) else some (pts0 l)) = some (pnts l) := by
      intro k
      unfold pnts
      by_cases h : pts0 l = []
      · rw [h]; rfl
      · have := List.length_pos_iff.2 h
        rw [if_neg (by omega), if_neg h]
    refine Ev.step (f := fun _ => some (pnts l)) (fun k => ?_) (Ev.now _)
    simp only [sleuthlaw44_points.l0]
    by_cases h1 : i < l.length
    · rw [if_pos (by omega), if_neg (by omega)]; exact key 0
    · rw [if_neg (by omega)]; exact key 0
  | succ d ih =>
    intro i out hd hi ho
    have h1 : i < l.length := by omega
    have h2 : i < 9 := by omega
    have hxi := hx _ (getD_mem (xs := l) (i := i) h1)
    have e : out ++ [l.getD i 0 % 32 - 8] = (pts0 l).take (i + 1) := by
      rw [ho, List.take_succ_eq_append_getElem (by omega)]
      congr 2
      simp only [pts0, List.getElem_map, List.getElem_take]
      rw [List.getD_eq_getElem?_getD, List.getElem?_eq_getElem h1]
      rfl
    have n := ih (i + 1) _ (by omega) (by omega) e
    have ev : wrap64 ((wrap64 (Int.tmod (l.getD i 0) 32)) - 8) = l.getD i 0 % 32 - 8 := by
      rw [Int.tmod_eq_emod_of_nonneg hxi.1, w64 (x := l.getD i 0 % 32) (by omega) (by omega), w64 (by omega) (by omega)]
    refine Ev.step (fun k => ?_) n
    have ho2 : out.length ≤ 9 := by rw [ho, List.length_take]; omega
    simp only [sleuthlaw44_points.l0]
    rw [if_pos (by omega), if_pos (by omega), if_pos (by omega), if_pos (by omega), rdn, ev, w64 (by omega) (by omega)]
    rfl
theorem points_ev (l : List Int) (hx : ∀ x ∈ l, 0 ≤ x ∧ x ≤ 255) : Ev (fun k => sleuthlaw44_points.f k l) (pnts l) := points_loop l hx _ 0 [] rfl (Nat.zero_le _) (by simp)
theorem pnts_ok (l : List Int) : pnts l ≠ [] ∧ (pnts l).length ≤ 9 ∧ ∀ x ∈ pnts l, -8 ≤ x ∧ x ≤ 23 := by
  unfold pnts
  split
  · exact ⟨by simp, by simp, by intro x hx; simp at hx; omega⟩
  · rename_i h
    refine ⟨h, by simp [pts0]; omega, fun x hx => ?_⟩
    obtain ⟨y, _, rfl⟩ := List.mem_map.1 hx
    omega
theorem pnts_Pts (l : List Int) : Pts (pnts l) := ⟨by have := (pnts_ok l).2.1; omega, fun x hx => by have := (pnts_ok l).2.2 x hx; omega⟩
/-- The reference's median. -/
theorem le_drop (m : Int) (l : List Int) (i : Nat) (h : i < l.length) : le m (l.drop i) = (if l.getD i 0 ≤ m then 1 else 0) + le m (l.drop (i + 1)) := by
  rw [drop_cons l i h, le_cons]
theorem rmed_inner (l : List Int) (hl : l.length ≤ 1024) (x3 : Bool) (x4 : Int) (i : Nat) (hi : i < l.length) (R : Int)
    (next : Ev (fun k => if 2 * (le (l.getD i 0) l : Int) ≥ (l.length : Int) then (if x3 = true then (if l.getD i 0 < x4 then sleuthlaw44_median.l0 k l true (l.getD i 0) ((i : Int) + 1) else sleuthlaw44_median.l0 k l x3 x4 ((i : Int) + 1)) else sleuthlaw44_median.l0 k l true (l.getD i 0) ((i : Int) + 1)) else sleuthlaw44_median.l0 k l x3 x4 ((i : Int) + 1)) R) :
    ∀ (d q n : Nat), l.length - q = d → q ≤ l.length → n + le (l.getD i 0) (l.drop q) = le (l.getD i 0) l → Ev (fun k => sleuthlaw44_median.l1 k l x3 x4 (i : Int) (n : Int) (q : Int)) R := by
  have hle := le_le (l.getD i 0) l
  intro d
  induction d with
  | zero =>
    intro q n hd hq hn
    rw [List.drop_eq_nil_of_le (by omega)] at hn
    have e : n = le (l.getD i 0) l := by simpa [le] using hn
    subst e
    refine Ev.step (fun k => ?_) next
    simp only [sleuthlaw44_median.l1]
    rw [if_neg (by omega), w64 (x := 2 * _) (by omega) (by omega), w64 (x := (i : Int) + 1) (by omega) (by omega)]
    split
    · split
      · rw [if_pos (by omega), if_pos (by omega), rdn]
      · rw [if_pos (by omega), if_pos (by omega), rdn]
    · rfl
  | succ d ih =>
    intro q n hd hq hn
    have h := le_drop (l.getD i 0) l q (by omega)
    by_cases hc : l.getD q 0 ≤ l.getD i 0
    · rw [if_pos hc] at h
      have := ih (q + 1) (n + 1) (by omega) (by omega) (by omega)
      refine Ev.step (fun k => ?_) this
      simp only [sleuthlaw44_median.l1]
      rw [if_pos (by omega), if_pos (by omega), if_pos (by omega), if_pos (by omega), rdn, rdn, if_pos hc, w64 (by omega) (by omega), w64 (by omega) (by omega)]
      rfl
    · rw [if_neg hc] at h
      have := ih (q + 1) n (by omega) (by omega) (by omega)
      refine Ev.step (fun k => ?_) this
      simp only [sleuthlaw44_median.l1]
      rw [if_pos (by omega), if_pos (by omega), if_pos (by omega), if_pos (by omega), rdn, rdn, if_neg hc, w64 (by omega) (by omega)]
      rfl
theorem rmed_loop (l : List Int) (hl : l.length ≤ 1024) (h0 : l ≠ []) : ∀ (d i : Nat) (x3 : Bool) (x4 : Int), l.length - i = d → i ≤ l.length →
    (x3 = false → ∀ j, j < i → ¬ l.length ≤ 2 * le (l.getD j 0) l) → (x3 = true → (l.length ≤ 2 * le x4 l) ∧ ∀ j, j < i → l.length ≤ 2 * le (l.getD j 0) l → x4 ≤ l.getD j 0) →
    Ev (fun k => sleuthlaw44_median.l0 k l x3 x4 (i : Int)) (med l) := by
  intro d
  induction d with
  | zero =>
    intro i x3 x4 hd hi hf ht
    have hm := (med_isMed l h0).1
    obtain ⟨j, hj, ej⟩ := List.mem_iff_getElem.1 (med_mem l h0)
    have ej2 : l.getD j 0 = med l := by rw [List.getD_eq_getElem?_getD, List.getElem?_eq_getElem hj]; exact ej
    refine Ev.step (f := fun _ => some (med l)) (fun k => ?_) (Ev.now _)
    simp only [sleuthlaw44_median.l0]
    rw [if_neg (by omega)]
    congr 1
    cases x3 with
    | false => exact absurd hm (by have := hf rfl j (by omega); rw [ej2] at this; exact this)
    | true =>
      obtain ⟨h1, h2⟩ := ht rfl
      have h3 := h2 j (by omega) (by rw [ej2]; exact hm)
      have h4 := med_least l x4 h1 h0
      omega
  | succ d ih =>
    intro i x3 x4 hd hi hf ht
    have hil : i < l.length := by omega
    have enter : ∀ R, Ev (fun k => sleuthlaw44_median.l1 k l x3 x4 (i : Int) ((0 : Nat) : Int) ((0 : Nat) : Int)) R → Ev (fun k => sleuthlaw44_median.l0 k l x3 x4 (i : Int)) R := by
      intro R h
      refine Ev.step (fun k => ?_) h
      simp only [sleuthlaw44_median.l0]
      rw [if_pos (by omega)]
      rfl
    refine enter _ (rmed_inner l hl x3 x4 i hil _ ?_ (l.length - 0) 0 0 rfl (Nat.zero_le _) (by simp))
    by_cases hs : l.length ≤ 2 * le (l.getD i 0) l
    · cases x3 with
      | true =>
        obtain ⟨h1, h2⟩ := ht rfl
        by_cases hlt : l.getD i 0 < x4
        · refine Ev.congr (fun k => by rw [if_pos (by omega), if_pos rfl, if_pos hlt]; rfl) (ih (i + 1) true (l.getD i 0) (by omega) (by omega) (fun h => by cases h) (fun _ => ⟨hs, fun j hj hj2 => ?_⟩))
          rcases Nat.lt_or_ge j i with h3 | h3
          · have := h2 j h3 hj2; omega
          · obtain rfl : j = i := by omega
            omega
        · refine Ev.congr (fun k => by rw [if_pos (by omega), if_pos rfl, if_neg hlt]; rfl) (ih (i + 1) true x4 (by omega) (by omega) (fun h => by cases h) (fun _ => ⟨h1, fun j hj hj2 => ?_⟩))
          rcases Nat.lt_or_ge j i with h3 | h3
          · exact h2 j h3 hj2
          · obtain rfl : j = i := by omega
            omega
      | false =>
        refine Ev.congr (fun k => by rw [if_pos (by omega), if_neg (by decide)]; rfl) (ih (i + 1) true (l.getD i 0) (by omega) (by omega) (fun h => by cases h) (fun _ => ⟨hs, fun j hj hj2 => ?_⟩))
        rcases Nat.lt_or_ge j i with h3 | h3
        · exact absurd hj2 (hf rfl j h3)
        · obtain rfl : j = i := by omega
          omega
    · refine Ev.congr (fun k => by rw [if_neg (by omega)]; rfl) (ih (i + 1) x3 x4 (by omega) (by omega) (fun h j hj => ?_) (fun h => ⟨(ht h).1, fun j hj hj2 => ?_⟩))
      · rcases Nat.lt_or_ge j i with h3 | h3
        · exact hf h j h3
        · obtain rfl : j = i := by omega
          exact hs
      · rcases Nat.lt_or_ge j i with h3 | h3
        · exact (ht h).2 j h3 hj2
        · obtain rfl : j = i := by omega
          exact absurd hj2 hs
theorem rmed_ev (l : List Int) (hl : l.length ≤ 1024) (h0 : l ≠ []) : Ev (fun k => sleuthlaw44_median.f k l) (med l) :=
  rmed_loop l hl h0 _ 0 false 0 rfl (Nat.zero_le _) (fun _ j hj => by omega) (fun h => by cases h)
theorem rdev_loop (l : List Int) (hP : Pts l) (m : Int) (hm : -1099511627776 ≤ m ∧ m ≤ 1099511627776) : ∀ (d i : Nat) (acc : Int), l.length - i = d → i ≤ l.length → 0 ≤ acc → acc ≤ 2199023255552 * (i : Int) →
    Ev (fun k => sleuthlaw44_deviation.l0 k l m acc (i : Int)) (acc + dev (l.drop i) m) := by
  have hll := hP.1
  intro d
  induction d with
  | zero =>
    intro i acc hd hi _ _
    refine Ev.step (f := fun _ => some _) (fun k => ?_) (Ev.now _)
    simp only [sleuthlaw44_deviation.l0]
    rw [if_neg (by omega), List.drop_eq_nil_of_le (by omega)]
    simp [dev]
  | succ d ih =>
    intro i acc hd hi ha hb
    have hx := hP.2 _ (getD_mem (xs := l) (i := i) (by omega))
    have := ih (i + 1) (acc + max (l.getD i 0 - m) (m - l.getD i 0)) (by omega) (by omega) (by omega) (by omega)
    rw [dev_drop l m i (by omega), ← Int.add_assoc]
    refine Ev.step (fun k => ?_) this
    simp only [sleuthlaw44_deviation.l0]
    rw [if_pos (by omega), if_pos (by omega), rdn, mx_eq _ _ hx hm, w64 (x := acc + _) (by omega) (by omega), w64 (x := (i : Int) + 1) (by omega) (by omega)]
    rfl
theorem rdev_ev (l : List Int) (hP : Pts l) (m : Int) (hm : -1099511627776 ≤ m ∧ m ≤ 1099511627776) : Ev (fun k => sleuthlaw44_deviation.f k l m) (dev l m) := by
  have := rdev_loop l hP m hm (l.length - 0) 0 0 rfl (Nat.zero_le _) (by omega) (by omega)
  rw [List.drop_zero, Int.zero_add] at this
  exact this
theorem rcost_ev (l : List Int) (hP : Pts l) (hl : l ≠ []) : Ev (fun k => sleuthlaw44_cost.f k l) (cst l) := by
  have h1 := rmed_ev l hP.1 hl
  have h2 := rdev_ev l hP (med l) (med_bd hP hl)
  have := Ev.bind (f := fun k t337 => (sleuthlaw44_deviation.f k l t337).bind fun t338 => some t338) h1 (Ev.bind (f := fun k t338 => some t338) h2 (Ev.now _))
  refine Ev.congr (fun k => ?_) this
  rfl
theorem div_loop (l cuts : List Int) (hl : l.length ≤ 1024) (hc : cuts.length ≤ 1099511627776) : ∀ (d i a : Nat) (out : List (List Int)), cuts.length - i = d → i ≤ cuts.length → a ≤ l.length → out.length ≤ a →
    Ev (fun k => sleuthlaw44_divided.l0 k l cuts out (a : Int) (i : Int)) (if cutErr l.length (a : Int) (cuts.drop i) = 0 then (out ++ prt l a (cuts.drop i), 0) else ([], cutErr l.length (a : Int) (cuts.drop i))) := by
  intro d
  induction d with
  | zero =>
    intro i a out hd hi ha ho
    rw [List.drop_eq_nil_of_le (by omega : cuts.length ≤ i)]
    simp only [cutErr, if_true, prt]
    refine Ev.step (f := fun _ => some _) (fun k => ?_) (Ev.now _)
    simp only [sleuthlaw44_divided.l0]
    rw [if_neg (by omega), if_pos (by omega), if_pos (by omega), if_pos (by omega)]
    rfl
  | succ d ih =>
    intro i a out hd hi ha ho
    have hlt : i < cuts.length := by omega
    rw [drop_cons cuts i hlt]
    generalize hE : cutErr l.length (a : Int) (cuts.getD i 0 :: cuts.drop (i + 1)) = E
    simp only [cutErr] at hE
    by_cases h1 : cuts.getD i 0 < 1
    · rw [if_pos (.inl h1)] at hE
      subst hE
      rw [if_neg (by decide)]
      refine Ev.step (f := fun k => sleuthlaw44_divided.j1 k l cuts out (a : Int) (i : Int) true) (fun k => ?_) (Ev.step (f := fun _ => some ([], 2)) (fun k => ?_) (Ev.now _))
      · simp only [sleuthlaw44_divided.l0]
        rw [if_pos (by omega), if_pos (by omega), rdn, if_pos h1]
      · simp only [sleuthlaw44_divided.j1]
        rw [if_pos trivial]
    · by_cases h2 : (l.length : Int) ≤ cuts.getD i 0
      · rw [if_pos (.inr h2)] at hE
        subst hE
        rw [if_neg (by decide)]
        refine Ev.step (f := fun k => sleuthlaw44_divided.j1 k l cuts out (a : Int) (i : Int) true) (fun k => ?_) (Ev.step (f := fun _ => some ([], 2)) (fun k => ?_) (Ev.now _))
        · simp only [sleuthlaw44_divided.l0]
          rw [if_pos (by omega), if_pos (by omega), rdn, if_neg h1, decide_eq_true (by omega)]
        · simp only [sleuthlaw44_divided.j1]
          rw [if_pos trivial]
      · rw [if_neg (by omega : ¬ (cuts.getD i 0 < 1 ∨ (l.length : Int) ≤ cuts.getD i 0))] at hE
        have enter : ∀ R, Ev (fun k => sleuthlaw44_divided.j1 k l cuts out (a : Int) (i : Int) false) R → Ev (fun k => sleuthlaw44_divided.l0 k l cuts out (a : Int) (i : Int)) R := by
          intro R h
          refine Ev.step (fun k => ?_) h
          simp only [sleuthlaw44_divided.l0]
          rw [if_pos (by omega), if_pos (by omega), rdn, if_neg h1, decide_eq_false (by omega)]
        by_cases h3 : cuts.getD i 0 ≤ (a : Int)
        · rw [if_pos h3] at hE
          subst hE
          rw [if_neg (by decide)]
          refine enter _ (Ev.step (f := fun _ => some ([], 8)) (fun k => ?_) (Ev.now _))
          simp only [sleuthlaw44_divided.j1]
          rw [if_neg (by decide), if_pos (by omega), if_pos (by omega), rdn, if_pos h3]
        · rw [if_neg h3] at hE
          subst hE
          obtain ⟨c, hcc⟩ := Int.eq_ofNat_of_zero_le (show 0 ≤ cuts.getD i 0 by omega)
          rw [hcc] at h1 h2 h3 ⊢
          have := ih (i + 1) c (out ++ [(l.take c).drop a]) (by omega) (by omega) (by omega) (by simp; omega)
          simp only [prt, Int.toNat_natCast]
          rw [List.append_assoc] at this
          refine enter _ (Ev.step (fun k => ?_) this)
          simp only [sleuthlaw44_divided.j1]
          rw [if_neg (by decide), if_pos (by omega), if_pos (by omega), rdn, hcc, if_neg (by omega), if_pos (by omega), if_pos (by omega), if_pos (by omega), if_pos (by omega), w64 (by omega) (by omega)]
          rfl
theorem div_ev (l cuts : List Int) (hl : l.length ≤ 1024) (hc : cuts.length ≤ 1099511627776) : Ev (fun k => sleuthlaw44_divided.f k l cuts) (if cutErr l.length 0 cuts = 0 then (prt l 0 cuts, 0) else ([], cutErr l.length 0 cuts)) := by
  have := div_loop l cuts hl hc (cuts.length - 0) 0 0 [] rfl (Nat.zero_le _) (Nat.zero_le _) (by simp)
  exact this
theorem rtotal_loop (r : List (List Int)) (hr : GoodParts r) (hl : r.length ≤ 2048) : ∀ (d i : Nat) (acc : Int), r.length - i = d → i ≤ r.length → 0 ≤ acc → acc + sumc (r.drop i) ≤ 1152921504606846976 →
    Ev (fun k => sleuthlaw44_total.l0 k r acc (i : Int)) (acc + sumc (r.drop i), 0) := by
  intro d
  induction d with
  | zero =>
    intro i acc hd hi _ _
    refine Ev.step (f := fun _ => some _) (fun k => ?_) (Ev.now _)
    simp only [sleuthlaw44_total.l0]
    rw [if_neg (by omega), List.drop_eq_nil_of_le (by omega)]
    simp [sumc]
  | succ d ih =>
    intro i acc hd hi h0 h1
    have hlt : i < r.length := by omega
    obtain ⟨g1, g2⟩ := hr _ (memL r i hlt)
    have hc := cst_nonneg (r.getD i [])
    have hs : 0 ≤ sumc (r.drop (i + 1)) := (sumc_bd _ (fun x hx => (hr x (List.mem_of_mem_drop hx)).2.2)).1
    rw [dropL_cons r i hlt] at h1 ⊢
    simp only [sumc] at h1 ⊢
    have := ih (i + 1) (acc + cst (r.getD i [])) (by omega) (by omega) (by omega) (by omega)
    rw [← Int.add_assoc]
    refine Ev.step (fun k => ?_) (Ev.bind (f := fun k t344 => sleuthlaw44_total.l0 k r (wrap64 (acc + t344)) (((i + 1 : Nat) : Int))) (rcost_ev _ g2 g1) ?_)
    · simp only [sleuthlaw44_total.l0]
      rw [if_pos (by omega), if_pos (by omega), w64 (x := (i : Int) + 1) (by omega) (by omega)]
      rfl
    · refine Ev.congr (fun k => ?_) this
      rw [w64 (by omega) (by omega)]
theorem rtotal_ev (l : List Int) (p : Int) (cuts : List Int) (h : chk l p = 0) (hc : cuts.length ≤ 1099511627776) : Ev (fun k => sleuthlaw44_total.f k l p cuts) (if cutErr l.length 0 cuts = 0 then (tot l p cuts, 0) else (0, cutErr l.length 0 cuts)) := by
  obtain ⟨hP, hl, h0, h1⟩ := chk_ok h
  have hd := div_ev l cuts hP.1 hc
  by_cases he : cutErr l.length 0 cuts = 0
  · simp only [he, if_true] at hd ⊢
    have h3 := tot_bd hP hl h0 h1 he
    have h4 := pen_bd h0 h1 cuts.length h3.2.2
    obtain ⟨g1, g2⟩ := good_prt hP hl he
    have hs := sumc_prt l cuts 0
    have hw : wrap64 (p * (cuts.length : Int)) = p * (cuts.length : Int) := w64 (by omega) (by omega)
    have hpl := prt_length l cuts 0
    have := rtotal_loop (prt l 0 cuts) g1 (by omega) ((prt l 0 cuts).length - 0) 0 (p * (cuts.length : Int)) rfl (Nat.zero_le _) h4.1 (by rw [List.drop_zero, hs]; unfold tot at h3; omega)
    rw [List.drop_zero, hs, ← hw] at this
    have h5 := Ev.bind (f := fun (k : Nat) (bt339 : List (List Int) × Int) => if bt339.2 = 0 then (sleuthlaw44_total.l0 k bt339.1 (wrap64 (p * (cuts.length : Int))) 0) else some (0, bt339.2)) hd (Ev.congr (fun k => if_pos rfl) this)
    rw [hw] at h5
    refine Ev.congr (fun k => ?_) h5
    unfold sleuthlaw44_total.f
    rw [hw]
  · simp only [he, if_false] at hd ⊢
    have h5 := Ev.bind (f := fun (k : Nat) (bt339 : List (List Int) × Int) => if bt339.2 = 0 then (sleuthlaw44_total.l0 k bt339.1 (wrap64 (p * (cuts.length : Int))) 0) else some (0, bt339.2)) hd (Ev.congr (fun k => if_neg he) (Ev.now _))
    refine Ev.congr (fun k => ?_) h5
    rfl
theorem less_loop (a b : List Int) (ha : a.length ≤ 1099511627776) : ∀ (d i : Nat), a.length - i = d → i ≤ a.length → i ≤ b.length → Ev (fun k => sleuthlaw44_less.l0 k a b (i : Int)) (lex (a.drop i) (b.drop i)) := by
  intro d
  induction d with
  | zero =>
    intro i hd hi hb
    refine Ev.step (f := fun k => sleuthlaw44_less.j1 k a b (i : Int) false) (fun k => ?_) (Ev.step (f := fun _ => some _) (fun k => ?_) (Ev.now _))
    · simp only [sleuthlaw44_less.l0]
      rw [if_neg (by omega)]
    · simp only [sleuthlaw44_less.j1]
      rw [if_neg (by decide), List.drop_eq_nil_of_le (by omega : a.length ≤ i)]
      by_cases h : a.length < b.length
      · rw [drop_cons b i (by omega), decide_eq_true (by omega)]
        rfl
      · rw [List.drop_eq_nil_of_le (by omega : b.length ≤ i), decide_eq_false (by omega)]
        rfl
  | succ d ih =>
    intro i hd hi hb
    by_cases hib : i < b.length
    · have enter : ∀ R, Ev (fun k => sleuthlaw44_less.j1 k a b (i : Int) true) R → Ev (fun k => sleuthlaw44_less.l0 k a b (i : Int)) R := by
        intro R h
        refine Ev.step (fun k => ?_) h
        simp only [sleuthlaw44_less.l0]
        rw [if_pos (by omega), decide_eq_true (by omega)]
      rw [drop_cons a i (by omega), drop_cons b i hib]
      by_cases he : a.getD i 0 = b.getD i 0
      · have n := ih (i + 1) (by omega) (by omega) (by omega)
        have e2 : lex (a.getD i 0 :: a.drop (i + 1)) (b.getD i 0 :: b.drop (i + 1)) = lex (a.drop (i + 1)) (b.drop (i + 1)) := by
          rw [he]; simp only [lex]; rw [decide_eq_false (by omega)]; simp
        rw [e2]
        refine enter _ (Ev.step (fun k => ?_) n)
        simp only [sleuthlaw44_less.j1]
        rw [if_pos trivial, if_pos (by omega), if_pos (by omega), if_pos (by omega), rdn, rdn, if_pos he, w64 (by omega) (by omega)]
        rfl
      · have e2 : lex (a.getD i 0 :: a.drop (i + 1)) (b.getD i 0 :: b.drop (i + 1)) = decide (a.getD i 0 < b.getD i 0) := by
          simp only [lex]; rw [decide_eq_false he]; simp
        rw [e2]
        refine enter _ (Ev.step (f := fun _ => some _) (fun k => ?_) (Ev.now _))
        simp only [sleuthlaw44_less.j1]
        rw [if_pos trivial, if_pos (by omega), if_pos (by omega), if_pos (by omega), rdn, rdn, if_neg he]
    · refine Ev.step (f := fun k => sleuthlaw44_less.j1 k a b (i : Int) false) (fun k => ?_) (Ev.step (f := fun _ => some _) (fun k => ?_) (Ev.now _))
      · simp only [sleuthlaw44_less.l0]
        rw [if_pos (by omega), decide_eq_false (by omega)]
      · simp only [sleuthlaw44_less.j1]
        rw [if_neg (by decide), drop_cons a i (by omega), List.drop_eq_nil_of_le (by omega : b.length ≤ i), decide_eq_false (by omega)]
        rfl
theorem less_ev (a b : List Int) (ha : a.length ≤ 1099511627776) : Ev (fun k => sleuthlaw44_less.f k a b) (lex a b) := less_loop a b ha _ 0 rfl (Nat.zero_le _) (Nat.zero_le _)
end Go.Proofs.Ytiimanpmidnffaa.Seg
