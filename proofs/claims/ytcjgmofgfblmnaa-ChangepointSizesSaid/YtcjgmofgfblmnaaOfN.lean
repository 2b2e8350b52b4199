/- Plain law: ChangepointSizes. -/
import Derived.Test.YtcjgmofgfblmnaaSg
import Derived.Test.YtcjgmofgfblmnaaQgSleuthlaw45ChangepointSizes
namespace Go.Proofs.Ytcjgmofgfblmnaa.Seg
open Go.RowKit Go.Proofs.YtcjgmofgfblmnaaW.PrintWords Go.Proofs.YtcjgmofgfblmnaaW.PrintLast Go.Proofs.YtcjgmofgfblmnaaW.PrintMore Go.Proofs.Ytcjgmofgfblmnaa.Q
open Go.Proofs.Ytcjgmofgfblmnaa.HandE (insS cfA cfB siz magW insS_len)
open Go.Proofs.Ytcjgmofgfblmnaa.HandL (latF)
open Go.Proofs.Ytcjgmofgfblmnaa.MatV (cmpI)
set_option linter.unusedVariables false
set_option linter.unusedSimpArgs false
/-! The insertion sort, on lists. -/
section
variable (lt : S41 → S41 → Bool)
def insRev (x : S41) : List S41 → List S41
  | [] => [x]
  | y :: r => if lt x y then y :: insRev x r else x :: y :: r
theorem get_mid (a : List S41) (x : S41) (b : List S41) (n : Nat) (h : a.length = n) : (a ++ x :: b).toArray[n]! = x := by
  subst h
  simp
theorem swp_mid (a : List S41) (x y : S41) (b : List S41) (n : Nat) (h : a.length = n) : Sort.swp (a ++ y :: x :: b).toArray (n + 1) n = (a ++ x :: y :: b).toArray := by
  have h1 : (a ++ y :: x :: b).toArray[n]! = y := get_mid a y _ n h
  have h2 : (a ++ y :: x :: b).toArray[n + 1]! = x := by
    have := get_mid (a ++ [y]) x b (n + 1) (by simp [h])
    simpa using this
  unfold Sort.swp
  rw [h1, h2]
  subst h
  simp [List.setIfInBounds_toArray, List.set_append]
theorem ins_inner : ∀ (pre : List S41) (x : S41) (post : List S41), Sort.insInner lt 0 pre.length (pre.reverse ++ x :: post).toArray = ((insRev lt x pre).reverse ++ post).toArray
  | [], x, post => by simp [Sort.insInner, insRev]
  | y :: r, x, post => by
    have e : (y :: r).reverse ++ x :: post = r.reverse ++ y :: x :: post := by simp
    rw [List.length_cons, Sort.insInner, e, get_mid r.reverse y _ r.length (by simp)]
    have g1 : (r.reverse ++ y :: x :: post).toArray[r.length + 1]! = x := by simp
    rw [g1]
    by_cases c : lt x y = true
    · rw [if_pos (by simp [c]), swp_mid _ _ _ _ _ (by simp), ins_inner r x (y :: post)]
      simp [insRev, c]
    · rw [if_neg (by simp [c])]
      simp [insRev, c]
theorem insRev_length (x : S41) : ∀ r : List S41, (insRev lt x r).length = r.length + 1
  | [] => rfl
  | y :: r => by
    unfold insRev
    split
    · simp [insRev_length x r]
    · rfl
theorem ins_outer : ∀ (post pre : List S41), Sort.insOuter lt 0 (pre.length + post.length) pre.length (pre.reverse ++ post).toArray = (post.foldl (fun r x => insRev lt x r) pre).reverse.toArray
  | [], pre => by
    unfold Sort.insOuter
    rw [if_neg (by simp)]
    simp
  | x :: post, pre => by
    unfold Sort.insOuter
    rw [if_pos (by simp), ins_inner]
    have := ins_outer post (insRev lt x pre)
    rw [insRev_length] at this
    rw [List.foldl_cons, ← this, List.length_cons]
    congr 1
    omega
theorem insertion (l : List S41) : Sort.insertionSort lt l.toArray 0 l.length = (l.foldl (fun r x => insRev lt x r) []).reverse.toArray := by
  unfold Sort.insertionSort
  cases l with
  | nil =>
    unfold Sort.insOuter
    rfl
  | cons x l =>
    have := ins_outer lt l [x]
    simp only [List.length_cons, List.length_nil, List.reverse_cons, List.reverse_nil, List.nil_append, List.singleton_append] at this
    rw [List.foldl_cons, List.length_cons]
    rw [show insRev lt x [] = [x] from rfl, ← this]
    congr 1
    omega
theorem insRev_perm (x : S41) : ∀ r : List S41, (insRev lt x r).Perm (x :: r)
  | [] => .refl _
  | y :: r => by
    unfold insRev
    split
    · exact ((insRev_perm x r).cons y).trans (.swap _ _ _)
    · exact .refl _
theorem fold_perm : ∀ (post pre : List S41), (post.foldl (fun r x => insRev lt x r) pre).Perm (pre ++ post)
  | [], pre => by simp
  | x :: post, pre => by
    rw [List.foldl_cons]
    refine (fold_perm post _).trans ?_
    refine ((insRev_perm lt x pre).append_right post).trans ?_
    exact (List.perm_middle (l₁ := pre)).symm
variable (T : S41 → S41 → Prop) (hT : ∀ x y z, T x y → T y z → T x z)
include hT
theorem insRev_sorted (x : S41) : ∀ r : List S41, r.Pairwise (fun a b => T b a) → (∀ y ∈ r, if lt x y = true then T x y else T y x) → (insRev lt x r).Pairwise (fun a b => T b a)
  | [], _, _ => by simp [insRev]
  | y :: r, h, hc => by
    rw [List.pairwise_cons] at h
    have hy := hc y List.mem_cons_self
    unfold insRev
    split
    · rename_i c
      rw [if_pos c] at hy
      refine List.pairwise_cons.2 ⟨fun z hz => ?_, insRev_sorted x r h.2 (fun z hz => hc z (List.mem_cons_of_mem _ hz))⟩
      rcases List.mem_cons.1 ((insRev_perm lt x r).mem_iff.1 hz) with rfl | hz
      · exact hy
      · exact h.1 z hz
    · rename_i c
      rw [if_neg c] at hy
      refine List.pairwise_cons.2 ⟨fun z hz => ?_, List.pairwise_cons.2 h⟩
      rcases List.mem_cons.1 hz with rfl | hz
      · exact hy
      · exact hT _ _ _ (h.1 z hz) hy
theorem fold_sorted : ∀ (post pre : List S41), pre.Pairwise (fun a b => T b a) → (∀ y ∈ pre, ∀ x ∈ post, if lt x y = true then T x y else T y x) → post.Pairwise (fun y x => if lt x y = true then T x y else T y x) →
    (post.foldl (fun r x => insRev lt x r) pre).Pairwise (fun a b => T b a)
  | [], pre, h, _, _ => h
  | x :: post, pre, h, h1, h2 => by
    rw [List.foldl_cons]
    rw [List.pairwise_cons] at h2
    refine fold_sorted post _ (insRev_sorted lt T hT x pre h (fun y hy => h1 y hy x List.mem_cons_self)) (fun y hy z hz => ?_) h2.2
    rcases List.mem_cons.1 ((insRev_perm lt x pre).mem_iff.1 hy) with rfl | hy
    · exact h2.1 z hz
    · exact h1 y hy z (List.mem_cons_of_mem _ hz)
end
theorem insS_eq (cf : S41 → S41 → Int) (l : List S41) : insS cf l = (l.foldl (fun r x => insRev (ltOf cf) x r) []).reverse := by
  unfold insS
  rw [insertion]
theorem insS_perm (cf : S41 → S41 → Int) (l : List S41) : (insS cf l).Perm l := by
  rw [insS_eq]
  exact (List.reverse_perm _).trans (fold_perm _ l [])
theorem insS_sorted (cf : S41 → S41 → Int) (T : S41 → S41 → Prop) (hT : ∀ x y z, T x y → T y z → T x z) (l : List S41) (h : l.Pairwise (fun y x => if ltOf cf x y = true then T x y else T y x)) : (insS cf l).Pairwise T := by
  rw [insS_eq, List.pairwise_reverse]
  exact fold_sorted _ T hT l [] .nil (fun _ h => by cases h) h
/-- Ahead by size: the greater, and the earlier of two equals. -/
def Ah (x y : S41) : Prop := siz y < siz x ∨ (siz x = siz y ∧ x.f0 < y.f0)
instance (x y : S41) : Decidable (Ah x y) := inferInstanceAs (Decidable (_ ∨ _))
theorem lt_cmp (cf : S41 → S41 → Int) (x y : S41) (a b : Int) (h : cf x y = cmpI a b) : ltOf cf x y = true ↔ a < b := by
  unfold ltOf
  rw [h, decide_eq_true_eq]
  unfold cmpI
  split
  · simp_all
  · split <;> simp_all <;> omega
abbrev Inc (l : List S41) : Prop := l.Pairwise (fun a b => a.f0 < b.f0)
theorem byA (l : List S41) (h : Inc l) : (insS cfA l).Pairwise Ah := by
  refine insS_sorted cfA Ah (fun x y z h1 h2 => by unfold Ah at *; omega) l (h.imp fun {a b} hab => ?_)
  have := lt_cmp cfA b a _ _ rfl
  split
  · rename_i c
    exact .inl (this.1 c)
  · rename_i c
    rw [this] at c
    unfold Ah
    omega
theorem byB (l : List S41) (h : l.Pairwise (fun a b => a.f0 ≠ b.f0)) : Inc (insS cfB l) := by
  refine insS_sorted cfB (fun x y => x.f0 < y.f0) (fun x y z h1 h2 => by omega) l (h.imp fun {a b} hab => ?_)
  have := lt_cmp cfB b a _ _ rfl
  split
  · rename_i c
    exact this.1 c
  · rename_i c
    rw [this] at c
    omega
/-- Two lists with growing slots and the same elements are one. -/
theorem inc_eq : ∀ (a b : List S41), Inc a → Inc b → (∀ v, v ∈ a ↔ v ∈ b) → a = b
  | [], [], _, _, _ => rfl
  | [], y :: b, _, _, h => absurd ((h y).2 List.mem_cons_self) (by simp)
  | x :: a, [], _, _, h => absurd ((h x).1 List.mem_cons_self) (by simp)
  | x :: a, y :: b, ha, hb, h => by
    rw [Inc, List.pairwise_cons] at ha hb
    have e : x = y := by
      rcases List.mem_cons.1 ((h x).1 List.mem_cons_self) with e | h1
      · exact e
      · rcases List.mem_cons.1 ((h y).2 List.mem_cons_self) with e | h2
        · exact e.symm
        · have := hb.1 x h1
          have := ha.1 y h2
          omega
    subst e
    rw [inc_eq a b ha.2 hb.2 (fun v => ?_)]
    constructor
    · intro hv
      rcases List.mem_cons.1 ((h v).1 (List.mem_cons_of_mem _ hv)) with e | h1
      · subst e
        have := ha.1 v hv
        omega
      · exact h1
    · intro hv
      rcases List.mem_cons.1 ((h v).2 (List.mem_cons_of_mem _ hv)) with e | h1
      · subst e
        have := hb.1 v hv
        omega
      · exact h1
def rk (l : List S41) (x : S41) : Nat := l.countP (fun y => decide (Ah y x))
theorem rk_sorted (s : List S41) (h : s.Pairwise Ah) (p : Nat) (hp : p < s.length) : rk s s[p] = p := by
  unfold rk
  have e : s = s.take p ++ s[p] :: s.drop (p + 1) := by rw [← List.drop_eq_getElem_cons hp, List.take_append_drop]
  rw [List.pairwise_iff_getElem] at h
  have h1 : (s.take p).countP (fun y => decide (Ah y s[p])) = p := by
    have : (s.take p).countP (fun y => decide (Ah y s[p])) = (s.take p).length := by
      rw [List.countP_eq_length]
      intro a ha
      obtain ⟨i, hi, rfl⟩ := List.mem_take_iff_getElem.1 ha
      exact decide_eq_true (h i p (by omega) hp (by omega))
    rw [this, List.length_take]
    omega
  have irr : ∀ x y, Ah x y → ¬ Ah y x := fun x y a b => by unfold Ah at *; omega
  have h2 : (s.drop (p + 1)).countP (fun y => decide (Ah y s[p])) = 0 := by
    rw [List.countP_eq_zero]
    intro a ha
    obtain ⟨i, hi, rfl⟩ := List.mem_drop_iff_getElem.1 ha
    simp only [decide_eq_true_eq]
    exact irr _ _ (h p (p + 1 + i) hp (by omega) (by omega))
  generalize hx : s[p] = x at *
  rw [e, List.countP_append, List.countP_cons, h1, h2]
  have : ¬ Ah x x := fun a => irr _ _ a a
  simp [this]
theorem picked (l : List S41) (h : Inc l) (n : Int) : insS cfB ((insS cfA l).take (mx 0 (mn n (l.length : Int))).toNat) = l.filter (fun x => decide ((rk l x : Int) < n)) := by
  have hs := byA l h
  have hp := insS_perm cfA l
  have hl := insS_len cfA l
  generalize insS cfA l = s at hs hp hl
  have nd : s.Pairwise (fun a b => a.f0 ≠ b.f0) := hp.symm.pairwise (h.imp fun {a b} hab => by omega) (fun {a b} hab => fun e => hab e.symm)
  have hm : ∀ p, p < l.length → (p < (mx 0 (mn n (l.length : Int))).toNat ↔ (p : Int) < n) := by
    intro p hp
    unfold mx mn
    split <;> split <;> omega
  refine inc_eq _ _ (byB _ (nd.sublist (List.take_sublist _ _))) (List.Pairwise.filter _ h) (fun v => ?_)
  rw [(insS_perm cfB _).mem_iff, List.mem_filter, decide_eq_true_eq, List.mem_take_iff_getElem]
  have hr : ∀ x, rk l x = rk s x := fun x => (hp.countP_eq _).symm
  rw [hr]
  constructor
  · rintro ⟨p, hq, rfl⟩
    rw [rk_sorted s hs p (by omega)]
    exact ⟨hp.mem_iff.1 (List.getElem_mem _), (hm p (by omega)).1 (by omega)⟩
  · rintro ⟨hv, hn⟩
    obtain ⟨p, hq, rfl⟩ := List.mem_iff_getElem.1 (hp.mem_iff.2 hv)
    rw [rk_sorted s hs p hq] at hn
    exact ⟨p, by have := (hm p (by omega)).2 hn; omega, rfl⟩
/-! The changes. -/
theorem w_suc (i : Nat) (h : i < 1000000) : wrap64 ((i : Int) + 1) = ((i + 1 : Nat) : Int) := by rw [w64 (by omega) (by omega)]; omega
def fits (x : S41) : Prop := -102 ≤ x.f0 ∧ x.f0 ≤ 102 ∧ -128 ≤ x.f1 ∧ x.f1 ≤ 127 ∧ -128 ≤ x.f2 ∧ x.f2 ≤ 127
def byt (x : S92) : Prop := (-128 ≤ x.f0 ∧ x.f0 ≤ 127) ∧ (-128 ≤ x.f1 ∧ x.f1 ≤ 127) ∧ (-128 ≤ x.f2 ∧ x.f2 ≤ 127)
theorem i8_bd {x : Int} (h : (Lit.int .i8 x).wf = true) : -128 ≤ x ∧ x ≤ 127 := by
  simp only [Lit.wf, IntKind.min, IntKind.max, IntKind.signed, IntKind.bits, Bool.and_eq_true, decide_eq_true_eq] at h
  simpa using h
theorem tm16n (y : Int) (h : 0 ≤ y) : 0 ≤ Int.tmod y 16 ∧ Int.tmod y 16 < 16 := ⟨Int.tmod_nonneg _ h, Int.tmod_lt_of_pos y (by decide)⟩
theorem chg_step (l : List S92) (hb : ∀ x ∈ l, byt x) (i : Nat) (hi : i < l.length) (a : Int) (h1 : 0 ≤ a) (h2 : a ≤ 1000) : ∃ s b c : Int, a < s ∧ s ≤ a + 17 ∧ -128 ≤ b ∧ b ≤ 127 ∧ -128 ≤ c ∧ c ≤ 127 ∧
    wrap64 ((wrap64 (a + 1)) + (Int.tmod (mx (wrap64 ((rd_T92 l (i : Int)).f0)) (wrap64 (-(wrap64 ((rd_T92 l (i : Int)).f0))))) 16)) = s ∧ wrap64 ((rd_T92 l (i : Int)).f1) = b ∧ wrap64 ((rd_T92 l (i : Int)).f2) = c := by
  have er : rd_T92 l (i : Int) = l[i] := by simp [rd_T92, List.getD, List.getElem?_eq_getElem hi]
  have hx := hb _ (List.getElem_mem hi)
  rw [er]
  generalize l[i] = x at hx
  obtain ⟨⟨b0, b0'⟩, ⟨b1, b1'⟩, ⟨b2, b2'⟩⟩ := hx
  obtain ⟨y0, y1, y2⟩ := x
  simp only at b0 b0' b1 b1' b2 b2' ⊢
  clear er hb hi
  rw [w64 (x := y0) (by omega) (by omega), w64 (x := y1) (by omega) (by omega), w64 (x := y2) (by omega) (by omega), w64 (x := -y0) (by omega) (by omega), w64 (x := a + 1) (by omega) (by omega)]
  have em : 0 ≤ mx y0 (-y0) := by
    unfold mx
    split <;> omega
  generalize mx y0 (-y0) = m at em
  obtain ⟨t0, t1⟩ := tm16n m em
  generalize Int.tmod m 16 = t at t0 t1
  clear em m
  refine ⟨a + 1 + t, y1, y2, by omega, by omega, b1, b1', b2, b2', w64 (by omega) (by omega), rfl, rfl⟩
theorem chg_siz (l : List S92) (hb : ∀ x ∈ l, byt x) : ∃ r : List S41, r.length ≤ 6 ∧ (∀ x ∈ r, fits x) ∧ Inc r ∧ Ev (fun k => sleuthlaw45_changes.f k l) r := by
  have key : ∀ (d i : Nat) (acc : List S41) (a : Int), 6 - i = d → i ≤ 6 → acc.length ≤ i → (∀ x ∈ acc, fits x ∧ x.f0 ≤ a) → Inc acc → 0 ≤ a → a ≤ 17 * (i : Int) → ∃ r : List S41, r.length ≤ 6 ∧ (∀ x ∈ r, fits x) ∧ Inc r ∧ Ev (fun k => sleuthlaw45_changes.l0 k l acc a (i : Int)) r := by
    intro d
    induction d with
    | zero =>
      intro i acc a hd hi hl hb hc h1 h2
      refine ⟨acc, by omega, fun x hx => (hb x hx).1, hc, Ev.step (f := fun _ => some acc) (fun k => ?_) (Ev.now _)⟩
      simp only [sleuthlaw45_changes.l0]
      by_cases c : (i : Int) < (l.length : Int)
      · rw [if_pos c, if_neg (by omega)]
      · rw [if_neg c]
    | succ d ih =>
      intro i acc a hd hi hl ha hc h1 h2
      by_cases c : (i : Int) < (l.length : Int)
      · obtain ⟨s, b, e, s1, s2, b1, b2, e1, e2, q0, q1, q2⟩ := chg_step l hb i (by omega) a h1 (by omega)
        have q := Aside0.mk (And.intro q0 (And.intro q1 (And.intro q2 (w_suc i (by clear q0 q1 q2; omega)))))
        clear q0 q1 q2
        have hs : s ≤ 102 := by omega
        have hs0 : -102 ≤ s := by omega
        obtain ⟨r, hr1, hr2, hr3, ev⟩ := ih (i + 1) (acc ++ [(⟨s, b, e⟩ : S41)]) s (by omega) (by omega) (by rw [List.length_append]; exact Nat.succ_le_succ hl) (by
          intro x hx
          rw [List.mem_append] at hx
          rcases hx with hx | hx
          · have := ha x hx
            exact ⟨this.1, by omega⟩
          · rw [List.mem_singleton] at hx
            subst hx
            exact ⟨⟨hs0, hs, b1, b2, e1, e2⟩, Int.le_refl _⟩) (by
          refine List.pairwise_append.2 ⟨hc, by simp, fun x hx y hy => ?_⟩
          rw [List.mem_singleton] at hy
          subst hy
          exact Int.lt_of_le_of_lt (ha x hx).2 s1) (by omega) (by omega)
        refine ⟨r, hr1, hr2, hr3, Ev.step (fun k => ?_) ev⟩
        have p1 : (i : Int) < 6 := by omega
        have p2 : (0 : Int) ≤ (i : Int) := by omega
        have p3 : acc.length < 5864062014805 := by omega
        obtain ⟨q0, q1, q2, hw⟩ := q.out
        simp only [sleuthlaw45_changes.l0]
        rw [if_pos c, if_pos p1, if_pos p2, if_pos p3, q0, q1, q2, hw]
      · refine ⟨acc, by omega, fun x hx => (ha x hx).1, hc, Ev.step (f := fun _ => some acc) (fun k => ?_) (Ev.now _)⟩
        simp only [sleuthlaw45_changes.l0]
        rw [if_neg c]
  exact key _ 0 [] 0 rfl (by omega) (by simp) (by simp) .nil (by omega) (by omega)
/-! The law. -/
theorem dir_eq (x : S41) : ∃ d, changepoint_Direction.f x.f0 x.f1 x.f2 = some d ∧ sleuthlaw45_direction.f x.f0 x.f1 x.f2 = some d := by
  unfold changepoint_Direction.f cmp_Compare_int.f cmp_isNaN_int.f sleuthlaw45_direction.f
  simp only [Option.bind_some]
  by_cases c : x.f1 < x.f2
  · refine ⟨1, ?_, if_pos c⟩
    simp [show ¬ x.f2 < x.f1 by omega, c]
  · by_cases c2 : x.f2 < x.f1
    · refine ⟨-1, ?_, ?_⟩
      · simp [c2]
      · rw [if_neg c, if_pos c2]
    · refine ⟨0, ?_, ?_⟩
      · simp [c, c2]
      · rw [if_neg c, if_neg c2]
theorem size_eq (x : S41) (h : fits x) : sleuthlaw45_size.f x.f0 x.f1 x.f2 = some (siz x) := by
  obtain ⟨_, _, h1, h2, h3, h4⟩ := h
  unfold sleuthlaw45_size.f siz magW
  rw [w64 (x := x.f2 - x.f1) (by omega) (by omega), w64 (x := x.f1 - x.f2) (by omega) (by omega), w64 (x := -(x.f2 - x.f1)) (by omega) (by omega)]
  congr 2
  omega
theorem base_pos (x : S41) : 1 ≤ mx (mx x.f1 (wrap64 (-x.f1))) 1 := by
  generalize mx x.f1 (wrap64 (-x.f1)) = y
  unfold mx
  split <;> omega
theorem rel_eq (x : S41) (h : fits x) : changepoint_Relative.f x.f0 x.f1 x.f2 = some (wrap64 (Int.tdiv (wrap64 ((mx (wrap64 (x.f2 - x.f1)) (wrap64 (-(wrap64 (x.f2 - x.f1))))) * 1000000)) (mx (mx x.f1 (wrap64 (-x.f1))) 1))) := by
  have hb := base_pos x
  obtain ⟨_, _, h1, h2, h3, h4⟩ := h
  unfold changepoint_Relative.f changepoint_abs.f
  simp only [Option.bind_some]
  rw [if_neg (by omega)]
  congr 1
  rw [w64 (x := x.f2 - x.f1) (by omega) (by omega), w64 (x := -(x.f2 - x.f1)) (by omega) (by omega)]
  have hm : 0 ≤ mx (x.f2 - x.f1) (-(x.f2 - x.f1)) ∧ mx (x.f2 - x.f1) (-(x.f2 - x.f1)) ≤ 255 := by
    unfold mx
    split <;> omega
  generalize mx (x.f2 - x.f1) (-(x.f2 - x.f1)) = m at hm
  generalize mx (mx x.f1 (wrap64 (-x.f1))) 1 = b at hb
  rw [w64 (x := m * 1000000) (by omega) (by omega)]
  have q0 : 0 ≤ Int.tdiv (m * 1000000) b := Int.tdiv_nonneg (by omega) (by omega)
  have q1 : Int.tdiv (m * 1000000) b ≤ m * 1000000 := Int.tdiv_le_self b (by omega)
  rw [w64 (x := Int.tdiv (m * 1000000) b) (by omega) (by omega)]
  unfold mn
  rw [if_neg (by omega)]
theorem lat_snoc (l : List S41) (x : S41) (s : Int) : latF (l ++ [x]) s = if x.f0 ≤ s then (x, true) else latF l s := by
  unfold latF
  rw [List.reverse_append, List.reverse_singleton, List.singleton_append, List.find?_cons]
  by_cases c : x.f0 ≤ s
  · simp [c]
  · simp [c]
theorem cut_filter (l : List S41) (i : Nat) (h : i < l.length) (P : S41 → Bool) (hP : P l[i] = true) : l.filter P = (l.take i).filter P ++ l[i] :: (l.drop (i + 1)).filter P := by
  conv => lhs; rw [← List.take_append_drop i l, List.drop_eq_getElem_cons h]
  rw [List.filter_append, List.filter_cons_of_pos hP]
theorem rdr (l : List S41) (i : Nat) (h : i < l.length) : rd_T41 l (i : Int) = l[i] := by simp [rd_T41, List.getD, List.getElem?_eq_getElem h]
section
variable (l : List S41) (hl : l.length ≤ 6) (hf : ∀ x ∈ l, fits x) (hi : Inc l) (s n : Int)
include hl hf hi
theorem siz_l2 (g : List S41) (i : Nat) (hi2 : i < l.length) (kk : Int) (r : Bool) (hg : Ev (fun k => if (rk l l[i] : Int) ≥ n then (sleuthlaw45_ChangepointSizes.l1 k n l g kk (wrap64 ((i : Int) + 1))) else (if kk ≥ (g.length : Int) then (some false) else (if 0 ≤ kk then (if kk < (g.length : Int) then (if 0 ≤ (i : Int) then (if (i : Int) < (l.length : Int) then (if (!(((rd_T41 g kk).f0) == ((rd_T41 l (i : Int)).f0)) || (!(((rd_T41 g kk).f1) == ((rd_T41 l (i : Int)).f1)) || (!(((rd_T41 g kk).f2) == ((rd_T41 l (i : Int)).f2))))) = true then (some false) else (sleuthlaw45_ChangepointSizes.l1 k n l g (wrap64 (kk + 1)) (wrap64 ((i : Int) + 1)))) else (none)) else (none)) else (none)) else (none)))) r) :
    ∀ d j : Nat, l.length - j = d → j ≤ l.length → Ev (fun k => sleuthlaw45_ChangepointSizes.l2 k n l g kk (i : Int) (((l.take j).countP (fun y => decide (Ah y l[i])) : Nat) : Int) (j : Int)) r := by
  intro d
  induction d with
  | zero =>
    intro j hd hj
    have ej : j = l.length := by omega
    refine Ev.step (fun k => ?_) hg
    simp only [sleuthlaw45_ChangepointSizes.l2]
    rw [if_neg (by omega), ej, List.take_length]
    rfl
  | succ d ih =>
    intro j hd hj
    have hj2 : j < l.length := by omega
    have hc : (l.take j).countP (fun y => decide (Ah y l[i])) ≤ j := Nat.le_trans (List.countP_le_length) (by rw [List.length_take]; omega)
    have ih := ih (j + 1) (by omega) (by omega)
    rw [List.take_succ_eq_append_getElem hj2, List.countP_append, List.countP_singleton] at ih
    refine Ev.step (fun k => ?_) ih
    simp only [sleuthlaw45_ChangepointSizes.l2]
    rw [rdr l j hj2, rdr l i hi2, if_pos (by omega), if_pos (by omega), size_eq _ (hf _ (List.getElem_mem hj2)), size_eq _ (hf _ (List.getElem_mem hi2))]
    simp only [Option.bind_some]
    rw [if_pos (by omega), if_pos (by omega)]
    have hlt : ((j : Int) < (i : Int) ↔ l[j].f0 < l[i].f0) := by
      have hp := List.pairwise_iff_getElem.1 hi
      rcases Nat.lt_trichotomy j i with h | h | h
      · have := hp j i hj2 hi2 h
        omega
      · subst h
        omega
      · have := hp i j hi2 hj2 h
        omega
    have w1 := w_suc ((l.take j).countP (fun y => decide (Ah y l[i]))) (by omega)
    have w2 := w_suc j (by omega)
    rw [w1, w2]
    by_cases c : siz l[j] > siz l[i]
    · rw [if_pos c, if_pos (decide_eq_true (.inl c))]
    · rw [if_neg c]
      by_cases c2 : siz l[j] = siz l[i]
      · rw [if_pos c2]
        by_cases c3 : (j : Int) < (i : Int)
        · rw [if_pos c3, if_pos (decide_eq_true (.inr ⟨c2, hlt.1 c3⟩))]
        · have : ¬ Ah l[j] l[i] := by unfold Ah; omega
          rw [if_neg c3, if_neg (by simp [this])]
          rfl
      · have : ¬ Ah l[j] l[i] := by unfold Ah; omega
        rw [if_neg c2, if_neg (by simp [this])]
        rfl
theorem siz_l1 (g : List S41) (hg : g = l.filter (fun x => decide ((rk l x : Int) < n))) : ∀ d i : Nat, l.length - i = d → i ≤ l.length → Ev (fun k => sleuthlaw45_ChangepointSizes.l1 k n l g ((((l.take i).filter (fun x => decide ((rk l x : Int) < n))).length : Nat) : Int) (i : Int)) true := by
  intro d
  induction d with
  | zero =>
    intro i hd hj
    have ej : i = l.length := by omega
    refine Ev.step (f := fun _ => some true) (fun k => ?_) (Ev.now _)
    simp only [sleuthlaw45_ChangepointSizes.l1]
    rw [if_neg (by omega), ej, List.take_length, hg, beq_self_eq_true]
  | succ d ih =>
    intro i hd hj
    have hj2 : i < l.length := by omega
    have hc : ((l.take i).filter (fun x => decide ((rk l x : Int) < n))).length ≤ i := Nat.le_trans (List.length_filter_le _ _) (by rw [List.length_take]; omega)
    have ih := ih (i + 1) (by omega) (by omega)
    rw [List.take_succ_eq_append_getElem hj2, List.filter_append, List.length_append] at ih
    have w2 := w_suc i (by omega)
    have w1 := w_suc ((l.take i).filter (fun x => decide ((rk l x : Int) < n))).length (by omega)
    have key := siz_l2 l hl hf hi n g i hj2 ((((l.take i).filter (fun x => decide ((rk l x : Int) < n))).length : Nat) : Int) true (by
      by_cases c : (rk l l[i] : Int) ≥ n
      · rw [List.filter_cons_of_neg (by simp; omega)] at ih
        refine Ev.congr (fun k => ?_) ih
        rw [if_pos c, w2]
        rfl
      · rw [List.filter_cons_of_pos (by simp; omega)] at ih
        have eg : g = (l.take i).filter (fun x => decide ((rk l x : Int) < n)) ++ l[i] :: (l.drop (i + 1)).filter (fun x => decide ((rk l x : Int) < n)) := by
          rw [hg]
          exact cut_filter l i hj2 _ (by simp; omega)
        have hk : ((l.take i).filter (fun x => decide ((rk l x : Int) < n))).length < g.length := by
          have := congrArg List.length eg
          rw [List.length_append, List.length_cons] at this
          omega
        have ge : rd_T41 g ((((l.take i).filter (fun x => decide ((rk l x : Int) < n))).length : Nat) : Int) = l[i] := by
          generalize (l.take i).filter (fun x => decide ((rk l x : Int) < n)) = u at eg hk
          simp [rd_T41, eg, List.getD]
        refine Ev.congr (fun k => ?_) ih
        rw [if_neg c, if_neg (by omega), if_pos (by omega), if_pos (by omega), if_pos (by omega), if_pos (by omega), ge, rdr l i hj2, if_neg (by simp), w1, w2]
        rfl) _ 0 rfl (by omega)
    refine Ev.step (fun k => ?_) key
    simp only [sleuthlaw45_ChangepointSizes.l1]
    rw [if_pos (by omega)]
    rfl
theorem siz_l0 : ∀ d i : Nat, l.length - i = d → i ≤ l.length → Ev (fun k => sleuthlaw45_ChangepointSizes.l0 k s n l (latF (l.take i) s).2 (i : Int) (latF (l.take i) s).1.f0 (latF (l.take i) s).1.f1 (latF (l.take i) s).1.f2) true := by
  intro d
  induction d with
  | zero =>
    intro i hd hj
    have ej : i = l.length := by omega
    have h1 := siz_l1 l hl hf hi n _ (picked l hi n) _ 0 rfl (by omega)
    have hL : changepoint_Largest.f l n = some (insS cfB ((insS cfA l).take (mx 0 (mn n (l.length : Int))).toNat)) := by
      unfold changepoint_Largest.f changepoint_Change_55.f
      rw [if_pos (by omega), Option.bind_some]
      unfold changepoint_Change_56.f
      rw [if_pos (by omega), Option.bind_some]
      have hm : 0 ≤ mx 0 (mn n (l.length : Int)) ∧ mx 0 (mn n (l.length : Int)) ≤ (l.length : Int) := by
        unfold mx mn
        split <;> split <;> omega
      rw [if_pos hm.1, if_pos hm.2]
      unfold changepoint_Change_58.f
      rw [if_pos (by rw [List.length_take, insS_len]; omega), Option.bind_some]
    refine Ev.step (fun k => ?_) (Ev.step (g := fun k => sleuthlaw45_ChangepointSizes.j2 k n l false) (fun k => ?_) h1)
    · simp only [sleuthlaw45_ChangepointSizes.l0]
      rw [if_neg (by omega), ej, List.take_length]
      unfold changepoint_Latest.f
      rw [if_pos (by omega)]
      simp only [Option.bind_some]
      simp
    · simp only [sleuthlaw45_ChangepointSizes.j2]
      rw [if_neg (by simp), hL, Option.bind_some]
      rfl
  | succ d ih =>
    intro i hd hj
    have hj2 : i < l.length := by omega
    have ih := ih (i + 1) (by omega) (by omega)
    rw [List.take_succ_eq_append_getElem hj2, lat_snoc] at ih
    obtain ⟨dd, d1, d2⟩ := dir_eq l[i]
    refine Ev.step (fun k => ?_) (Ev.step (g := fun k => sleuthlaw45_ChangepointSizes.j1 k s n l (latF (l.take i) s).2 (i : Int) false (latF (l.take i) s).1.f0 (latF (l.take i) s).1.f1 (latF (l.take i) s).1.f2) (fun k => ?_) ih)
    · simp only [sleuthlaw45_ChangepointSizes.l0]
      rw [rdr l i hj2, if_pos (by omega), if_pos (by omega), d1, d2]
      simp only [Option.bind_some]
      rw [if_pos trivial, rel_eq _ (hf _ (List.getElem_mem hj2)), Option.bind_some, if_neg (by have := base_pos l[i]; omega)]
      simp
    · simp only [sleuthlaw45_ChangepointSizes.j1]
      rw [if_neg (by simp), if_pos (by omega), if_pos (by omega), rdr l i hj2, w_suc i (by omega)]
      by_cases c : l[i].f0 ≤ s
      · simp only [if_pos c]
      · simp only [if_neg c]
end
theorem lawSizes (l0 : List S92) (a1 a2 : Int) (hb : ∀ x ∈ l0, byt x) : Ev (fun k => sleuthlaw45_ChangepointSizes.f k l0 a1 a2) true := by
  obtain ⟨l, h1, h2, h3, ev⟩ := chg_siz l0 hb
  unfold sleuthlaw45_ChangepointSizes.f
  refine Ev.bind known_ev (Ev.congr (fun k => if_pos rfl) (Ev.bind ev ?_))
  exact siz_l0 l h1 h2 h3 a1 a2 _ 0 rfl (by omega)
end Go.Proofs.Ytcjgmofgfblmnaa.Seg
