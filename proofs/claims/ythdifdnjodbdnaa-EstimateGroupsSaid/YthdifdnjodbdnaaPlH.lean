/- Plain laws of layer 25: estimate.By as a fold over the spans. -/
import Derived.Test.YthdifdnjodbdnaaPl
namespace Go.Proofs.Ythdifdnjodbdnaa.Pl
open Go.RowKit Go.Proofs.YthdifdnjodbdnaaW.PrintWords Go.Proofs.YthdifdnjodbdnaaW.PrintLast Go.Proofs.YthdifdnjodbdnaaW.PrintMore Go.Proofs.Ythdifdnjodbdnaa.Q
open Mr (getL putL good pr)
set_option linter.unusedVariables false
set_option linter.unusedSimpArgs false
set_option linter.unusedSimpArgs false
theorem get_put {K V : Type} [DecidableEq K] (m : List (K × V)) (x y : K) (v z : V) : Mp.get (Mp.put m x v) y z = if y = x then v else Mp.get m y z := by
  induction m with
  | nil =>
    show (if x = y then v else z) = _
    by_cases h : y = x
    · rw [if_pos h, if_pos h.symm]
    · rw [if_neg h, if_neg (Ne.symm h)]; rfl
  | cons p m ih =>
    rw [Mp.put]
    by_cases h : p.1 = x
    · rw [if_pos h]
      show (if x = y then v else Mp.get m y z) = _
      by_cases hy : y = x
      · rw [if_pos hy, if_pos hy.symm]
      · rw [if_neg hy, if_neg (Ne.symm hy), Mp.get, if_neg (by rw [h]; exact Ne.symm hy)]
    · rw [if_neg h, Mp.get, ih, Mp.get]
      by_cases hp : p.1 = y
      · rw [if_pos hp, if_pos hp, if_neg (by rw [← hp]; exact h)]
      · rw [if_neg hp, if_neg hp]
theorem keys_put {K V : Type} [DecidableEq K] (m : List (K × V)) (x : K) (v : V) : (Mp.put m x v).map Prod.fst = if x ∈ m.map Prod.fst then m.map Prod.fst else m.map Prod.fst ++ [x] := by
  induction m with
  | nil => rfl
  | cons p m ih =>
    rw [Mp.put]
    by_cases h : p.1 = x
    · rw [if_pos h, if_pos (by rw [List.map_cons, h]; exact List.mem_cons_self)]
      simp [h]
    · rw [if_neg h, List.map_cons, ih, List.map_cons]
      by_cases hm : x ∈ m.map Prod.fst
      · rw [if_pos hm, if_pos (List.mem_cons_of_mem _ hm)]
      · rw [if_neg hm, if_neg (by rw [List.mem_cons]; rintro (e | e); exact h e.symm; exact hm e)]
        rfl
def keysL (l : List S41) : List S39 := l.map (·.f0)
theorem keysL_pr (l : List S41) : (l.map pr).map Prod.fst = keysL l := by
  unfold keysL
  rw [List.map_map]
  rfl
theorem getL_put (l : List S41) (k y : S39) (v : S37) : getL (putL l k v) y = if y = k then v else getL l y := by
  unfold getL
  rw [Mr.put_pr, get_put]
theorem keysL_put (l : List S41) (k : S39) (v : S37) : keysL (putL l k v) = if k ∈ keysL l then keysL l else keysL l ++ [k] := by
  rw [← keysL_pr, Mr.put_pr, keys_put, keysL_pr]
/-- The group of a span. -/
def key (lv : Int) (s : S58) : S39 := ⟨s.f6, if lv = 2 then s.f7 else ⟨#[]⟩, if lv = 3 then s.f8 else ⟨#[]⟩⟩
def gid (lv : Int) : Int := if lv = 1 then 62 else if lv = 2 then 63 else 64
theorem key_f (lv : Int) (h : lv = 1 ∨ lv = 2 ∨ lv = 3) (s : S58) : By_key.f s.f0 s.f1 s.f2 s.f3 s.f4 s.f5 s.f6 s.f7 s.f8 s.f9 s.f10 s.f11 s.f12 s.f13 (gid lv) = some ((key lv s).f0, (key lv s).f1, (key lv s).f2) := by
  rcases h with rfl | rfl | rfl <;> rfl
/-- One span. -/
def stepM (lv w : Int) (st : List S41 × List S41) (s : S58) : List S41 × List S41 :=
  if ((getL st.2 (key lv s)).f0 == 1) = true then (putL st.1 (key lv s) ⟨wrap64 ((getL st.1 (key lv s)).f0 + w), wrap64 ((getL st.1 (key lv s)).f1 + if s.f11 = true then w else 0), wrap64 ((getL st.1 (key lv s)).f2 + wrap64 (w * wrap64 (s.f10 - s.f9))), wrap64 ((getL st.1 (key lv s)).f3 + 0)⟩, st.2)
  else (putL st.1 (key lv s) ⟨wrap64 ((getL st.1 (key lv s)).f0 + w), wrap64 ((getL st.1 (key lv s)).f1 + if s.f11 = true then w else 0), wrap64 ((getL st.1 (key lv s)).f2 + wrap64 (w * wrap64 (s.f10 - s.f9))), wrap64 ((getL st.1 (key lv s)).f3 + w)⟩, putL st.2 (key lv s) ⟨1, 0, 0, 0⟩)
def traceM (lv : Int) (M : List S41) (t : S53) : List S41 := (t.f2.foldl (stepM lv t.f1) (M, [])).1
def byM (lv : Int) (l : List S53) : List S41 := l.foldl (traceM lv) []
section
variable (lv : Int) (hlv : lv = 1 ∨ lv = 2 ∨ lv = 3)
include hlv
theorem by_l1 (l : List S53) (R : List S41 × Int) (i t0 w : Int) (t2 sp : List S58) (hl : sp.length ≤ 4611686018427387904) (hg : ∀ s ∈ sp, good (key lv s)) : ∀ (n j : Nat), sp.length - j = n → j ≤ sp.length → ∀ M S,
    Ev (fun k => estimate_By.l0 k (gid lv) ((sp.drop j).foldl (stepM lv w) (M, S)).1 l (l.length : Int) (wrap64 (i + 1))) R →
    Ev (fun k => estimate_By.l1 k (gid lv) M S l (l.length : Int) i sp (sp.length : Int) (j : Int) t0 w t2) R := by
  intro n
  induction n with
  | zero =>
    intro j hn hj M S h
    refine Ev.step (fun k => ?_) h
    simp only [estimate_By.l1]
    rw [if_neg (by omega), List.drop_of_length_le (by omega)]
    rfl
  | succ n ih =>
    intro j hn hj M S h
    have hlt : j < sp.length := by omega
    have hd : sp.drop j = sp[j] :: sp.drop (j + 1) := drop_at sp hlt
    have hr : rd_T58 sp (j : Int) = sp[j] := getD_at sp z58 hlt
    have hgj := hg _ (List.getElem_mem hlt)
    have hgj' : good ⟨(key lv sp[j]).f0, (key lv sp[j]).f1, (key lv sp[j]).f2⟩ := hgj
    rw [hd, List.foldl_cons] at h
    have key2 : ∀ e : Int, (e = if sp[j].f11 = true then w else 0) → Ev (fun k => estimate_By.j2 k (gid lv) M S l (l.length : Int) i sp (sp.length : Int) (j : Int) t0 w t2 (key lv sp[j]).f0 (key lv sp[j]).f1 (key lv sp[j]).f2 w e (wrap64 (w * wrap64 (sp[j].f10 - sp[j].f9))) 0) R := by
      intro e he
      by_cases c : ((getL S (key lv sp[j])).f0 == 1) = true
      · have hs : stepM lv w (M, S) sp[j] = (putL M (key lv sp[j]) ⟨wrap64 ((getL M (key lv sp[j])).f0 + w), wrap64 ((getL M (key lv sp[j])).f1 + e), wrap64 ((getL M (key lv sp[j])).f2 + wrap64 (w * wrap64 (sp[j].f10 - sp[j].f9))), wrap64 ((getL M (key lv sp[j])).f3 + 0)⟩, S) := by rw [he]; unfold stepM; exact if_pos c
        rw [hs] at h
        refine Ev.step (fun k => ?_) (ih (j + 1) (by omega) (by omega) _ _ h)
        simp only [estimate_By.j2, By_find.f, By_get.f, By_put.f, By_add.f, Mr.findF, Mr.topF, Mr.mergeF, Mr.sumF, if_pos hgj', Option.bind_some, estimate_Total_plus.f]
        rw [if_pos c, w_succ hlt hl]
      · have hs : stepM lv w (M, S) sp[j] = (putL M (key lv sp[j]) ⟨wrap64 ((getL M (key lv sp[j])).f0 + w), wrap64 ((getL M (key lv sp[j])).f1 + e), wrap64 ((getL M (key lv sp[j])).f2 + wrap64 (w * wrap64 (sp[j].f10 - sp[j].f9))), wrap64 ((getL M (key lv sp[j])).f3 + w)⟩, putL S (key lv sp[j]) ⟨1, 0, 0, 0⟩) := by rw [he]; unfold stepM; exact if_neg c
        rw [hs] at h
        refine Ev.step (fun k => ?_) (ih (j + 1) (by omega) (by omega) _ _ h)
        simp only [estimate_By.j2, By_find.f, By_get.f, By_put.f, By_add.f, Mr.findF, Mr.topF, Mr.mergeF, Mr.sumF, if_pos hgj', Option.bind_some, estimate_Total_plus.f]
        rw [if_neg c, w_succ hlt hl]
    by_cases ce : sp[j].f11 = true
    · refine Ev.step (fun k => ?_) (key2 w (by rw [if_pos ce]))
      simp only [estimate_By.l1, hr, key_f lv hlv, span_Duration.f, Option.bind_some]
      rw [if_pos (by omega), if_pos (by omega), if_pos (by omega), if_pos ce]
    · refine Ev.step (fun k => ?_) (key2 0 (by rw [if_neg ce]))
      simp only [estimate_By.l1, hr, key_f lv hlv, span_Duration.f, Option.bind_some]
      rw [if_pos (by omega), if_pos (by omega), if_pos (by omega), if_neg ce]
theorem by_l0 (l : List S53) (hl : l.length ≤ 4611686018427387904) (hs : ∀ t ∈ l, t.f2.length ≤ 4611686018427387904) (hg : ∀ t ∈ l, ∀ s ∈ t.f2, good (key lv s)) : ∀ (n i : Nat), l.length - i = n → i ≤ l.length → ∀ M, ((l.drop i).foldl (traceM lv) M).length ≤ 12 →
    Ev (fun k => estimate_By.l0 k (gid lv) M l (l.length : Int) (i : Int)) (Srt.srt ((l.drop i).foldl (traceM lv) M), 0) := by
  intro n
  induction n with
  | zero =>
    intro i hn hi M h
    rw [List.drop_of_length_le (by omega)] at h ⊢
    refine Ev.step (f := fun _ => some (Srt.srt M, (0 : Int))) (fun k => ?_) (Ev.now _)
    simp only [estimate_By.l0, estimate_lines.f]
    rw [if_neg (by omega), if_pos (show M.length ≤ 12 from h)]
    rfl
  | succ n ih =>
    intro i hn hi M h
    have hlt : i < l.length := by omega
    have hd : l.drop i = l[i] :: l.drop (i + 1) := drop_at l hlt
    have hr : rd_T53 l (i : Int) = l[i] := getD_at l z53 hlt
    rw [hd, List.foldl_cons] at h ⊢
    refine Ev.step (fun k => ?_) (by_l1 lv hlv l _ (i : Int) l[i].f0 l[i].f1 l[i].f2 l[i].f2 (hs _ (List.getElem_mem hlt)) (hg _ (List.getElem_mem hlt)) _ 0 rfl (Nat.zero_le _) M [] ?_)
    · simp only [estimate_By.l0, By_made.f, Option.bind_some, hr]
      rw [if_pos (by omega), if_pos (by omega), if_pos (by omega)]
      rfl
    · rw [List.drop_zero, w_succ hlt hl]
      exact ih (i + 1) (by omega) (by omega) _ h
/-- By, at a level. -/
theorem by_fold (l : List S53) (hl : l.length ≤ 4611686018427387904) (hs : ∀ t ∈ l, t.f2.length ≤ 4611686018427387904) (hg : ∀ t ∈ l, ∀ s ∈ t.f2, good (key lv s)) (h12 : (byM lv l).length ≤ 12) : Ev (fun k => estimate_By.f k l lv) (Srt.srt (byM lv l), 0) := by
  have h := by_l0 lv hlv l hl hs hg _ 0 rfl (Nat.zero_le _) [] (by rw [List.drop_zero]; exact h12)
  rw [List.drop_zero] at h
  refine Ev.congr (fun k => ?_) h
  have e : By_grouping.f lv = some (gid lv, true) := by rcases hlv with rfl | rfl | rfl <;> rfl
  unfold estimate_By.f
  rw [e]
  simp only [Option.bind_some, By_made.f, if_true]
  rfl
end
/-- By, at another level. -/
theorem by_none (l : List S53) (lv : Int) (h : ¬ (lv = 1 ∨ lv = 2 ∨ lv = 3)) (k : Nat) : estimate_By.f k l lv = some ([], 12) := by
  have e : By_grouping.f lv = some (0, false) := by
    unfold By_grouping.f Mr.grpF
    rw [if_neg (fun e => h (.inl e)), if_neg (fun e => h (.inr (.inl e))), if_neg (fun e => h (.inr (.inr e)))]
  unfold estimate_By.f
  rw [e]
  rfl
end Go.Proofs.Ythdifdnjodbdnaa.Pl
