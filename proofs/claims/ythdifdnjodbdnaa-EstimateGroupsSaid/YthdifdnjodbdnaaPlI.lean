/- Plain laws of layer 25: what estimate.By's lines hold. -/
import Derived.Test.YthdifdnjodbdnaaPlH
namespace Go.Proofs.Ythdifdnjodbdnaa.Pl
open Go.RowKit Go.Proofs.YthdifdnjodbdnaaW.PrintWords Go.Proofs.YthdifdnjodbdnaaW.PrintLast Go.Proofs.YthdifdnjodbdnaaW.PrintMore Go.Proofs.Ythdifdnjodbdnaa.Q
open Mr (getL putL good pr)
set_option linter.unusedVariables false
set_option linter.unusedSimpArgs false
set_option linter.unusedSimpArgs false
section
variable (lv : Int)
def sumOf (f : Int × S58 → Int) (k : S39) (l : List (Int × S58)) : Int := (l.map fun x => if key lv x.2 = k then f x else 0).sum
def fA (x : Int × S58) : Int := x.1
def fE (x : Int × S58) : Int := if x.2.f11 = true then x.1 else 0
def fD (x : Int × S58) : Int := x.1 * (x.2.f10 - x.2.f9)
/-- A span with its weight, with small numbers. -/
def Okx (x : Int × S58) : Prop := 0 ≤ x.1 ∧ x.1 ≤ 16 ∧ 0 ≤ x.2.f10 - x.2.f9 ∧ x.2.f10 - x.2.f9 ≤ 3000
theorem fA_b {x : Int × S58} (h : Okx x) : 0 ≤ fA x ∧ fA x ≤ 48000 := ⟨h.1, Int.le_trans h.2.1 (by decide)⟩
theorem fE_b {x : Int × S58} (h : Okx x) : 0 ≤ fE x ∧ fE x ≤ 48000 := by
  have h1 := fA_b h
  unfold fE
  split
  · exact h1
  · exact ⟨by decide, by decide⟩
theorem fD_b {x : Int × S58} (h : Okx x) : 0 ≤ fD x ∧ fD x ≤ 48000 :=
  ⟨Int.mul_nonneg h.1 h.2.2.1, Int.le_trans (Int.mul_le_mul h.2.1 h.2.2.2 h.2.2.1 (by decide)) (by decide)⟩
theorem sum_snoc (f : Int × S58 → Int) (k : S39) (l : List (Int × S58)) (x : Int × S58) : sumOf lv f k (l ++ [x]) = sumOf lv f k l + if key lv x.2 = k then f x else 0 := by
  unfold sumOf
  rw [List.map_append, List.sum_append]
  simp
theorem sum_cons' (f : Int × S58 → Int) (k : S39) (l : List (Int × S58)) (x : Int × S58) : sumOf lv f k (x :: l) = (if key lv x.2 = k then f x else 0) + sumOf lv f k l := by
  unfold sumOf
  rw [List.map_cons, List.sum_cons]
theorem sum_b (f : Int × S58 → Int) (hf : ∀ x, Okx x → 0 ≤ f x ∧ f x ≤ 48000) (k : S39) (l : List (Int × S58)) (h : ∀ x ∈ l, Okx x) : 0 ≤ sumOf lv f k l ∧ sumOf lv f k l ≤ 48000 * l.length := by
  induction l with
  | nil => exact ⟨Int.le_refl _, by show (0 : Int) ≤ 48000 * 0; decide⟩
  | cons x l ih =>
    have h1 := ih (fun y hy => h y (List.mem_cons_of_mem _ hy))
    have h2 := hf x (h x List.mem_cons_self)
    rw [sum_cons', List.length_cons]
    split <;> omega
/-- What the totals are after some spans. -/
structure InvM (M : List S41) (L : List (Int × S58)) (T : S39 → Int) : Prop where
  val : ∀ k, getL M k = ⟨sumOf lv fA k L, sumOf lv fE k L, sumOf lv fD k L, T k⟩
  nd : (keysL M).Nodup
  mem : ∀ k, k ∈ keysL M ↔ ∃ x ∈ L, key lv x.2 = k
def anyK (k : S39) (p : List S58) : Bool := p.any fun s => decide (key lv s = k)
theorem anyK_snoc (k : S39) (p : List S58) (s : S58) : anyK lv k (p ++ [s]) = (anyK lv k p || decide (key lv s = k)) := by
  unfold anyK
  rw [List.any_append]
  simp
theorem inv_put {M : List S41} {L : List (Int × S58)} {T T' : S39 → Int} (h : InvM lv M L T) (w : Int) (s : S58) (hx : ∀ x ∈ L, Okx x) (hs : Okx (w, s)) (hl : L.length ≤ 1000000) (e : Int) (hT : ∀ k, T' k = if k = key lv s then T k + e else T k) (hT2 : wrap64 (T (key lv s) + e) = T (key lv s) + e) :
    InvM lv (putL M (key lv s) ⟨wrap64 ((getL M (key lv s)).f0 + w), wrap64 ((getL M (key lv s)).f1 + if s.f11 = true then w else 0), wrap64 ((getL M (key lv s)).f2 + wrap64 (w * wrap64 (s.f10 - s.f9))), wrap64 ((getL M (key lv s)).f3 + e)⟩) (L ++ [(w, s)]) T' := by
  have bA := sum_b lv fA (fun x => fA_b) (key lv s) L hx
  have bE := sum_b lv fE (fun x => fE_b) (key lv s) L hx
  have bD := sum_b lv fD (fun x => fD_b) (key lv s) L hx
  have cA := fA_b hs
  have cE := fE_b hs
  have cD := fD_b hs
  have hw1 : wrap64 (s.f10 - s.f9) = s.f10 - s.f9 := w64 (by have := hs.2.2.1; simp only at this; omega) (by have := hs.2.2.2; simp only at this; omega)
  have eA : fA (w, s) = w := rfl
  have eE : fE (w, s) = if s.f11 = true then w else 0 := rfl
  have eD : fD (w, s) = w * (s.f10 - s.f9) := rfl
  refine ⟨fun k => ?_, ?_, fun k => ?_⟩
  · rw [getL_put]
    by_cases c : k = key lv s
    · rw [if_pos c, c, h.val, sum_snoc, sum_snoc, sum_snoc, if_pos rfl, if_pos rfl, if_pos rfl, hT, if_pos rfl, hw1, ← eE, ← eD]
      simp only
      rw [hT2, w64 (x := fD (w, s)) (by omega) (by omega), w64 (by omega) (by omega), w64 (by omega) (by omega), w64 (by omega) (by omega)]
      rfl
    · rw [if_neg c, h.val, sum_snoc, sum_snoc, sum_snoc, if_neg (fun e => c e.symm), if_neg (fun e => c e.symm), if_neg (fun e => c e.symm), hT, if_neg c, Int.add_zero, Int.add_zero, Int.add_zero]
  · rw [keysL_put]
    split
    · exact h.nd
    · rename_i hn
      rw [List.nodup_append]
      refine ⟨h.nd, by simp, fun a ha b hb => ?_⟩
      rw [List.mem_singleton.1 hb]
      rintro rfl
      exact hn ha
  · rw [keysL_put]
    have : (∃ x ∈ L ++ [(w, s)], key lv x.2 = k) ↔ (∃ x ∈ L, key lv x.2 = k) ∨ key lv s = k := by
      constructor
      · rintro ⟨x, hm, rfl⟩
        rcases List.mem_append.1 hm with hm | hm
        · exact .inl ⟨x, hm, rfl⟩
        · rw [List.mem_singleton.1 hm]; exact .inr rfl
      · rintro (⟨x, hm, rfl⟩ | rfl)
        · exact ⟨x, List.mem_append.2 (.inl hm), rfl⟩
        · exact ⟨(w, s), List.mem_append.2 (.inr (List.mem_singleton.2 rfl)), rfl⟩
    rw [this, ← h.mem]
    split
    · rename_i hn
      constructor
      · exact .inl
      · rintro (h1 | rfl)
        · exact h1
        · exact hn
    · rw [List.mem_append, List.mem_singleton]
      constructor
      · rintro (h1 | rfl)
        · exact .inl h1
        · exact .inr rfl
      · rintro (h1 | h1)
        · exact .inl h1
        · exact .inr h1.symm
theorem fold_inv (w : Int) (hw : 0 ≤ w ∧ w ≤ 16) (T0 : S39 → Int) (hT0 : ∀ k, 0 ≤ T0 k ∧ T0 k ≤ 1000000) : ∀ (sp p : List S58) (M S : List S41) (L : List (Int × S58)), InvM lv M L (fun k => T0 k + if anyK lv k p = true then w else 0) → (∀ k, ((getL S k).f0 == 1) = anyK lv k p) → (∀ x ∈ L, Okx x) → (∀ s ∈ sp, Okx (w, s)) → L.length + sp.length ≤ 1000000 →
    InvM lv (sp.foldl (stepM lv w) (M, S)).1 (L ++ sp.map fun s => (w, s)) (fun k => T0 k + if anyK lv k (p ++ sp) = true then w else 0) := by
  intro sp
  induction sp with
  | nil =>
    intro p M S L h hS hx hs hl
    rw [List.map_nil, List.append_nil, List.append_nil]
    exact h
  | cons s sp ih =>
    intro p M S L h hS hx hs hl
    rw [List.length_cons] at hl
    have hsx := hs s List.mem_cons_self
    have hT1 := hT0 (key lv s)
    have e1 : L ++ (s :: sp).map (fun s => (w, s)) = (L ++ [(w, s)]) ++ sp.map fun s => (w, s) := by rw [List.map_cons, List.append_assoc]; rfl
    have e2 : p ++ s :: sp = (p ++ [s]) ++ sp := by rw [List.append_assoc]; rfl
    rw [List.foldl_cons, e1, e2]
    by_cases c : anyK lv (key lv s) p = true
    · have hst : stepM lv w (M, S) s = (putL M (key lv s) ⟨wrap64 ((getL M (key lv s)).f0 + w), wrap64 ((getL M (key lv s)).f1 + if s.f11 = true then w else 0), wrap64 ((getL M (key lv s)).f2 + wrap64 (w * wrap64 (s.f10 - s.f9))), wrap64 ((getL M (key lv s)).f3 + 0)⟩, S) := by unfold stepM; exact if_pos (by rw [hS]; exact c)
      rw [hst]
      refine ih (p ++ [s]) _ S (L ++ [(w, s)]) (inv_put lv h w s hx hsx (by omega) 0 (fun k => ?_) ?_) (fun k => ?_) (fun x hm => ?_) (fun x hm => hs x (List.mem_cons_of_mem _ hm)) (by rw [List.length_append]; show L.length + 1 + sp.length ≤ _; omega)
      · rw [anyK_snoc]
        by_cases ck : k = key lv s
        · rw [if_pos ck, ck, c]; simp
        · rw [if_neg ck]; simp [Ne.symm ck]
      · rw [if_pos c]; exact w64 (by omega) (by omega)
      · rw [hS, anyK_snoc]
        by_cases ck : key lv s = k
        · rw [← ck, c]; simp
        · simp [ck]
      · rcases List.mem_append.1 hm with hm | hm
        · exact hx x hm
        · rw [List.mem_singleton.1 hm]; exact hsx
    · have hst : stepM lv w (M, S) s = (putL M (key lv s) ⟨wrap64 ((getL M (key lv s)).f0 + w), wrap64 ((getL M (key lv s)).f1 + if s.f11 = true then w else 0), wrap64 ((getL M (key lv s)).f2 + wrap64 (w * wrap64 (s.f10 - s.f9))), wrap64 ((getL M (key lv s)).f3 + w)⟩, putL S (key lv s) ⟨1, 0, 0, 0⟩) := by unfold stepM; exact if_neg (by rw [hS]; exact c)
      rw [hst]
      refine ih (p ++ [s]) _ _ (L ++ [(w, s)]) (inv_put lv h w s hx hsx (by omega) w (fun k => ?_) ?_) (fun k => ?_) (fun x hm => ?_) (fun x hm => hs x (List.mem_cons_of_mem _ hm)) (by rw [List.length_append]; show L.length + 1 + sp.length ≤ _; omega)
      · rw [anyK_snoc]
        by_cases ck : k = key lv s
        · rw [if_pos ck, ck, if_neg c]; simp
        · rw [if_neg ck]; simp [Ne.symm ck]
      · rw [if_neg c]; exact w64 (by omega) (by omega)
      · rw [getL_put, anyK_snoc]
        by_cases ck : k = key lv s
        · rw [if_pos ck, ck]; simp
        · rw [if_neg ck, hS]; simp [Ne.symm ck]
      · rcases List.mem_append.1 hm with hm | hm
        · exact hx x hm
        · rw [List.mem_singleton.1 hm]; exact hsx
/-- The spans of some traces, with their weights. -/
def wS (ts : List S53) : List (Int × S58) := ts.flatMap fun t => t.f2.map fun s => (t.f1, s)
def trS (k : S39) (ts : List S53) : Int := (ts.map fun t => if anyK lv k t.f2 = true then t.f1 else 0).sum
/-- The total of a group. -/
def tot (ts : List S53) (k : S39) : S37 := ⟨sumOf lv fA k (wS ts), sumOf lv fE k (wS ts), sumOf lv fD k (wS ts), trS lv k ts⟩
theorem wS_snoc (ts : List S53) (t : S53) : wS (ts ++ [t]) = wS ts ++ t.f2.map fun s => (t.f1, s) := by
  unfold wS
  rw [List.flatMap_append]
  simp
theorem trS_snoc (k : S39) (ts : List S53) (t : S53) : trS lv k (ts ++ [t]) = trS lv k ts + if anyK lv k t.f2 = true then t.f1 else 0 := by
  unfold trS
  rw [List.map_append, List.sum_append]
  simp
/-- Traces with small numbers. -/
structure Good (ts : List S53) : Prop where
  w : ∀ t ∈ ts, 0 ≤ t.f1 ∧ t.f1 ≤ 16
  len : ∀ t ∈ ts, t.f2.length ≤ 8
  dur : ∀ t ∈ ts, ∀ s ∈ t.f2, 0 ≤ s.f10 - s.f9 ∧ s.f10 - s.f9 ≤ 3000
  n : ts.length ≤ 1000
theorem Good.ok {ts : List S53} (h : Good ts) : ∀ x ∈ wS ts, Okx x := by
  intro x hm
  obtain ⟨t, ht, hx⟩ := List.mem_flatMap.1 hm
  obtain ⟨s, hs, rfl⟩ := List.mem_map.1 hx
  exact ⟨(h.w t ht).1, (h.w t ht).2, (h.dur t ht s hs).1, (h.dur t ht s hs).2⟩
theorem wS_len (ts : List S53) (h : ∀ t ∈ ts, t.f2.length ≤ 8) : (wS ts).length ≤ 8 * ts.length := by
  induction ts with
  | nil => exact Nat.le_refl _
  | cons t ts ih =>
    have h1 := ih (fun x hx => h x (List.mem_cons_of_mem _ hx))
    have h2 := h t List.mem_cons_self
    have e : wS (t :: ts) = (t.f2.map fun s => (t.f1, s)) ++ wS ts := by unfold wS; rw [List.flatMap_cons]
    rw [e, List.length_append, List.length_map, List.length_cons]
    omega
theorem trS_b (k : S39) (ts : List S53) (h : ∀ t ∈ ts, 0 ≤ t.f1 ∧ t.f1 ≤ 16) : 0 ≤ trS lv k ts ∧ trS lv k ts ≤ 16 * ts.length := by
  induction ts with
  | nil => exact ⟨Int.le_refl _, by show (0 : Int) ≤ 16 * 0; decide⟩
  | cons t ts ih =>
    have h1 := ih (fun x hx => h x (List.mem_cons_of_mem _ hx))
    have h2 := h t List.mem_cons_self
    have e : trS lv k (t :: ts) = (if anyK lv k t.f2 = true then t.f1 else 0) + trS lv k ts := by unfold trS; rw [List.map_cons, List.sum_cons]
    rw [e, List.length_cons]
    split <;> omega
theorem byM_inv : ∀ (ts' ts : List S53) (M : List S41), Good (ts ++ ts') → InvM lv M (wS ts) (fun k => trS lv k ts) → InvM lv (ts'.foldl (traceM lv) M) (wS (ts ++ ts')) (fun k => trS lv k (ts ++ ts')) := by
  intro ts'
  induction ts' with
  | nil =>
    intro ts M hG h
    rw [List.append_nil]
    exact h
  | cons t ts' ih =>
    intro ts M hG h
    have e2 : ts ++ t :: ts' = (ts ++ [t]) ++ ts' := by rw [List.append_assoc]; rfl
    have ht : t ∈ ts ++ t :: ts' := List.mem_append.2 (.inr List.mem_cons_self)
    have hsub : ∀ x ∈ ts, x ∈ ts ++ t :: ts' := fun x hx => List.mem_append.2 (.inl hx)
    have hl := wS_len ts (fun x hx => hG.len x (hsub x hx))
    have hn := hG.n
    rw [List.length_append] at hn
    have h8 := hG.len t ht
    rw [List.foldl_cons, e2]
    rw [e2] at hG
    refine ih (ts ++ [t]) _ hG ?_
    rw [wS_snoc]
    have hG' : Good ts := ⟨fun x hx => hG.w x (e2 ▸ hsub x hx), fun x hx => hG.len x (e2 ▸ hsub x hx), fun x hx => hG.dur x (e2 ▸ hsub x hx), by omega⟩
    have := fold_inv lv t.f1 (hG.w t (e2 ▸ ht)) (fun k => trS lv k ts) (fun k => by have := trS_b lv k ts hG'.w; omega) t.f2 [] M [] (wS ts) (by simpa [anyK] using h) (fun k => by simp [anyK, getL, Mp.get]; decide) hG'.ok (fun s hs => ⟨(hG.w t (e2 ▸ ht)).1, (hG.w t (e2 ▸ ht)).2, (hG.dur t (e2 ▸ ht) s hs).1, (hG.dur t (e2 ▸ ht) s hs).2⟩) (by omega)
    rw [List.nil_append] at this
    unfold traceM
    refine ⟨fun k => ?_, this.nd, this.mem⟩
    rw [this.val]
    congr 1
    exact (trS_snoc lv k ts t).symm
theorem byM_all (ts : List S53) (hG : Good ts) : InvM lv (byM lv ts) (wS ts) (fun k => trS lv k ts) :=
  byM_inv lv ts [] [] hG ⟨fun k => rfl, List.nodup_nil, fun k => by simp [keysL, wS]⟩
end
end Go.Proofs.Ythdifdnjodbdnaa.Pl
