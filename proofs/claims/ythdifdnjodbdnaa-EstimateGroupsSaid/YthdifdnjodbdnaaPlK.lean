/- Plain laws of layer 25: the weighted traces of a story. -/
import Derived.Test.YthdifdnjodbdnaaPlJ
import Derived.Test.YthdifdnjodbdnaaPs
import Derived.Test.YthdifdnjodbdnaaPl
import Derived.Test.YthdifdnjodbdnaaWt
namespace Go.Proofs.Ythdifdnjodbdnaa.Pl
open Go.RowKit Go.Proofs.YthdifdnjodbdnaaW.PrintWords Go.Proofs.YthdifdnjodbdnaaW.PrintLast Go.Proofs.YthdifdnjodbdnaaW.PrintMore Go.Proofs.Ythdifdnjodbdnaa.Q Go.Proofs.Ythdifdnjodbdnaa.RowS
open Srt (Asc cL cG)
set_option linter.unusedVariables false
set_option linter.unusedSimpArgs false
set_option linter.unusedSimpArgs false
/-- The traces of a story with weights. -/
theorem setW_at (l : List S53) (i : Nat) (x : Int) (j : Nat) (hj : j < (setW l (i : Int) x).length) : (setW l (i : Int) x)[j] = if i = j then ⟨(rd_T53 l (i : Int)).f0, x, (rd_T53 l (i : Int)).f2⟩ else l[j]'(by rw [setW_len] at hj; exact hj) := by
  unfold setW
  simp only [Int.toNat_natCast]
  rw [List.getElem_set]
theorem wtAt_b (a b c i : Int) (h : U8 a ∧ U8 b ∧ U8 c) : 1 ≤ wtAt a b c i ∧ wtAt a b c i ≤ 16 := by
  obtain ⟨⟨a1, a2⟩, ⟨b1, b2⟩, c1, c2⟩ := h
  have key : ∀ x : Int, 0 ≤ x → 1 ≤ wrap64 (1 + wrap64 (Int.tmod x 16)) ∧ wrap64 (1 + wrap64 (Int.tmod x 16)) ≤ 16 := by
    intro x hx
    rw [Int.tmod_eq_emod_of_nonneg hx, w64d (x := x % 16) (by omega) (by omega), w64d (by omega) (by omega)]
    omega
  unfold wtAt
  split
  · exact key _ a1
  · split
    · exact key _ b1
    · exact key _ c1
/-- What weighted leaves: the traces, with weights. -/
theorem wtGo_some (a b c : Int) (ts : List S53) (h3 : ts.length ≤ 90) : ∀ (d i : Nat), ts.length - i = d → i ≤ ts.length → ∀ l : List S53, l.length = ts.length → (∀ (j : Nat) (hj : j < l.length) (hj' : j < ts.length), l[j] = if j < i then ⟨ts[j].f0, wtAt a b c (j : Int), ts[j].f2⟩ else ts[j]) →
    ∃ r, r.length = ts.length ∧ (∀ (j : Nat) (hj : j < r.length) (hj' : j < ts.length), r[j] = ⟨ts[j].f0, wtAt a b c (j : Int), ts[j].f2⟩) ∧ ∀ K, wtGo a b c (K + d + 1) (i : Int) l = some r := by
  intro d
  induction d with
  | zero =>
    intro i hd hi l hl h
    refine ⟨l, hl, fun j hj hj' => by rw [h j hj hj', if_pos (by omega)], fun K => ?_⟩
    simp only [Nat.add_zero, wtGo]
    rw [if_neg (by omega)]
  | succ d ih =>
    intro i hd hi l hl h
    have hlt : i < ts.length := by omega
    have hr : rd_T53 l (i : Int) = ts[i] := by
      rw [show rd_T53 l (i : Int) = l[i]'(by omega) from getD_at l z53 (by omega), h i (by omega) hlt, if_neg (by omega)]
    obtain ⟨r, h1, h2, h3'⟩ := ih (i + 1) (by omega) (by omega) (setW l (i : Int) (wtAt a b c (i : Int))) (by rw [setW_len, hl]) (fun j hj hj' => by
      rw [setW_at, hr]
      by_cases e : i = j
      · subst e; rw [if_pos rfl, if_pos (by omega)]
      · rw [if_neg e, h j (by omega) hj']
        by_cases e2 : j < i
        · rw [if_pos e2, if_pos (by omega)]
        · rw [if_neg e2, if_neg (by omega)])
    refine ⟨r, h1, h2, fun K => ?_⟩
    have hm : Int.tmod (i : Int) 3 = 0 ∨ Int.tmod (i : Int) 3 = 1 ∨ Int.tmod (i : Int) 3 = 2 := by rw [Int.tmod_eq_emod_of_nonneg (by omega)]; omega
    rw [show K + (d + 1) + 1 = (K + d + 1) + 1 by omega, wtGo, if_pos (by omega), if_pos ⟨by omega, hm⟩, wsucc hlt (by omega)]
    exact h3' K
/-- A story's traces with weights: their numbers are small, their names are a story's. -/
structure Wtd (l : List S53) : Prop where
  good : Good l
  names : ∀ t ∈ l, ∀ s ∈ t.f2, Named s
  pos : ∀ t ∈ l, 1 ≤ t.f1
theorem TrOk.spans' {l0 : List S104} {t : S53} (h : TrOk l0 t) : ∀ s ∈ t.f2, Named s ∧ 0 ≤ s.f10 - s.f9 ∧ s.f10 - s.f9 ≤ 3000 := by
  intro s hs
  obtain ⟨i, hi, rfl⟩ := List.getElem_of_mem hs
  have hp := h.spans i hi
  have a := hp.start
  have b := hp.end_
  exact ⟨⟨hp.svc, hp.ver, hp.op⟩, by omega, by omega⟩
theorem wtd_of (l0 : List S104) (ts r : List S53) (a b c : Int) (habc : U8 a ∧ U8 b ∧ U8 c) (hn : ts.length ≤ 3) (h : ∀ t ∈ ts, TrOk l0 t) (hl : r.length = ts.length) (hr : ∀ (j : Nat) (hj : j < r.length) (hj' : j < ts.length), r[j] = ⟨ts[j].f0, wtAt a b c (j : Int), ts[j].f2⟩) : Wtd r := by
  have key : ∀ t ∈ r, (1 ≤ t.f1 ∧ t.f1 ≤ 16) ∧ ∃ t' ∈ ts, t.f2 = t'.f2 := by
    intro t ht
    obtain ⟨j, hj, rfl⟩ := List.getElem_of_mem ht
    rw [hr j hj (by omega)]
    exact ⟨wtAt_b a b c _ habc, _, List.getElem_mem (by omega), rfl⟩
  refine ⟨⟨fun t ht => ⟨by have := (key t ht).1.1; omega, (key t ht).1.2⟩, fun t ht => ?_, fun t ht s hs => ?_, by omega⟩, fun t ht s hs => ?_, fun t ht => (key t ht).1.1⟩
  · obtain ⟨t', ht', e⟩ := (key t ht).2
    rw [e]; exact (h t' ht').few
  · obtain ⟨t', ht', e⟩ := (key t ht).2
    rw [e] at hs; exact ((h t' ht').spans' s hs).2
  · obtain ⟨t', ht', e⟩ := (key t ht).2
    rw [e] at hs; exact ((h t' ht').spans' s hs).1
/-- Rounds that are enough for whatever ends. -/
theorem Ev.at {α : Type} {g : Nat → Option α} {r : α} (hg : ∀ k, LeO (g k) (g (k + 1))) (K : Nat) (h : g K ≠ none) (he : Ev g r) : g K = some r := by
  obtain ⟨K2, h2⟩ := he
  cases e : g K with
  | none => exact absurd e h
  | some x =>
    have := at_rounds hg (Nat.le_max_left K K2) e
    rw [h2 _ (Nat.le_max_right K K2)] at this
    rw [← this]
/-- weighted answers. -/
theorem weighted_ev (l0 : List S104) (o1 o2 o3 o4 : Int) (l5 : List S193) (wr a b c : Int) (ht : ∀ t ∈ l0, TreeOk t) (ho : I8 o1 ∧ I8 o2 ∧ I8 o3 ∧ I8 o4) (hn : l0.length ≤ 9223372036854775807) (habc : U8 a ∧ U8 b ∧ U8 c) :
    ∃ ts, ts.length ≤ 3 ∧ Wtd ts ∧ Ev (fun k => sleuthlaw25_weighted.f k l0 o1 o2 o3 o4 l5 wr a b c) ts := by
  obtain ⟨s, hs, hst⟩ := short_ev l0 o1 o2 o3 o4 l5 wr hn
  cases s with
  | false =>
    refine ⟨[], Nat.zero_le _, ⟨⟨(fun _ h => absurd h List.not_mem_nil), (fun _ h => absurd h List.not_mem_nil), (fun _ h => absurd h List.not_mem_nil), Nat.zero_le _⟩, (fun _ h => absurd h List.not_mem_nil), (fun _ h => absurd h List.not_mem_nil)⟩, ?_⟩
    unfold sleuthlaw25_weighted.f
    exact Ev.bind hs (Ev.congr (fun k => if_neg (by decide)) (Ev.now _))
  | true =>
    obtain ⟨h3, h8⟩ := hst rfl
    obtain ⟨ts, q1, q2, q3⟩ := traces_ev l0 o1 o2 o3 o4 l5 wr ht h8 ho h3
    obtain ⟨r, r1, r2, r3⟩ := wtGo_some a b c ts (by omega) ts.length 0 rfl (Nat.zero_le _) ts rfl (fun j hj hj' => by rw [if_neg (by omega)])
    refine ⟨r, by omega, wtd_of l0 ts r a b c habc (by omega) q2 r1 r2, ?_⟩
    unfold sleuthlaw25_weighted.f
    exact Ev.bind hs (Ev.congr (fun k => if_pos rfl) (Ev.bind (f := fun k l => wtGo a b c k 0 l) q3 (Ev.of (fun k => wtGo_mono a b c k 0 ts) (r3 0))))
end Go.Proofs.Ythdifdnjodbdnaa.Pl
