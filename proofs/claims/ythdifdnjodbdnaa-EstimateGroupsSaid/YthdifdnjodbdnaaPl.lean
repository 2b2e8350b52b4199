/- Plain laws of layer 25: Count, the known examples. -/
import Derived.Test.YthdifdnjodbdnaaQgKnown
namespace Go.Proofs.Ythdifdnjodbdnaa.Pl
open Go.RowKit Go.Proofs.YthdifdnjodbdnaaW.PrintWords Go.Proofs.YthdifdnjodbdnaaW.PrintLast Go.Proofs.YthdifdnjodbdnaaW.PrintMore Go.Proofs.Ythdifdnjodbdnaa.Q
set_option linter.unusedVariables false
set_option linter.unusedSimpArgs false
set_option linter.unusedSimpArgs false
theorem w64 {x : Int} (h1 : -9223372036854775808 ≤ x) (h2 : x ≤ 9223372036854775807) : wrap64 x = x := by unfold wrap64; omega
theorem w_succ {i n : Nat} (h : i < n) (hn : n ≤ 4611686018427387904) : wrap64 ((i : Int) + 1) = ((i + 1 : Nat) : Int) := by rw [w64 (by omega) (by omega)]; omega
theorem getD_at {α : Type} (l : List α) (d : α) {i : Nat} (h : i < l.length) : l.getD ((i : Int)).toNat d = l[i] := by
  rw [Int.toNat_natCast, List.getD_eq_getElem?_getD, List.getElem?_eq_getElem h]
  rfl
theorem drop_at {α : Type} (l : List α) {i : Nat} (h : i < l.length) : l.drop i = l[i] :: l.drop (i + 1) := List.drop_eq_getElem_cons h
/-! Count. -/
/-- Whether a span counts. -/
def hit (p : Int) (svc : ByteArray) (t : Int) (s : S58) : Bool := decide (t / 1048576 / 16 = p) && decide (s.f6.toList = svc.toList)
def hits (p : Int) (svc : ByteArray) (t : Int) (l : List S58) : Nat := (l.filter (hit p svc t)).length
def hitsT (p : Int) (svc : ByteArray) (l : List S53) : Nat := (l.map fun t => hits p svc t.f0 t.f2).sum
def remS (p : Int) (svc : ByteArray) (l : List S60) : Int := (l.map fun x => if x.f0 = p ∧ x.f1.toList = svc.toList then x.f2 else 0).sum
def lateS (p : Int) (l : List S62) : Int := (l.map fun x => if x.f0 = p then x.f1 else 0).sum
theorem hits_le (p : Int) (svc : ByteArray) (t : Int) (l : List S58) : hits p svc t l ≤ l.length := List.length_filter_le _ _
theorem part_f (t : Int) : span_Partition.f t = some (t / 1048576 / 16) := rfl
section
variable (p : Int) (svc : ByteArray)
theorem cnt1 (l : List S53) (b : List S195) (c : List S60) (d : List S62) (x9 : Int) (R : Int × Int) (j : Nat) (t0 t1 : Int) (t2 sp : List S58) (hl : sp.length ≤ 4611686018427387904) :
    ∀ (n i : Nat), sp.length - i = n → i ≤ sp.length → ∀ x8 : Int, 0 ≤ x8 → x8 + (sp.length - i : Nat) ≤ 9223372036854775807 →
    Ev (fun k => estimate_Count.l0 k p svc (x8 + (hits p svc t0 (sp.drop i) : Int)) x9 l (l.length : Int) (wrap64 ((j : Int) + 1)) l b c d) R →
    Ev (fun k => estimate_Count.l1 k p svc x8 x9 l (l.length : Int) (j : Int) sp (sp.length : Int) (i : Int) l b c d t0 t1 t2) R := by
  intro n
  induction n with
  | zero =>
    intro i hn hi x8 h0 h1 h
    refine Ev.step (fun k => ?_) h
    simp only [estimate_Count.l1]
    rw [if_neg (by omega), List.drop_of_length_le (by omega)]
    simp [hits]
  | succ n ih =>
    intro i hn hi x8 h0 h1 h
    have hlt : i < sp.length := by omega
    have hd : sp.drop i = sp[i] :: sp.drop (i + 1) := drop_at sp hlt
    have hg : rd_T58 sp (i : Int) = sp[i] := getD_at sp z58 hlt
    by_cases c1 : t0 / 1048576 / 16 = p
    · by_cases c2 : sp[i].f6.toList = svc.toList
      · have hh : hits p svc t0 (sp.drop i) = hits p svc t0 (sp.drop (i + 1)) + 1 := by rw [hd]; unfold hits; rw [List.filter_cons_of_pos (by simp [hit, c1, c2])]; rfl
        refine Ev.step (fun k => ?_) (ih (i + 1) (by omega) (by omega) (x8 + 1) (by omega) (by omega) (by rw [hh] at h; rw [show x8 + 1 + (hits p svc t0 (sp.drop (i + 1)) : Int) = x8 + ((hits p svc t0 (sp.drop (i + 1)) + 1 : Nat) : Int) by omega]; exact h))
        simp only [estimate_Count.l1, part_f, Option.bind_some, hg]
        rw [if_pos (by omega), if_pos (by omega), if_pos (by omega), if_pos c1, if_pos c2, w_succ hlt hl, w64 (x := x8 + 1) (by omega) (by omega)]
      · have hh : hits p svc t0 (sp.drop i) = hits p svc t0 (sp.drop (i + 1)) := by rw [hd]; unfold hits; rw [List.filter_cons_of_neg (by simp [hit, c1, c2])]
        refine Ev.step (fun k => ?_) (ih (i + 1) (by omega) (by omega) x8 (by omega) (by omega) (by rw [hh] at h; exact h))
        simp only [estimate_Count.l1, part_f, Option.bind_some, hg]
        rw [if_pos (by omega), if_pos (by omega), if_pos (by omega), if_pos c1, if_neg c2, w_succ hlt hl]
    · have hh : hits p svc t0 (sp.drop i) = hits p svc t0 (sp.drop (i + 1)) := by rw [hd]; unfold hits; rw [List.filter_cons_of_neg (by simp [hit, c1])]
      refine Ev.step (fun k => ?_) (ih (i + 1) (by omega) (by omega) x8 (by omega) (by omega) (by rw [hh] at h; exact h))
      simp only [estimate_Count.l1, part_f, Option.bind_some, hg]
      rw [if_pos (by omega), if_pos (by omega), if_pos (by omega), if_neg c1, w_succ hlt hl]
theorem cnt3 (d : List S62) (hl : d.length ≤ 4611686018427387904) (hp : ∀ x ∈ d, 0 ≤ x.f1) (x8 : Int) :
    ∀ (n i : Nat), d.length - i = n → i ≤ d.length → ∀ x9 : Int, 0 ≤ x9 → x9 + lateS p (d.drop i) ≤ 9223372036854775807 →
    Ev (fun k => estimate_Count.l3 k p x8 x9 d (d.length : Int) (i : Int)) (mx 0 (wrap64 (x8 - (x9 + lateS p (d.drop i)))), wrap64 (x8 + (x9 + lateS p (d.drop i)))) := by
  intro n
  induction n with
  | zero =>
    intro i hn hi x9 h0 h1
    refine Ev.step (f := fun _ => some _) (fun k => ?_) (Ev.now _)
    simp only [estimate_Count.l3]
    rw [if_neg (by omega), List.drop_of_length_le (by omega)]
    simp [lateS]
  | succ n ih =>
    intro i hn hi x9 h0 h1
    have hlt : i < d.length := by omega
    have hd : d.drop i = d[i] :: d.drop (i + 1) := drop_at d hlt
    have hg : rd_T62 d (i : Int) = d[i] := getD_at d z62 hlt
    have hn0 : 0 ≤ lateS p (d.drop (i + 1)) := by
      unfold lateS
      have : ∀ l : List S62, (∀ x ∈ l, 0 ≤ x.f1) → 0 ≤ (l.map fun x => if x.f0 = p then x.f1 else 0).sum := by
        intro l
        induction l with
        | nil => simp
        | cons y l ih2 =>
          intro hy
          have h1 := ih2 (fun x hx => hy x (List.mem_cons_of_mem _ hx))
          have h2 := hy y List.mem_cons_self
          rw [List.map_cons, List.sum_cons]
          split <;> omega
      exact this _ (fun x hx => hp x (List.mem_of_mem_drop hx))
    have hpi := hp d[i] (List.getElem_mem hlt)
    by_cases c1 : d[i].f0 = p
    · have hh : lateS p (d.drop i) = d[i].f1 + lateS p (d.drop (i + 1)) := by rw [hd]; unfold lateS; rw [List.map_cons, List.sum_cons, if_pos c1]
      rw [hh] at h1 ⊢
      have hw : wrap64 (x9 + d[i].f1) = x9 + d[i].f1 := w64 (by omega) (by omega)
      have := ih (i + 1) (by omega) (by omega) (x9 + d[i].f1) (by omega) (by omega)
      rw [Int.add_assoc] at this
      refine Ev.step (fun k => ?_) this
      simp only [estimate_Count.l3, hg]
      rw [if_pos (by omega), if_pos (by omega), if_pos (by omega), if_pos c1, w_succ hlt hl, hw]
    · have hh : lateS p (d.drop i) = lateS p (d.drop (i + 1)) := by rw [hd]; unfold lateS; rw [List.map_cons, List.sum_cons, if_neg c1, Int.zero_add]
      rw [hh] at h1 ⊢
      refine Ev.step (fun k => ?_) (ih (i + 1) (by omega) (by omega) x9 (by omega) (by omega))
      simp only [estimate_Count.l3, hg]
      rw [if_pos (by omega), if_pos (by omega), if_pos (by omega), if_neg c1, w_succ hlt hl]
theorem cnt2 (l : List S53) (b : List S195) (c : List S60) (d : List S62) (hl : c.length ≤ 4611686018427387904) (hp : ∀ x ∈ c, 0 ≤ x.f2) (x9 : Int) (R : Int × Int) :
    ∀ (n i : Nat), c.length - i = n → i ≤ c.length → ∀ x8 : Int, 0 ≤ x8 → x8 + remS p svc (c.drop i) ≤ 9223372036854775807 →
    Ev (fun k => estimate_Count.l3 k p (x8 + remS p svc (c.drop i)) x9 d (d.length : Int) 0) R →
    Ev (fun k => estimate_Count.l2 k p svc x8 x9 c (c.length : Int) (i : Int) l b c d) R := by
  intro n
  induction n with
  | zero =>
    intro i hn hi x8 h0 h1 h
    refine Ev.step (fun k => ?_) h
    simp only [estimate_Count.l2]
    rw [if_neg (by omega), List.drop_of_length_le (by omega)]
    simp [remS]
  | succ n ih =>
    intro i hn hi x8 h0 h1 h
    have hlt : i < c.length := by omega
    have hd : c.drop i = c[i] :: c.drop (i + 1) := drop_at c hlt
    have hg : rd_T60 c (i : Int) = c[i] := getD_at c z60 hlt
    have hn0 : 0 ≤ remS p svc (c.drop (i + 1)) := by
      unfold remS
      have : ∀ l : List S60, (∀ x ∈ l, 0 ≤ x.f2) → 0 ≤ (l.map fun x => if x.f0 = p ∧ x.f1.toList = svc.toList then x.f2 else 0).sum := by
        intro l
        induction l with
        | nil => simp
        | cons y l ih2 =>
          intro hy
          have h1 := ih2 (fun x hx => hy x (List.mem_cons_of_mem _ hx))
          have h2 := hy y List.mem_cons_self
          rw [List.map_cons, List.sum_cons]
          split <;> omega
      exact this _ (fun x hx => hp x (List.mem_of_mem_drop hx))
    have hpi := hp c[i] (List.getElem_mem hlt)
    by_cases c1 : c[i].f0 = p
    · by_cases c2 : c[i].f1.toList = svc.toList
      · have hh : remS p svc (c.drop i) = c[i].f2 + remS p svc (c.drop (i + 1)) := by rw [hd]; unfold remS; rw [List.map_cons, List.sum_cons, if_pos ⟨c1, c2⟩]
        rw [hh] at h1 h
        have hw : wrap64 (x8 + c[i].f2) = x8 + c[i].f2 := w64 (by omega) (by omega)
        refine Ev.step (fun k => ?_) (ih (i + 1) (by omega) (by omega) (x8 + c[i].f2) (by omega) (by omega) (by rw [Int.add_assoc]; exact h))
        simp only [estimate_Count.l2, hg]
        rw [if_pos (by omega), if_pos (by omega), if_pos (by omega), if_pos c1, if_pos c2, w_succ hlt hl, hw]
      · have hh : remS p svc (c.drop i) = remS p svc (c.drop (i + 1)) := by rw [hd]; unfold remS; rw [List.map_cons, List.sum_cons, if_neg (fun e => c2 e.2), Int.zero_add]
        rw [hh] at h1 h
        refine Ev.step (fun k => ?_) (ih (i + 1) (by omega) (by omega) x8 (by omega) (by omega) h)
        simp only [estimate_Count.l2, hg]
        rw [if_pos (by omega), if_pos (by omega), if_pos (by omega), if_pos c1, if_neg c2, w_succ hlt hl]
    · have hh : remS p svc (c.drop i) = remS p svc (c.drop (i + 1)) := by rw [hd]; unfold remS; rw [List.map_cons, List.sum_cons, if_neg (fun e => c1 e.1), Int.zero_add]
      rw [hh] at h1 h
      refine Ev.step (fun k => ?_) (ih (i + 1) (by omega) (by omega) x8 (by omega) (by omega) h)
      simp only [estimate_Count.l2, hg]
      rw [if_pos (by omega), if_pos (by omega), if_pos (by omega), if_neg c1, w_succ hlt hl]
theorem cnt0 (l : List S53) (b : List S195) (c : List S60) (d : List S62) (hl : l.length ≤ 4611686018427387904) (hs : ∀ t ∈ l, t.f2.length ≤ 4611686018427387904) (x9 : Int) (R : Int × Int) :
    ∀ (n i : Nat), l.length - i = n → i ≤ l.length → ∀ x8 : Int, 0 ≤ x8 → x8 + ((l.drop i).map fun t => t.f2.length).sum ≤ 9223372036854775807 →
    Ev (fun k => estimate_Count.l2 k p svc (x8 + (hitsT p svc (l.drop i) : Int)) x9 c (c.length : Int) 0 l b c d) R →
    Ev (fun k => estimate_Count.l0 k p svc x8 x9 l (l.length : Int) (i : Int) l b c d) R := by
  intro n
  induction n with
  | zero =>
    intro i hn hi x8 h0 h1 h
    refine Ev.step (fun k => ?_) h
    simp only [estimate_Count.l0]
    rw [if_neg (by omega), List.drop_of_length_le (by omega)]
    simp [hitsT]
  | succ n ih =>
    intro i hn hi x8 h0 h1 h
    have hlt : i < l.length := by omega
    have hd : l.drop i = l[i] :: l.drop (i + 1) := drop_at l hlt
    have hg : rd_T53 l (i : Int) = l[i] := getD_at l z53 hlt
    have hle := hits_le p svc l[i].f0 l[i].f2
    rw [hd, List.map_cons, List.sum_cons] at h1
    have hT : hitsT p svc (l.drop i) = hits p svc l[i].f0 l[i].f2 + hitsT p svc (l.drop (i + 1)) := by rw [hd]; rfl
    rw [hT] at h
    have hsl := hs l[i] (List.getElem_mem hlt)
    refine Ev.step (fun k => ?_) (cnt1 p svc l b c d x9 R i l[i].f0 l[i].f1 l[i].f2 l[i].f2 hsl _ 0 rfl (Nat.zero_le _) x8 h0 (by omega) ?_)
    · simp only [estimate_Count.l0, hg]
      rw [if_pos (by omega), if_pos (by omega), if_pos (by omega)]
      rfl
    · rw [List.drop_zero, w_succ hlt hl]
      refine ih (i + 1) (by omega) (by omega) _ (by omega) (by omega) ?_
      rw [show x8 + (hits p svc l[i].f0 l[i].f2 : Int) + (hitsT p svc (l.drop (i + 1)) : Int) = x8 + ((hits p svc l[i].f0 l[i].f2 + hitsT p svc (l.drop (i + 1)) : Nat) : Int) by omega]
      exact h
theorem count_ev (l : List S53) (b : List S195) (c : List S60) (d : List S62) (hl : l.length ≤ 4611686018427387904) (hs : ∀ t ∈ l, t.f2.length ≤ 4611686018427387904) (hc : c.length ≤ 4611686018427387904) (hd : d.length ≤ 4611686018427387904)
    (hcp : ∀ x ∈ c, 0 ≤ x.f2) (hdp : ∀ x ∈ d, 0 ≤ x.f1) (h1 : (((l.map fun t => t.f2.length).sum : Nat) : Int) ≤ 9223372036854775807) (h2 : (hitsT p svc l : Int) + remS p svc c ≤ 9223372036854775807) (h3 : lateS p d ≤ 9223372036854775807) :
    Ev (fun k => estimate_Count.f k l b c d p svc) (mx 0 (wrap64 ((hitsT p svc l : Int) + remS p svc c - lateS p d)), wrap64 ((hitsT p svc l : Int) + remS p svc c + lateS p d)) := by
  have e3 := cnt3 p d hd hdp ((hitsT p svc l : Int) + remS p svc c) _ 0 rfl (Nat.zero_le _) 0 (Int.le_refl _) (by rw [List.drop_zero]; omega)
  rw [List.drop_zero, Int.zero_add] at e3
  have e2 := cnt2 p svc l b c d hc hcp 0 _ _ 0 rfl (Nat.zero_le _) (hitsT p svc l : Int) (by omega) (by rw [List.drop_zero]; exact h2) (by rw [List.drop_zero]; exact e3)
  exact cnt0 p svc l b c d hl hs 0 _ _ 0 rfl (Nat.zero_le _) 0 (Int.le_refl _) (by rw [List.drop_zero, Int.zero_add]; exact h1) (by rw [List.drop_zero, Int.zero_add]; exact e2)
end
end Go.Proofs.Ythdifdnjodbdnaa.Pl
namespace Go.Proofs.Ythdifdnjodbdnaa.Pl
open Go.RowKit Go.Proofs.YthdifdnjodbdnaaW.PrintWords Go.Proofs.YthdifdnjodbdnaaW.PrintLast Go.Proofs.YthdifdnjodbdnaaW.PrintMore Go.Proofs.Ythdifdnjodbdnaa.Q
set_option linter.unusedVariables false
set_option linter.unusedSimpArgs false
set_option linter.unusedSimpArgs false
open Go.Sort Go.Lib Go.Shelf
open Srt (srt insS_eq cL cG cS bl)
abbrev api : ByteArray := ⟨#[97, 112, 105]⟩
abbrev v1 : ByteArray := ⟨#[118, 49]⟩
abbrev v2 : ByteArray := ⟨#[118, 50]⟩
abbrev emp : ByteArray := ⟨#[]⟩
def ln1 : S41 := ⟨⟨api, emp, emp⟩, ⟨8, 4, 60, 4⟩⟩
def lnA : S41 := ⟨⟨api, v1, emp⟩, ⟨4, 0, 40, 4⟩⟩
def lnB : S41 := ⟨⟨api, v2, emp⟩, ⟨4, 4, 20, 4⟩⟩
def exm : List S53 := [⟨5, 4, [⟨5, 1, 0, 0, 1, 3, api, v1, ⟨#[103, 101, 116]⟩, 0, 10, false, [], []⟩, ⟨5, 2, 0, 0, 1, 3, api, v2, ⟨#[103, 101, 116]⟩, 3, 8, true, [], []⟩]⟩]
theorem lines1 : estimate_lines.f [ln1] = some [ln1] := by
  unfold estimate_lines.f
  rw [if_pos (by decide), srt, insS_eq]
  rfl
theorem linesAB : estimate_lines.f [lnA, lnB] = some [lnA, lnB] := by
  have h : cL lnB lnA = 1 := by
    have e1 : (api : ByteArray).toList = [97, 112, 105] := ByteArray.toList_eq _
    have e2 : (v1 : ByteArray).toList = [118, 49] := ByteArray.toList_eq _
    have e3 : (v2 : ByteArray).toList = [118, 50] := ByteArray.toList_eq _
    show cG ⟨api, v2, emp⟩ ⟨api, v1, emp⟩ = 1
    unfold cG
    simp only [Srt.cS_self, if_true]
    unfold cS
    rw [e2, e3]
    decide
  unfold estimate_lines.f
  rw [if_pos (by decide), srt, insS_eq]
  simp [Srt.insRev, ltOf, h]
theorem by1 : estimate_By.f 12 exm 1 = some ([ln1], 0) := by
  have : estimate_By.f 12 exm 1 = (estimate_lines.f [ln1]).bind fun t => some (t, 0) := by kernel_rfl
  rw [this, lines1]
  rfl
theorem by2 : estimate_By.f 12 exm 2 = some ([lnA, lnB], 0) := by
  have : estimate_By.f 12 exm 2 = (estimate_lines.f [lnA, lnB]).bind fun t => some (t, 0) := by kernel_rfl
  rw [this, linesAB]
  rfl
def sp4 (i : Int) (s : ByteArray) : S58 := ⟨3, i, 0, 0, 1, 3, s, emp, ⟨#[111]⟩, 0, 0, false, [], []⟩
def sps : List S58 := [sp4 1 ⟨#[115]⟩, sp4 2 ⟨#[115]⟩, sp4 3 ⟨#[116]⟩, sp4 4 ⟨#[115]⟩]
theorem cnt_known : Ev (fun k => estimate_Count.f k [⟨3, 1, sps⟩] [] [⟨0, ⟨#[115]⟩, 10, 0⟩] [⟨0, 2⟩] 0 ⟨#[115]⟩) (11, 15) := by
  have e1 : (⟨#[115]⟩ : ByteArray).toList = [115] := ByteArray.toList_eq _
  have e2 : (⟨#[116]⟩ : ByteArray).toList = [116] := ByteArray.toList_eq _
  have hh : hitsT 0 ⟨#[115]⟩ [⟨3, 1, sps⟩] = 3 := by simp [hitsT, hits, hit, sps, sp4, e1, e2]
  have hr : remS 0 ⟨#[115]⟩ [⟨0, ⟨#[115]⟩, 10, 0⟩] = 10 := by simp [remS]
  have hl : lateS 0 [⟨0, 2⟩] = 2 := by simp [lateS]
  have := count_ev 0 ⟨#[115]⟩ [⟨3, 1, sps⟩] [] [⟨0, ⟨#[115]⟩, 10, 0⟩] [⟨0, 2⟩] (by decide) (by simp [sps]) (by decide) (by decide) (by simp) (by simp) (by simp [sps]) (by rw [hh, hr]; decide) (by rw [hl]; decide)
  rw [hh, hr, hl] at this
  have em : (mx 0 (wrap64 (((3 : Nat) : Int) + 10 - 2)), wrap64 (((3 : Nat) : Int) + 10 + 2)) = ((11, 15) : Int × Int) := by kernel_rfl
  rw [em] at this
  exact this
theorem known_l0 : Ev (fun k => sleuthlaw25_known.l0 k [ln1] 0 [lnA, lnB] 0 1 3 1 []) true := by
  refine Ev.step (f := fun k => sleuthlaw25_known.l0 k [ln1] 0 [lnA, lnB] 0 2 3 1 (sps.take 1)) (fun k => by kernel_rfl) ?_
  refine Ev.step (f := fun k => sleuthlaw25_known.l0 k [ln1] 0 [lnA, lnB] 0 3 3 1 (sps.take 2)) (fun k => by kernel_rfl) ?_
  refine Ev.step (f := fun k => sleuthlaw25_known.l0 k [ln1] 0 [lnA, lnB] 0 4 3 1 (sps.take 3)) (fun k => by kernel_rfl) ?_
  refine Ev.step (f := fun k => sleuthlaw25_known.l0 k [ln1] 0 [lnA, lnB] 0 5 3 1 sps) (fun k => by kernel_rfl) ?_
  refine Ev.step (fun k => ?_) (Ev.bind cnt_known (f := fun (n : Nat) (bt : Int × Int) => if bt.1 = 11 then some (bt.2 == 15) else none) (Ev.now true))
  have e1 : (api : ByteArray).toList = [97, 112, 105] := ByteArray.toList_eq _
  have e3 : (v2 : ByteArray).toList = [118, 50] := ByteArray.toList_eq _
  have e4 : (emp : ByteArray).toList = [] := ByteArray.toList_eq _
  have r0 : rd_T41 [ln1] 0 = ln1 := rfl
  have r1 : rd_T41 [lnA, lnB] 1 = lnB := rfl
  simp only [sleuthlaw25_known.l0, r0, r1]
  rw [if_neg (by decide)]
  congr 1
  funext bt
  have f0 : lnB.f0.f0.toList = [97, 112, 105] := e1
  have f1 : lnB.f0.f1.toList = [118, 50] := e3
  have f2 : lnB.f0.f2.toList = [] := e4
  have g1 : (ln1.f1.f0 == 8 && (ln1.f1.f1 == 4 && (ln1.f1.f2 == 60 && ln1.f1.f3 == 4))) = true := rfl
  have g2 : (lnB.f1.f0 == 4 && (lnB.f1.f1 == 4 && (lnB.f1.f2 == 20 && lnB.f1.f3 == 4))) = true := rfl
  rw [f0, f1, f2, g1, g2]
  rfl
theorem known_ev : Ev (fun k => sleuthlaw25_known.f k) true := by
  have h1 := Ev.of (fun k => estimate_By.mono exm 1 k) by1
  have h2 := Ev.of (fun k => estimate_By.mono exm 2 k) by2
  exact Ev.bind (Ev.now exm) (Ev.bind h1 (Ev.bind (Ev.now exm) (Ev.bind h2 known_l0)))
end Go.Proofs.Ythdifdnjodbdnaa.Pl
