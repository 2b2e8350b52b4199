/- The potentials of the reference: the plain side (the law Potentials has its own text with these laws; never import both). -/
import Derived.Test.YtiimanpmidnffaaSegJ
import Derived.Test.YtiimanpmidnffaaQy4
namespace Go.Proofs.Ytiimanpmidnffaa.Seg
open Go.RowKit Go.Proofs.YtiimanpmidnffaaW.PrintWords Go.Proofs.YtiimanpmidnffaaW.PrintLast Go.Proofs.YtiimanpmidnffaaW.PrintMore Go.Proofs.Ytiimanpmidnffaa.Q
set_option linter.unusedVariables false
set_option linter.unusedSimpArgs false
theorem C_take (l : List Int) (t a b : Nat) (h : b ≤ t) : C (l.take t) a b = C l a b := by
  unfold C
  rw [List.take_take, Nat.min_eq_left h]
theorem Cut.take {l : List Int} {p : Int} (t : Nat) {s : Nat} {c : List Int} {n : Int} (h : Cut l p s c n) : s ≤ t → Cut (l.take t) p s c n := by
  induction h with
  | whole s h1 => intro h; rw [← C_take l t 0 s h]; exact .whole s h1
  | more s u c n h1 h2 ih => intro h; rw [← C_take l t s u h]; exact .more s u c n h1 (ih (by omega))
theorem Cut.untake {l : List Int} {p : Int} (t : Nat) {s : Nat} {c : List Int} {n : Int} (h : Cut (l.take t) p s c n) : s ≤ t → Cut l p s c n := by
  induction h with
  | whole s h1 => intro h; rw [C_take l t 0 s h]; exact .whole s h1
  | more s u c n h1 h2 ih => intro h; rw [C_take l t s u h]; exact .more s u c n h1 (ih (by omega))
theorem Best.take {l : List Int} {p : Int} {t : Nat} {c : List Int} {n : Int} (h : Best l p t n c) : Best (l.take t) p t n c :=
  ⟨h.cut.take t (Nat.le_refl t), fun c' n' hc => h.min c' n' (hc.untake t (Nat.le_refl t))⟩
theorem rpot_loop (l : List Int) (p : Int) (h : chk l p = 0) (hn : l.length ≤ 60) (f : List Int) (hf : IsPot l p f) : ∀ (d i : Nat), l.length + 1 - i = d → 1 ≤ i → i ≤ l.length + 1 → Ev (fun k => sleuthlaw44_potentials.l0 k l p (f.take i) (i : Int)) f := by
  obtain ⟨hP, hl, h0, h1⟩ := chk_ok h
  have hfl := hf.1
  intro d
  induction d with
  | zero =>
    intro i hd hi1 hi
    refine Ev.step (f := fun _ => some f) (fun k => ?_) (Ev.now _)
    simp only [sleuthlaw44_potentials.l0]
    rw [if_neg (by omega), List.take_of_length_le (by omega)]
  | succ d ih =>
    intro i hd hi1 hi
    obtain ⟨c, hB⟩ := hf.2.2 i hi1 (by omega)
    have hBt := hB.take
    have hlt : (l.take i).length = i := by rw [List.length_take]; omega
    have hct : chk (l.take i) p = 0 := chk_mk ⟨by rw [hlt]; have := hP.1; omega, fun x hx => hP.2 x (List.mem_of_mem_take hx)⟩ (by intro e; rw [e] at hlt; simp at hlt; omega) h0 h1
    have hr := rbest_all (l.take i) p hct (by omega) (n := f.getD i 0) (c := c) (by rw [hlt]; exact hBt)
    have n1 := ih (i + 1) (by omega) (by omega) (by omega)
    have e : f.take (i + 1) = f.take i ++ [f.getD i 0] := by
      rw [List.take_succ_eq_append_getElem (by omega), List.getD_eq_getElem?_getD, List.getElem?_eq_getElem (by omega)]; rfl
    rw [e] at n1
    refine Ev.step (fun k => ?_) (Ev.bind (f := fun (k : Nat) (bt380 : List Int × Int) => sleuthlaw44_potentials.l0 k l p (f.take i ++ [bt380.2]) (((i + 1 : Nat) : Int))) hr n1)
    have hlf : (f.take i).length < 17592186044416 := by rw [List.length_take]; omega
    simp only [sleuthlaw44_potentials.l0]
    rw [if_pos (by omega), if_pos (by omega), Int.toNat_natCast, w64 (x := (i : Int) + 1) (by omega) (by omega)]
    simp only [if_pos hlf]
    rfl
theorem rpot_ev (l : List Int) (p : Int) (h : chk l p = 0) (hn : l.length ≤ 60) (f : List Int) (hf : IsPot l p f) : Ev (fun k => sleuthlaw44_potentials.f k l p) f := by
  have := rpot_loop l p h hn f hf _ 1 rfl (Nat.le_refl 1) (by omega)
  obtain ⟨hP, hl, h0, h1⟩ := chk_ok h
  have hfl := hf.1
  have e : f.take 1 = [wrap64 (-p)] := by
    rw [w64 (by omega) (by omega), ← hf.2.1]
    cases f with
    | nil => simp at hfl
    | cons a f => rfl
  rw [e] at this
  exact this
end Go.Proofs.Ytiimanpmidnffaa.Seg
