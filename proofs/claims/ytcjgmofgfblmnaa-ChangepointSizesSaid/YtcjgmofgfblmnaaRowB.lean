/- A slice of rows of three small numbers, as an argument of a law, opened in the print's own kind, with the bounds of the numbers. -/
import Derived.Test.YtcjgmofgfblmnaaTy
import Derived.Deep.Slices
import Derived.ChangeArms
import Derived.OpenShut
namespace Go.Proofs.Ytcjgmofgfblmnaa.RowB
open Go.RowKit Go.Proofs.YtcjgmofgfblmnaaW.PrintWords Go.Proofs.YtcjgmofgfblmnaaW.PrintLast Go.Proofs.YtcjgmofgfblmnaaW.PrintMore Go.Proofs.Ytcjgmofgfblmnaa.Q
set_option linter.unusedVariables false
set_option linter.unusedSimpArgs false
set_option linter.unusedSimpArgs false
def Byt (s : S92) : Prop := (Lit.int .i8 s.f0).wf = true ∧ (Lit.int .i8 s.f1).wf = true ∧ (Lit.int .i8 s.f2).wf = true
theorem cells91 : Try.prog.cellsOf 91 = 1 := by kernel_rfl
theorem cells92 : Try.prog.cellsOf 92 = 3 := by kernel_rfl
instance : Inhabited S92 := ⟨z92⟩
section
variable {H : Type} {enc : TypeId × Value → H} {w : World}
theorem one91 {fuel : Nat} {c : Value} {x : DataW H × List MemPlace} (h : DataW.trod enc Try.prog w 0 (fun _ => true) true fuel 91 [c] = some x) : ∃ n, c = .int .i8 n ∧ (Lit.int .i8 n).wf = true := by
  obtain ⟨n, e, _, hw⟩ := DataW.trod_int Try.underlying91 h
  exact ⟨n, by simpa using e, hw⟩
theorem three92 {fuel : Nat} {cs : List Value} {x : DataW H × List MemPlace} (hl : cs.length = 3) (h : DataW.trod enc Try.prog w 0 (fun _ => true) true fuel 92 cs = some x) : ∃ s : S92, cs = [.int .i8 s.f0, .int .i8 s.f1, .int .i8 s.f2] ∧ Byt s := by
  match cs, hl with
  | [c0, c1, c2], _ =>
    obtain ⟨xs, n, _, _, _, hz, hg⟩ := DataW.trod_array Try.underlying92 h
    have get : ∀ (i : Nat) (c : Value), i < 3 → ([c0, c1, c2].drop i).take 1 = [c] → ∃ m, c = .int .i8 m ∧ (Lit.int .i8 m).wf = true := by
      intro i c hi e
      have g := hg i hi
      obtain ⟨y, hy⟩ : ∃ y, xs[i]? = some y := ⟨_, List.getElem?_eq_getElem (by rw [hz]; exact hi)⟩
      rw [hy, cells91, Nat.mul_one, e] at g
      exact one91 g
    obtain ⟨n0, rfl, w0⟩ := get 0 c0 (by decide) rfl
    obtain ⟨n1, rfl, w1⟩ := get 1 c1 (by decide) rfl
    obtain ⟨n2, rfl, w2⟩ := get 2 c2 (by decide) rfl
    exact ⟨⟨n0, n1, n2⟩, rfl, w0, w1, w2⟩
theorem open92 {fuel len cap : Nat} {a : Option Addr} {x : DataW H × List MemPlace} (h : DataW.trod enc Try.prog w 0 (fun _ => true) true fuel 52 (Value.slice a len cap).cells.toList = some x) :
    ∃ l : List S92, l.length = len ∧ Kd.C k92 w a l.length l ∧ l.length ≤ cap ∧ ∀ x ∈ l, Byt x := by
  rcases Go.Deep.open_slice Try.underlying52 h with ⟨hcs, _⟩ | ⟨ad, len', cap', m, n, D, Pl, hcs, _, hlc, hcm, hm, _, hx⟩
  · simp [Value.cells] at hcs
    obtain ⟨rfl, rfl, rfl⟩ := hcs
    exact ⟨[], rfl, ⟨rfl, by decide, fun h => absurd h (by decide)⟩, Nat.le_refl _, fun _ h => by cases h⟩
  · simp [Value.cells] at hcs
    obtain ⟨rfl, rfl, rfl⟩ := hcs
    have hlm : len ≤ m := by rw [hm]; split <;> omega
    obtain ⟨f, hf⟩ := Go.Deep.choose_lt (α := S92) (n := len) (p := fun i s => w.cells? 0 (ad.add (i * 3)) 3 = some [.int .i8 s.f0, .int .i8 s.f1, .int .i8 s.f2] ∧ Byt s) (fun i hi => by
      obtain ⟨cs', h1, h2⟩ := hx i (by omega)
      rw [cells92] at h1
      obtain ⟨s, rfl, hb⟩ := three92 (World.cells?_some h1).2.1 h2
      exact ⟨s, h1, hb⟩)
    have hlen : ((List.range len).map f).length = len := by simp
    refine ⟨(List.range len).map f, hlen, ⟨rfl, by rw [hlen]; exact Nat.le_trans hlc (Nat.le_trans hcm (by decide)), fun _ => ⟨ad, rfl, fun j p hj => ?_⟩⟩, by rw [hlen]; exact hlc, fun x hx => ?_⟩
    rotate_left
    · obtain ⟨i, hi, rfl⟩ := List.mem_map.1 hx
      exact (hf i (List.mem_range.1 hi)).2
    obtain ⟨hj1, hj2⟩ := List.getElem?_eq_some_iff.1 hj
    have hj3 : j < len := by rw [hlen] at hj1; exact hj1
    have ep : p = f j := by rw [← hj2]; simp
    subst ep
    refine ⟨_, rfl, k92_mk w (f j), fun i u hu => ?_⟩
    obtain ⟨hi1, _⟩ := List.getElem?_eq_some_iff.1 hu
    have h3 := (World.cells?_some (hf j hj3).1).2.2 i hi1
    rw [hu, Go.Deep.add_add] at h3
    exact h3
end
end Go.Proofs.Ytcjgmofgfblmnaa.RowB
