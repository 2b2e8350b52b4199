/- The statement ChangepointShifts: the law's function answers true at every argument that the statement allows. It stands on no further condition. -/
import Derived.Test.YtcjgmofgfblmnaaRows
import Derived.Test.YtcjgmofgfblmnaaQgSleuthlaw45ChangepointShifts
import Derived.Test.YtcjgmofgfblmnaaPureChangepointShifts
import Derived.WalkKit
import Derived.ProofKit
import Derived.OpenShut
import Derived.ShutString
import Derived.ChangeOld
import Derived.Below
import Derived.SizedLaws
import Derived.Test.YtcjgmofgfblmnaaWd
namespace Go.Proofs.Ytcjgmofgfblmnaa.changepointShifts
open Go.ChangeShapes Go.WideShapes Go.ChangeAt Go.RowKit
open Go.ChangeMaps (open_string shut_string)
open Go.Proofs.YtcjgmofgfblmnaaW.PrintWords Go.Proofs.YtcjgmofgfblmnaaW.PrintLast Go.Proofs.YtcjgmofgfblmnaaW.PrintMore Go.Proofs.Ytcjgmofgfblmnaa.Q
set_option linter.unusedVariables false
set_option linter.unusedSimpArgs false
theorem own : ownKnob Try.prog.godebug = none := by kernel_rfl
theorem laidOut : laidOutB Try.prog = true := by kernel_rfl
def IsRow (k : IntKind) (w : World) (a : Option Addr) (len cap : Nat) (zs : List Int) : Prop :=
  (a = none ∧ len = 0 ∧ cap = 0 ∧ zs = []) ∨
  ∃ x, a = some x ∧ len ≤ cap ∧ cap ≤ maxLen ∧ zs.length = cap ∧ (∀ i, i < zs.length → w.cell? (x.add i) = some (.int k (zs.getD i 0))) ∧ ∀ n ∈ zs, (Lit.int k n).wf = true
theorem cells5 : Try.prog.cellsOf 5 = 1 := by kernel_rfl
theorem arr2 {cs : Array Value} (h : cs.size = 2) : ∃ x0 x1, cs = #[x0, x1] := by
  obtain ⟨l⟩ := cs
  match l, h with
  | [x0, x1], _ => exact ⟨x0, x1, rfl⟩
set_option maxRecDepth 100000 in
theorem lifted (os : Os) (started : os.Started) (H : Type) (enc : TypeId × Value → H) :
    ReturnsInHanded {} Try.checked os 9 .any (Rows.changepointShiftsSpec.pre6 enc Try.prog Try.f9 Rows.changepointShiftsRow.domain false) (Rows.changepointShiftsSpec.post enc Try.prog Try.f9 false true false false) := by
  refine returnsInHanded_of_change_sized (C := Try.checked) own started (by kernel_rfl) Try.func9
    (ChangeSpec.witness6 (enc := enc) (C := Try.checked) false ⟨#[], #[.slice none 0 0, .int .u8 0, .agg #[.int .u8 0, .int .u8 0]], []⟩ 8 (by kernel_rfl) (by kernel_rfl) (by kernel_rfl) (by kernel_rfl)) ?_
  intro W base args ds gs before hval0 hW hcnd hsz0 _
  have hsz : (DataW.weightsEach Try.prog (Try.f9.params.toList ++ Rows.changepointShiftsSpec.plain.varTypes Try.prog) (ds ++ gs)).all (· ≤ reachBytes) = true := hsz0
  have hval : ∀ (j : Nat) t v, Try.f9.params[j]? = some t → args[j]? = some v → Value.okWide Try.prog W .any base t v := hval0
  have hW' := hW
  obtain ⟨p, q, hA0, hV, rfl, hfz, hnd⟩ := hW
  have hA : DataW.TrodAll enc Try.prog W 0 (fun _ => true) true Try.f9.params.toList args.toList ds p := hA0
  rw [Try.params9] at hA hval hsz
  obtain ⟨v0, vs0, d0, ds0, p0, q0, hargs, rfl, rfl, h0, r0⟩ := trodAll_cons hA
  obtain ⟨v1, vs1, d1, ds1, p1, q1, rfl, rfl, rfl, h1, r1⟩ := trodAll_cons r0
  obtain ⟨v2, vs2, d2, ds2, p2, q2, rfl, rfl, rfl, h2, r2⟩ := trodAll_cons r1
  obtain ⟨rfl, rfl, rfl⟩ := trodAll_nil r2
  obtain rfl : args = #[v0, v1, v2] := by cases args; simp_all
  obtain ⟨rfl, rfl⟩ := trodVars_none hV
  obtain ⟨a0, len0, cap0, rfl⟩ := okWide_slice Try.underlying22 (hval 0 22 v0 rfl rfl)
  have k0 := h0
  have lt0 : ∀ x ∈ p0, x.block < W.heap.size := by obtain ⟨m, hm⟩ := k0; exact DataW.trod_lt m _ _ _ hm
  obtain ⟨fuel0, hf0⟩ := id h0
  obtain ⟨z0, w0⟩ : ∃ zs, IsRow .u8 W a0 len0 cap0 zs := by
    rcases open_ints Try.underlying22 Try.underlying5 (by kernel_rfl) hf0 with ⟨hcs, _⟩ | ⟨x, l, c, zs, hcs, _, hl, hm, hz, _, hcell, hwz⟩
    · simp [Value.cells] at hcs
      obtain ⟨rfl, rfl, rfl⟩ := hcs
      exact ⟨[], .inl ⟨rfl, rfl, rfl, rfl⟩⟩
    · simp [Value.cells] at hcs
      obtain ⟨rfl, rfl, rfl⟩ := hcs
      exact ⟨zs, .inr ⟨_, rfl, hl, hm, by simpa using hz, hcell, hwz⟩⟩
  have y0 : len0 * 1 ≤ 140737488351232 := Go.Proofs.YtcjgmofgfblmnaaW.PrintWords.sized_ints hsz (j := 0) (t := 22) rfl rfl Try.underlying22 Try.underlying5 (by kernel_rfl) (by kernel_rfl) h0
  obtain ⟨l0, rfl, hr0, hm0, hw0, hc0⟩ := ReadsInt.ofRowC w0
  obtain ⟨a1, rfl, rfl, rfl, w1⟩ := open_int Try.underlying5 (hval 1 5 v1 rfl rfl) h1
  obtain ⟨cs2, rfl, hz2⟩ : ∃ cs, v2 = .agg cs ∧ cs.size = 2 := by
    have h := hval 2 60 v2 rfl rfl
    simp only [Value.okWide, Try.underlying60] at h
    obtain ⟨cs, e1, e2, _⟩ := h
    exact ⟨cs, e1, e2.trans (by kernel_rfl)⟩
  obtain ⟨c2_0, c2_1, rfl⟩ := arr2 hz2
  have k2 := h2
  have lt2 : ∀ x ∈ p2, x.block < W.heap.size := by obtain ⟨m, hm⟩ := k2; exact DataW.trod_lt m _ _ _ hm
  obtain ⟨fuel2, hf2⟩ := id h2
  obtain ⟨xs2, n2, _, _, _, hl2, hg2⟩ := DataW.trod_array Try.underlying60 hf2
  obtain ⟨x2_0, g2_0⟩ : ∃ x, DataW.trod enc Try.prog W 0 (fun _ => true) true n2 5 [c2_0] = some x := by
    have g := hg2 0 (by omega)
    obtain ⟨x, hx⟩ : ∃ x, xs2[0]? = some x := ⟨_, List.getElem?_eq_getElem (by rw [hl2]; decide)⟩
    rw [hx] at g
    exact ⟨x, by simpa [Value.cells, cells5] using g⟩
  obtain ⟨a2_0, e2_0, _, w2_0⟩ := DataW.trod_int Try.underlying5 g2_0
  obtain rfl : c2_0 = .int .u8 a2_0 := by simpa using e2_0
  obtain ⟨x2_1, g2_1⟩ : ∃ x, DataW.trod enc Try.prog W 0 (fun _ => true) true n2 5 [c2_1] = some x := by
    have g := hg2 1 (by omega)
    obtain ⟨x, hx⟩ : ∃ x, xs2[1]? = some x := ⟨_, List.getElem?_eq_getElem (by rw [hl2]; decide)⟩
    rw [hx] at g
    exact ⟨x, by simpa [Value.cells, cells5] using g⟩
  obtain ⟨a2_1, e2_1, _, w2_1⟩ := DataW.trod_int Try.underlying5 g2_1
  obtain rfl : c2_1 = .int .u8 a2_1 := by simpa using e2_1
  clear hA0 hval0 hsz0 hsz
  obtain ⟨k, h⟩ := Pure.ChangepointShifts l0 a1 a2_0 a2_1 hm0 y0 hw0 w1 w2_0 w2_1
  refine (sleuthlaw45_ChangepointShifts.calls k _ _ l0 a1 a2_0 a2_1 true W (Kd.C_of_reads (d := (0 : Int)) (h1 := fun _ => rfl) hr0) hc0 h).mono fun e W' ⟨he, bel⟩ => ?_
  subst he
  exact ⟨_, rfl, _, _, _, [], _, [], hW', trodAll_mk1 (shut_bool Try.underlying4 _), (trodAll_cons_mk (Below.trod laidOut (by kernel_rfl) (of_decide_eq_true (by kernel_rfl)) k0 bel lt0) (trodAll_cons_mk (shut_int Try.underlying5 w1) (trodAll_cons_mk (Below.trod laidOut (by kernel_rfl) (of_decide_eq_true (by kernel_rfl)) k2 bel lt2) trodAll_mk0))), rfl, bel.frame _, fun h => by cases h⟩
theorem over : Rows.changepointShiftsRow.holds Try.pinned (OpenSpec.ofChange Rows.changepointShiftsSpec) :=
  OpenClaim.holds_of_wide 9 Try.f9 rfl rfl rfl rfl rfl rfl rfl ⟨rfl, rfl, rfl, rfl, rfl⟩ rfl rfl rfl rfl rfl (by kernel_rfl) Try.func9 (by kernel_rfl)
    (of_decide_eq_true (by kernel_rfl)) (by unfold Func.isWrapper; first | (rw [if_pos (by decide +kernel)]; kernel_rfl) | (rw [if_neg (by decide +kernel)]; exact ⟨rfl, rfl⟩))
    (fun os started H enc _ => lifted os started H enc)
theorem proved : Rows.ChangepointShiftsSaid := over
#print axioms proved
end Go.Proofs.Ytcjgmofgfblmnaa.changepointShifts
namespace Go.Proofs.Ytcjgmofgfblmnaa
/-- The row, under a short name, for the claim. -/
theorem changepointShifts_holds : Rows.ChangepointShiftsSaid := changepointShifts.proved
end Go.Proofs.Ytcjgmofgfblmnaa
