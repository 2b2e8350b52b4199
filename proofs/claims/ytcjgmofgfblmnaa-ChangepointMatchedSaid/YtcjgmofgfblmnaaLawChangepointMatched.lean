/- The statement ChangepointMatched: the law's function answers true at every argument that the statement allows. It stands on no further condition. -/
import Derived.Test.YtcjgmofgfblmnaaRows
import Derived.Test.YtcjgmofgfblmnaaQgSleuthlaw45ChangepointMatched
import Derived.Test.YtcjgmofgfblmnaaPureChangepointMatched
import Derived.Test.YtcjgmofgfblmnaaRowA
import Derived.WalkKit
import Derived.ProofKit
import Derived.OpenShut
import Derived.ShutString
import Derived.ChangeOld
import Derived.Below
import Derived.SizedLaws
import Derived.Test.YtcjgmofgfblmnaaWd
namespace Go.Proofs.Ytcjgmofgfblmnaa.changepointMatched
open Go.ChangeShapes Go.WideShapes Go.ChangeAt Go.RowKit
open Go.ChangeMaps (open_string shut_string)
open Go.Proofs.YtcjgmofgfblmnaaW.PrintWords Go.Proofs.YtcjgmofgfblmnaaW.PrintLast Go.Proofs.YtcjgmofgfblmnaaW.PrintMore Go.Proofs.Ytcjgmofgfblmnaa.Q
set_option linter.unusedVariables false
set_option linter.unusedSimpArgs false
theorem own : ownKnob Try.prog.godebug = none := by kernel_rfl
theorem laidOut : laidOutB Try.prog = true := by kernel_rfl
def IsRow (k : IntKind) (w : World) (a : Option Addr) (len cap : Nat) (zs : List Int) : Prop :=
  (a = none ∧ len = 0 ∧ cap = 0 ∧ zs = []) ∨
  ∃ x, a = some x ∧ len ≤ cap ∧ cap ≤ maxLen ∧ zs.length = cap ∧ (∀ i, i < zs.length → w.cell? (x.add i) = some (.int k (zs.getD i 0))) ∧ ∀ n ∈ zs, (Lit.int k n).wf = true
theorem cells5 : Try.prog.cellsOf 5 = 1 := by kernel_rfl
theorem arr2 {cs : Array Value} (h : cs.size = 2) : ∃ x0 x1, cs = #[x0, x1] := by
  obtain ⟨l⟩ := cs
  match l, h with
  | [x0, x1], _ => exact ⟨x0, x1, rfl⟩
set_option maxRecDepth 100000 in
theorem lifted (os : Os) (started : os.Started) (H : Type) (enc : TypeId × Value → H) :
    ReturnsInHanded {} Try.checked os 8 .any (Rows.changepointMatchedSpec.pre6 enc Try.prog Try.f8 Rows.changepointMatchedRow.domain false) (Rows.changepointMatchedSpec.post enc Try.prog Try.f8 false true false false) := by
  refine returnsInHanded_of_change_sized (C := Try.checked) own started (by kernel_rfl) Try.func8
    (ChangeSpec.witness6 (enc := enc) (C := Try.checked) false ⟨#[], #[.slice none 0 0, .slice none 0 0, .agg #[.int .u8 0, .int .u8 0]], []⟩ 8 (by kernel_rfl) (by kernel_rfl) (by kernel_rfl) (by kernel_rfl)) ?_
  intro W base args ds gs before hval0 hW hcnd hsz0 _
  have hsz : (DataW.weightsEach Try.prog (Try.f8.params.toList ++ Rows.changepointMatchedSpec.plain.varTypes Try.prog) (ds ++ gs)).all (· ≤ reachBytes) = true := hsz0
  have hval : ∀ (j : Nat) t v, Try.f8.params[j]? = some t → args[j]? = some v → Value.okWide Try.prog W .any base t v := hval0
  have hW' := hW
  obtain ⟨p, q, hA0, hV, rfl, hfz, hnd⟩ := hW
  have hA : DataW.TrodAll enc Try.prog W 0 (fun _ => true) true Try.f8.params.toList args.toList ds p := hA0
  rw [Try.params8] at hA hval hsz
  obtain ⟨v0, vs0, d0, ds0, p0, q0, hargs, rfl, rfl, h0, r0⟩ := trodAll_cons hA
  obtain ⟨v1, vs1, d1, ds1, p1, q1, rfl, rfl, rfl, h1, r1⟩ := trodAll_cons r0
  obtain ⟨v2, vs2, d2, ds2, p2, q2, rfl, rfl, rfl, h2, r2⟩ := trodAll_cons r1
  obtain ⟨rfl, rfl, rfl⟩ := trodAll_nil r2
  obtain rfl : args = #[v0, v1, v2] := by cases args; simp_all
  obtain ⟨rfl, rfl⟩ := trodVars_none hV
  obtain ⟨a0, len0, cap0, rfl⟩ := okWide_slice Try.underlying52 (hval 0 52 v0 rfl rfl)
  have k0 := h0
  have lt0 : ∀ x ∈ p0, x.block < W.heap.size := by obtain ⟨m, hm⟩ := k0; exact DataW.trod_lt m _ _ _ hm
  obtain ⟨fuel0, hf0⟩ := id h0
  obtain ⟨l0, rfl, hr0, hc0⟩ := RowA.open92 hf0
  obtain ⟨a1, len1, cap1, rfl⟩ := okWide_slice Try.underlying52 (hval 1 52 v1 rfl rfl)
  have k1 := h1
  have lt1 : ∀ x ∈ p1, x.block < W.heap.size := by obtain ⟨m, hm⟩ := k1; exact DataW.trod_lt m _ _ _ hm
  obtain ⟨fuel1, hf1⟩ := id h1
  obtain ⟨l1, rfl, hr1, hc1⟩ := RowA.open92 hf1
  obtain ⟨cs2, rfl, hz2⟩ : ∃ cs, v2 = .agg cs ∧ cs.size = 2 := by
    have h := hval 2 60 v2 rfl rfl
    simp only [Value.okWide, Try.underlying60] at h
    obtain ⟨cs, e1, e2, _⟩ := h
    exact ⟨cs, e1, e2.trans (by kernel_rfl)⟩
  obtain ⟨c2_0, c2_1, rfl⟩ := arr2 hz2
  have k2 := h2
  have lt2 : ∀ x ∈ p2, x.block < W.heap.size := by obtain ⟨m, hm⟩ := k2; exact DataW.trod_lt m _ _ _ hm
  obtain ⟨fuel2, hf2⟩ := id h2
  obtain ⟨xs2, n2, _, _, _, hl2, hg2⟩ := DataW.trod_array Try.underlying60 hf2
  obtain ⟨x2_0, g2_0⟩ : ∃ x, DataW.trod enc Try.prog W 0 (fun _ => true) true n2 5 [c2_0] = some x := by
    have g := hg2 0 (by omega)
    obtain ⟨x, hx⟩ : ∃ x, xs2[0]? = some x := ⟨_, List.getElem?_eq_getElem (by rw [hl2]; decide)⟩
    rw [hx] at g
    exact ⟨x, by simpa [Value.cells, cells5] using g⟩
  obtain ⟨a2_0, e2_0, _, w2_0⟩ := DataW.trod_int Try.underlying5 g2_0
  obtain rfl : c2_0 = .int .u8 a2_0 := by simpa using e2_0
  obtain ⟨x2_1, g2_1⟩ : ∃ x, DataW.trod enc Try.prog W 0 (fun _ => true) true n2 5 [c2_1] = some x := by
    have g := hg2 1 (by omega)
    obtain ⟨x, hx⟩ : ∃ x, xs2[1]? = some x := ⟨_, List.getElem?_eq_getElem (by rw [hl2]; decide)⟩
    rw [hx] at g
    exact ⟨x, by simpa [Value.cells, cells5] using g⟩
  obtain ⟨a2_1, e2_1, _, w2_1⟩ := DataW.trod_int Try.underlying5 g2_1
  obtain rfl : c2_1 = .int .u8 a2_1 := by simpa using e2_1
  clear hA0 hval0 hsz0 hsz
  obtain ⟨k, h⟩ := Pure.ChangepointMatched l0 l1 a2_0 a2_1 w2_0 w2_1
  refine (sleuthlaw45_ChangepointMatched.calls k _ _ l0 _ _ l1 a2_0 a2_1 true W hr0 hc0 hr1 hc1 h).mono fun e W' ⟨he, bel⟩ => ?_
  subst he
  exact ⟨_, rfl, _, _, _, [], _, [], hW', trodAll_mk1 (shut_bool Try.underlying4 _), (trodAll_cons_mk (Below.trod laidOut (by kernel_rfl) (of_decide_eq_true (by kernel_rfl)) k0 bel lt0) (trodAll_cons_mk (Below.trod laidOut (by kernel_rfl) (of_decide_eq_true (by kernel_rfl)) k1 bel lt1) (trodAll_cons_mk (Below.trod laidOut (by kernel_rfl) (of_decide_eq_true (by kernel_rfl)) k2 bel lt2) trodAll_mk0))), rfl, bel.frame _, fun h => by cases h⟩
theorem over : Rows.changepointMatchedRow.holds Try.pinned (OpenSpec.ofChange Rows.changepointMatchedSpec) :=
  OpenClaim.holds_of_wide 8 Try.f8 rfl rfl rfl rfl rfl rfl rfl ⟨rfl, rfl, rfl, rfl, rfl⟩ rfl rfl rfl rfl rfl (by kernel_rfl) Try.func8 (by kernel_rfl)
    (of_decide_eq_true (by kernel_rfl)) (by unfold Func.isWrapper; first | (rw [if_pos (by decide +kernel)]; kernel_rfl) | (rw [if_neg (by decide +kernel)]; exact ⟨rfl, rfl⟩))
    (fun os started H enc _ => lifted os started H enc)
theorem proved : Rows.ChangepointMatchedSaid := over
#print axioms proved
end Go.Proofs.Ytcjgmofgfblmnaa.changepointMatched
namespace Go.Proofs.Ytcjgmofgfblmnaa
/-- The row, under a short name, for the claim. -/
theorem changepointMatched_holds : Rows.ChangepointMatchedSaid := changepointMatched.proved
end Go.Proofs.Ytcjgmofgfblmnaa
