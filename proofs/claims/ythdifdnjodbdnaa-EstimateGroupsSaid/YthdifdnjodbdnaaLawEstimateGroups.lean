/- The statement EstimateGroups: the law's function answers true at every argument that the statement allows. It stands on no further condition. -/
import Derived.Test.YthdifdnjodbdnaaRows
import Derived.Test.YthdifdnjodbdnaaQgSleuthlaw25EstimateGroups
import Derived.Test.YthdifdnjodbdnaaPureEstimateGroups
import Derived.Test.YthdifdnjodbdnaaPs
import Derived.WalkKit
import Derived.ProofKit
import Derived.OpenShut
import Derived.ShutString
import Derived.ChangeOld
import Derived.Below
namespace Go.Proofs.Ythdifdnjodbdnaa.estimateGroups
open Go.ChangeShapes Go.WideShapes Go.ChangeAt Go.RowKit
open Go.ChangeMaps (open_string shut_string)
open Go.Proofs.YthdifdnjodbdnaaW.PrintWords Go.Proofs.YthdifdnjodbdnaaW.PrintLast Go.Proofs.YthdifdnjodbdnaaW.PrintMore Go.Proofs.Ythdifdnjodbdnaa.Q
set_option linter.unusedVariables false
set_option linter.unusedSimpArgs false
theorem own : ownKnob Try.prog.godebug = none := by kernel_rfl
theorem laidOut : laidOutB Try.prog = true := by kernel_rfl
def IsRow (k : IntKind) (w : World) (a : Option Addr) (len cap : Nat) (zs : List Int) : Prop :=
  (a = none ∧ len = 0 ∧ cap = 0 ∧ zs = []) ∨
  ∃ x, a = some x ∧ len ≤ cap ∧ cap ≤ maxLen ∧ zs.length = cap ∧ (∀ i, i < zs.length → w.cell? (x.add i) = some (.int k (zs.getD i 0))) ∧ ∀ n ∈ zs, (Lit.int k n).wf = true
theorem cells5 : Try.prog.cellsOf 5 = 1 := by kernel_rfl
theorem arr3 {cs : Array Value} (h : cs.size = 3) : ∃ x0 x1 x2, cs = #[x0, x1, x2] := by
  obtain ⟨l⟩ := cs
  match l, h with
  | [x0, x1, x2], _ => exact ⟨x0, x1, x2, rfl⟩
theorem arr7 {cs : Array Value} (h : cs.size = 7) : ∃ x0 x1 x2 x3 x4 x5 x6, cs = #[x0, x1, x2, x3, x4, x5, x6] := by
  obtain ⟨l⟩ := cs
  match l, h with
  | [x0, x1, x2, x3, x4, x5, x6], _ => exact ⟨x0, x1, x2, x3, x4, x5, x6, rfl⟩
set_option maxRecDepth 100000 in
theorem lifted (os : Os) (started : os.Started) (H : Type) (enc : TypeId × Value → H) :
    ReturnsInHanded {} Try.checked os 5 .any (Rows.estimateGroupsSpec.pre6 enc Try.prog Try.f5 Rows.estimateGroupsRow.domain false) (Rows.estimateGroupsSpec.post enc Try.prog Try.f5 false true false false) := by
  refine returnsInHanded_of_change_sized (C := Try.checked) own started (by kernel_rfl) Try.func5
    (ChangeSpec.witness6 (enc := enc) (C := Try.checked) false ⟨#[], #[.agg #[.slice none 0 0, .int .i8 0, .int .i8 0, .int .i8 0, .int .i8 0, .slice none 0 0, .int .u8 0], .agg #[.int .u8 0, .int .u8 0, .int .u8 0], .int .i64 0], []⟩ 8 (by kernel_rfl) (by kernel_rfl) (by kernel_rfl) (by kernel_rfl)) ?_
  intro W base args ds gs before hval0 hW hcnd hsz0 _
  have hsz : (DataW.weightsEach Try.prog (Try.f5.params.toList ++ Rows.estimateGroupsSpec.plain.varTypes Try.prog) (ds ++ gs)).all (· ≤ reachBytes) = true := hsz0
  have hval : ∀ (j : Nat) t v, Try.f5.params[j]? = some t → args[j]? = some v → Value.okWide Try.prog W .any base t v := hval0
  have hW' := hW
  obtain ⟨p, q, hA0, hV, rfl, hfz, hnd⟩ := hW
  have hA : DataW.TrodAll enc Try.prog W 0 (fun _ => true) true Try.f5.params.toList args.toList ds p := hA0
  rw [Try.params5] at hA hval hsz
  obtain ⟨v0, vs0, d0, ds0, p0, q0, hargs, rfl, rfl, h0, r0⟩ := trodAll_cons hA
  obtain ⟨v1, vs1, d1, ds1, p1, q1, rfl, rfl, rfl, h1, r1⟩ := trodAll_cons r0
  obtain ⟨v2, vs2, d2, ds2, p2, q2, rfl, rfl, rfl, h2, r2⟩ := trodAll_cons r1
  obtain ⟨rfl, rfl, rfl⟩ := trodAll_nil r2
  obtain rfl : args = #[v0, v1, v2] := by cases args; simp_all
  obtain ⟨rfl, rfl⟩ := trodVars_none hV
  obtain ⟨cs0, rfl, hz0⟩ : ∃ cs, v0 = .agg cs ∧ cs.size = 7 := by
    have h := hval 0 27 v0 rfl rfl
    simp only [Value.okWide, Try.underlying27] at h
    obtain ⟨cs, e1, e2, _⟩ := h
    exact ⟨cs, e1, e2.trans (by kernel_rfl)⟩
  obtain ⟨c0_0, c0_1, c0_2, c0_3, c0_4, c0_5, c0_6, rfl⟩ := arr7 hz0
  have k0 := h0
  have lt0 : ∀ x ∈ p0, x.block < W.heap.size := by obtain ⟨m, hm⟩ := k0; exact DataW.trod_lt m _ _ _ hm
  obtain ⟨fuel0, hf0⟩ := id h0
  obtain ⟨A0, u0, B0, v0, l0, o0_1, o0_2, o0_3, o0_4, y0, g0, he0, hr0_1, hc0_1, hr0_2, hc0_2, ht0, ho0, hy0, hg0⟩ := RowS.story_of (cs := [c0_0, c0_1, c0_2, c0_3, c0_4, c0_5, c0_6]) rfl hf0
  simp only [List.cons.injEq, and_true] at he0
  obtain ⟨rfl, rfl, rfl, rfl, rfl, rfl, rfl⟩ := he0
  obtain ⟨cs1, rfl, hz1⟩ : ∃ cs, v1 = .agg cs ∧ cs.size = 3 := by
    have h := hval 1 28 v1 rfl rfl
    simp only [Value.okWide, Try.underlying28] at h
    obtain ⟨cs, e1, e2, _⟩ := h
    exact ⟨cs, e1, e2.trans (by kernel_rfl)⟩
  obtain ⟨c1_0, c1_1, c1_2, rfl⟩ := arr3 hz1
  have k1 := h1
  have lt1 : ∀ x ∈ p1, x.block < W.heap.size := by obtain ⟨m, hm⟩ := k1; exact DataW.trod_lt m _ _ _ hm
  obtain ⟨fuel1, hf1⟩ := id h1
  obtain ⟨xs1, n1, _, _, _, hl1, hg1⟩ := DataW.trod_array Try.underlying28 hf1
  obtain ⟨x1_0, g1_0⟩ : ∃ x, DataW.trod enc Try.prog W 0 (fun _ => true) true n1 5 [c1_0] = some x := by
    have g := hg1 0 (by omega)
    obtain ⟨x, hx⟩ : ∃ x, xs1[0]? = some x := ⟨_, List.getElem?_eq_getElem (by rw [hl1]; decide)⟩
    rw [hx] at g
    exact ⟨x, by simpa [Value.cells, cells5] using g⟩
  obtain ⟨a1_0, e1_0, _, w1_0⟩ := DataW.trod_int Try.underlying5 g1_0
  obtain rfl : c1_0 = .int .u8 a1_0 := by simpa using e1_0
  obtain ⟨x1_1, g1_1⟩ : ∃ x, DataW.trod enc Try.prog W 0 (fun _ => true) true n1 5 [c1_1] = some x := by
    have g := hg1 1 (by omega)
    obtain ⟨x, hx⟩ : ∃ x, xs1[1]? = some x := ⟨_, List.getElem?_eq_getElem (by rw [hl1]; decide)⟩
    rw [hx] at g
    exact ⟨x, by simpa [Value.cells, cells5] using g⟩
  obtain ⟨a1_1, e1_1, _, w1_1⟩ := DataW.trod_int Try.underlying5 g1_1
  obtain rfl : c1_1 = .int .u8 a1_1 := by simpa using e1_1
  obtain ⟨x1_2, g1_2⟩ : ∃ x, DataW.trod enc Try.prog W 0 (fun _ => true) true n1 5 [c1_2] = some x := by
    have g := hg1 2 (by omega)
    obtain ⟨x, hx⟩ : ∃ x, xs1[2]? = some x := ⟨_, List.getElem?_eq_getElem (by rw [hl1]; decide)⟩
    rw [hx] at g
    exact ⟨x, by simpa [Value.cells, cells5] using g⟩
  obtain ⟨a1_2, e1_2, _, w1_2⟩ := DataW.trod_int Try.underlying5 g1_2
  obtain rfl : c1_2 = .int .u8 a1_2 := by simpa using e1_2
  obtain ⟨a2, rfl, rfl, rfl, w2⟩ := open_int Try.underlying3 (hval 2 3 v2 rfl rfl) h2
  clear hA0 hval0 hsz0 hsz
  obtain ⟨k, h⟩ := Pure.EstimateGroups l0 o0_1 o0_2 o0_3 o0_4 y0 g0 a1_0 a1_1 a1_2 a2 ht0 ho0 hy0 hg0 hr0_1.2.1 hr0_2.2.1 w1_0 w1_1 w1_2 w2
  refine (sleuthlaw25_EstimateGroups.calls k _ _ l0 o0_1 o0_2 o0_3 o0_4 _ _ y0 g0 a1_0 a1_1 a1_2 a2 true W hr0_1 hc0_1 hr0_2 hc0_2 h).mono fun e W' ⟨he, bel⟩ => ?_
  subst he
  exact ⟨_, rfl, _, _, _, [], _, [], hW', trodAll_mk1 (shut_bool Try.underlying4 _), (trodAll_cons_mk (Below.trod laidOut (by kernel_rfl) (of_decide_eq_true (by kernel_rfl)) k0 bel lt0) (trodAll_cons_mk (Below.trod laidOut (by kernel_rfl) (of_decide_eq_true (by kernel_rfl)) k1 bel lt1) (trodAll_cons_mk (shut_int Try.underlying3 w2) trodAll_mk0))), rfl, bel.frame _, fun h => by cases h⟩
theorem over : Rows.estimateGroupsRow.holds Try.pinned (OpenSpec.ofChange Rows.estimateGroupsSpec) :=
  OpenClaim.holds_of_wide 5 Try.f5 rfl rfl rfl rfl rfl rfl rfl ⟨rfl, rfl, rfl, rfl, rfl⟩ rfl rfl rfl rfl rfl (by kernel_rfl) Try.func5 (by kernel_rfl)
    (of_decide_eq_true (by kernel_rfl)) (by unfold Func.isWrapper; first | (rw [if_pos (by decide +kernel)]; kernel_rfl) | (rw [if_neg (by decide +kernel)]; exact ⟨rfl, rfl⟩))
    (fun os started H enc _ => lifted os started H enc)
theorem proved : Rows.EstimateGroupsSaid := over
#print axioms proved
end Go.Proofs.Ythdifdnjodbdnaa.estimateGroups
namespace Go.Proofs.Ythdifdnjodbdnaa
/-- The row, under a short name, for the claim. -/
theorem estimateGroups_holds : Rows.EstimateGroupsSaid := estimateGroups.proved
end Go.Proofs.Ythdifdnjodbdnaa
