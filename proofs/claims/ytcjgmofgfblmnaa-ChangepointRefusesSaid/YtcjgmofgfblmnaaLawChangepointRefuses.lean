/- The statement ChangepointRefuses: the law's function answers true at every argument that the statement allows. It stands on no further condition. -/
import Derived.Test.YtcjgmofgfblmnaaRows
import Derived.Test.YtcjgmofgfblmnaaQgSleuthlaw45ChangepointRefuses
import Derived.Test.YtcjgmofgfblmnaaPureChangepointRefuses
import Derived.WalkKit
import Derived.ProofKit
import Derived.OpenShut
import Derived.ShutString
import Derived.ChangeOld
import Derived.Below
import Derived.SizedLaws
import Derived.Test.YtcjgmofgfblmnaaWd
namespace Go.Proofs.Ytcjgmofgfblmnaa.changepointRefuses
open Go.ChangeShapes Go.WideShapes Go.ChangeAt Go.RowKit
open Go.ChangeMaps (open_string shut_string)
open Go.Proofs.YtcjgmofgfblmnaaW.PrintWords Go.Proofs.YtcjgmofgfblmnaaW.PrintLast Go.Proofs.YtcjgmofgfblmnaaW.PrintMore Go.Proofs.Ytcjgmofgfblmnaa.Q
set_option linter.unusedVariables false
set_option linter.unusedSimpArgs false
theorem own : ownKnob Try.prog.godebug = none := by kernel_rfl
theorem laidOut : laidOutB Try.prog = true := by kernel_rfl
def IsRow (k : IntKind) (w : World) (a : Option Addr) (len cap : Nat) (zs : List Int) : Prop :=
  (a = none ∧ len = 0 ∧ cap = 0 ∧ zs = []) ∨
  ∃ x, a = some x ∧ len ≤ cap ∧ cap ≤ maxLen ∧ zs.length = cap ∧ (∀ i, i < zs.length → w.cell? (x.add i) = some (.int k (zs.getD i 0))) ∧ ∀ n ∈ zs, (Lit.int k n).wf = true
theorem cells3 : Try.prog.cellsOf 3 = 1 := by kernel_rfl
theorem cells9 : Try.prog.cellsOf 9 = 1 := by kernel_rfl
theorem cells25 : Try.prog.cellsOf 25 = 2 := by kernel_rfl
theorem cells26 : Try.prog.cellsOf 26 = 1 := by kernel_rfl
theorem arr7 {cs : Array Value} (h : cs.size = 7) : ∃ x0 x1 x2 x3 x4 x5 x6, cs = #[x0, x1, x2, x3, x4, x5, x6] := by
  obtain ⟨l⟩ := cs
  match l, h with
  | [x0, x1, x2, x3, x4, x5, x6], _ => exact ⟨x0, x1, x2, x3, x4, x5, x6, rfl⟩
set_option maxRecDepth 100000 in
theorem lifted (os : Os) (started : os.Started) (H : Type) (enc : TypeId × Value → H) :
    ReturnsInHanded {} Try.checked os 4 .any (Rows.changepointRefusesSpec.pre6 enc Try.prog Try.f4 Rows.changepointRefusesRow.domain false) (Rows.changepointRefusesSpec.post enc Try.prog Try.f4 false true false false) := by
  refine returnsInHanded_of_change_sized (C := Try.checked) own started (by kernel_rfl) Try.func4
    (ChangeSpec.witness6 (enc := enc) (C := Try.checked) false ⟨#[], #[.agg #[.string ⟨#[]⟩, .string ⟨#[]⟩, .int .i64 0, .int .i64 0, .int .i64 0, .int .i64 0, .slice none 0 0], .int .i64 0], []⟩ 8 (by kernel_rfl) (by kernel_rfl) (by kernel_rfl) (by kernel_rfl)) ?_
  intro W base args ds gs before hval0 hW hcnd hsz0 _
  have hsz : (DataW.weightsEach Try.prog (Try.f4.params.toList ++ Rows.changepointRefusesSpec.plain.varTypes Try.prog) (ds ++ gs)).all (· ≤ reachBytes) = true := hsz0
  have hval : ∀ (j : Nat) t v, Try.f4.params[j]? = some t → args[j]? = some v → Value.okWide Try.prog W .any base t v := hval0
  have hW' := hW
  obtain ⟨p, q, hA0, hV, rfl, hfz, hnd⟩ := hW
  have hA : DataW.TrodAll enc Try.prog W 0 (fun _ => true) true Try.f4.params.toList args.toList ds p := hA0
  rw [Try.params4] at hA hval hsz
  obtain ⟨v0, vs0, d0, ds0, p0, q0, hargs, rfl, rfl, h0, r0⟩ := trodAll_cons hA
  obtain ⟨v1, vs1, d1, ds1, p1, q1, rfl, rfl, rfl, h1, r1⟩ := trodAll_cons r0
  obtain ⟨rfl, rfl, rfl⟩ := trodAll_nil r1
  obtain rfl : args = #[v0, v1] := by cases args; simp_all
  obtain ⟨rfl, rfl⟩ := trodVars_none hV
  obtain ⟨cs0, rfl, hz0⟩ : ∃ cs, v0 = .agg cs ∧ cs.size = 7 := by
    have h := hval 0 28 v0 rfl rfl
    simp only [Value.okWide, Try.underlying28] at h
    obtain ⟨cs, e1, e2, _⟩ := h
    exact ⟨cs, e1, e2.trans (by kernel_rfl)⟩
  obtain ⟨c0_0, c0_1, c0_2, c0_3, c0_4, c0_5, c0_6, rfl⟩ := arr7 hz0
  have k0 := h0
  have lt0 : ∀ x ∈ p0, x.block < W.heap.size := by obtain ⟨m, hm⟩ := k0; exact DataW.trod_lt m _ _ _ hm
  obtain ⟨fuel0, hf0⟩ := id h0
  obtain ⟨xs0, n0, _, _, _, hl0, hg0⟩ := DataW.trod_struct Try.underlying28 hf0
  obtain ⟨x0_0, g0_0⟩ : ∃ x, DataW.trod enc Try.prog W 0 (fun _ => true) true n0 9 [c0_0] = some x := by
    have g := hg0 0 _ rfl
    obtain ⟨x, hx⟩ : ∃ x, xs0[0]? = some x := ⟨_, List.getElem?_eq_getElem (by rw [hl0]; decide)⟩
    rw [hx] at g
    exact ⟨x, by simpa [Value.cells, cells9] using g⟩
  obtain ⟨a0_0, e0_0, _, w0_0⟩ := DataW.trod_string Try.underlying9 g0_0
  obtain rfl : c0_0 = .string a0_0 := by simpa using e0_0
  obtain ⟨x0_1, g0_1⟩ : ∃ x, DataW.trod enc Try.prog W 0 (fun _ => true) true n0 9 [c0_1] = some x := by
    have g := hg0 1 _ rfl
    obtain ⟨x, hx⟩ : ∃ x, xs0[1]? = some x := ⟨_, List.getElem?_eq_getElem (by rw [hl0]; decide)⟩
    rw [hx] at g
    exact ⟨x, by simpa [Value.cells, cells9] using g⟩
  obtain ⟨a0_1, e0_1, _, w0_1⟩ := DataW.trod_string Try.underlying9 g0_1
  obtain rfl : c0_1 = .string a0_1 := by simpa using e0_1
  obtain ⟨x0_2, g0_2⟩ : ∃ x, DataW.trod enc Try.prog W 0 (fun _ => true) true n0 3 [c0_2] = some x := by
    have g := hg0 2 _ rfl
    obtain ⟨x, hx⟩ : ∃ x, xs0[2]? = some x := ⟨_, List.getElem?_eq_getElem (by rw [hl0]; decide)⟩
    rw [hx] at g
    exact ⟨x, by simpa [Value.cells, cells3] using g⟩
  obtain ⟨a0_2, e0_2, _, w0_2⟩ := DataW.trod_int Try.underlying3 g0_2
  obtain rfl : c0_2 = .int .i64 a0_2 := by simpa using e0_2
  obtain ⟨x0s3, g0s3⟩ : ∃ x, DataW.trod enc Try.prog W 0 (fun _ => true) true n0 25 [c0_3, c0_4] = some x := by
    have g := hg0 3 _ rfl
    obtain ⟨x, hx⟩ : ∃ x, xs0[3]? = some x := ⟨_, List.getElem?_eq_getElem (by rw [hl0]; decide)⟩
    rw [hx] at g
    exact ⟨x, by simpa [Value.cells, cells25] using g⟩
  obtain ⟨xs0s3, n0s3, _, _, _, hl0s3, hg0s3⟩ := DataW.trod_struct Try.underlying25 g0s3
  obtain ⟨x0_3, g0_3⟩ : ∃ x, DataW.trod enc Try.prog W 0 (fun _ => true) true n0s3 3 [c0_3] = some x := by
    have g := hg0s3 0 _ rfl
    obtain ⟨x, hx⟩ : ∃ x, xs0s3[0]? = some x := ⟨_, List.getElem?_eq_getElem (by rw [hl0s3]; decide)⟩
    rw [hx] at g
    exact ⟨x, by simpa [Value.cells, cells3] using g⟩
  obtain ⟨a0_3, e0_3, _, w0_3⟩ := DataW.trod_int Try.underlying3 g0_3
  obtain rfl : c0_3 = .int .i64 a0_3 := by simpa using e0_3
  obtain ⟨x0_4, g0_4⟩ : ∃ x, DataW.trod enc Try.prog W 0 (fun _ => true) true n0s3 3 [c0_4] = some x := by
    have g := hg0s3 1 _ rfl
    obtain ⟨x, hx⟩ : ∃ x, xs0s3[1]? = some x := ⟨_, List.getElem?_eq_getElem (by rw [hl0s3]; decide)⟩
    rw [hx] at g
    exact ⟨x, by simpa [Value.cells, cells3] using g⟩
  obtain ⟨a0_4, e0_4, _, w0_4⟩ := DataW.trod_int Try.underlying3 g0_4
  obtain rfl : c0_4 = .int .i64 a0_4 := by simpa using e0_4
  obtain ⟨x0_5, g0_5⟩ : ∃ x, DataW.trod enc Try.prog W 0 (fun _ => true) true n0 3 [c0_5] = some x := by
    have g := hg0 4 _ rfl
    obtain ⟨x, hx⟩ : ∃ x, xs0[4]? = some x := ⟨_, List.getElem?_eq_getElem (by rw [hl0]; decide)⟩
    rw [hx] at g
    exact ⟨x, by simpa [Value.cells, cells3] using g⟩
  obtain ⟨a0_5, e0_5, _, w0_5⟩ := DataW.trod_int Try.underlying3 g0_5
  obtain rfl : c0_5 = .int .i64 a0_5 := by simpa using e0_5
  obtain ⟨x0_6, g0_6⟩ : ∃ x, DataW.trod enc Try.prog W 0 (fun _ => true) true n0 26 [c0_6] = some x := by
    have g := hg0 5 _ rfl
    obtain ⟨x, hx⟩ : ∃ x, xs0[5]? = some x := ⟨_, List.getElem?_eq_getElem (by rw [hl0]; decide)⟩
    rw [hx] at g
    exact ⟨x, by simpa [Value.cells, cells26] using g⟩
  obtain ⟨a0_6, len0_6, cap0_6, rfl⟩ : ∃ a l c, c0_6 = .slice a l c := by
    rcases open_ints Try.underlying26 Try.underlying3 (by kernel_rfl) g0_6 with ⟨hcs, _⟩ | ⟨x, l, c, zs, hcs, _⟩
    · exact ⟨_, _, _, by simpa using hcs⟩
    · exact ⟨_, _, _, by simpa using hcs⟩
  obtain ⟨z0_6, w0_6⟩ : ∃ zs, IsRow .i64 W a0_6 len0_6 cap0_6 zs := by
    rcases open_ints Try.underlying26 Try.underlying3 (by kernel_rfl) g0_6 with ⟨hcs, _⟩ | ⟨x, l, c, zs, hcs, _, hl, hm, hz, _, hcell, hwz⟩
    · simp [Value.cells] at hcs
      obtain ⟨rfl, rfl, rfl⟩ := hcs
      exact ⟨[], .inl ⟨rfl, rfl, rfl, rfl⟩⟩
    · simp [Value.cells] at hcs
      obtain ⟨rfl, rfl, rfl⟩ := hcs
      exact ⟨zs, .inr ⟨_, rfl, hl, hm, by simpa using hz, hcell, hwz⟩⟩
  obtain ⟨l0_6, rfl, hr0_6, hm0_6, hw0_6, hc0_6⟩ := ReadsInt.ofRowC w0_6
  obtain ⟨a1, rfl, rfl, rfl, w1⟩ := open_int Try.underlying3 (hval 1 3 v1 rfl rfl) h1
  clear hA0 hval0 hsz0 hsz
  obtain ⟨k, h⟩ := Pure.ChangepointRefuses a0_0 a0_1 a0_2 a0_3 a0_4 a0_5 l0_6 a1 w0_0 w0_1 w0_2 w0_3 w0_4 w0_5 hm0_6 hw0_6 w1
  refine (sleuthlaw45_ChangepointRefuses.calls k a0_0 a0_1 a0_2 a0_3 a0_4 a0_5 _ _ l0_6 a1 true W (Kd.C_of_reads (d := (0 : Int)) (h1 := fun _ => rfl) hr0_6) hc0_6 h).mono fun e W' ⟨he, bel⟩ => ?_
  subst he
  exact ⟨_, rfl, _, _, _, [], _, [], hW', trodAll_mk1 (shut_bool Try.underlying4 _), (trodAll_cons_mk (Below.trod laidOut (by kernel_rfl) (of_decide_eq_true (by kernel_rfl)) k0 bel lt0) (trodAll_cons_mk (shut_int Try.underlying3 w1) trodAll_mk0)), rfl, bel.frame _, fun h => by cases h⟩
theorem over : Rows.changepointRefusesRow.holds Try.pinned (OpenSpec.ofChange Rows.changepointRefusesSpec) :=
  OpenClaim.holds_of_wide 4 Try.f4 rfl rfl rfl rfl rfl rfl rfl ⟨rfl, rfl, rfl, rfl, rfl⟩ rfl rfl rfl rfl rfl (by kernel_rfl) Try.func4 (by kernel_rfl)
    (of_decide_eq_true (by kernel_rfl)) (by unfold Func.isWrapper; first | (rw [if_pos (by decide +kernel)]; kernel_rfl) | (rw [if_neg (by decide +kernel)]; exact ⟨rfl, rfl⟩))
    (fun os started H enc _ => lifted os started H enc)
theorem proved : Rows.ChangepointRefusesSaid := over
#print axioms proved
end Go.Proofs.Ytcjgmofgfblmnaa.changepointRefuses
namespace Go.Proofs.Ytcjgmofgfblmnaa
/-- The row, under a short name, for the claim. -/
theorem changepointRefuses_holds : Rows.ChangepointRefusesSaid := changepointRefuses.proved
end Go.Proofs.Ytcjgmofgfblmnaa
