/- The statement SegmentationVerifies: the law's function answers true at every argument that the statement allows. It stands on no further condition. -/
import Derived.Test.YtiimanpmidnffaaRows
import Derived.Test.YtiimanpmidnffaaQx13
import Derived.Test.YtiimanpmidnffaaPureSegmentationVerifies
import Derived.WalkKit
import Derived.ProofKit
import Derived.OpenShut
import Derived.ShutString
import Derived.ChangeOld
import Derived.Below
import Derived.SizedLaws
import Derived.Test.YtiimanpmidnffaaWSized
namespace Go.Proofs.Ytiimanpmidnffaa.segmentationVerifies
open Go.ChangeShapes Go.WideShapes Go.ChangeAt Go.RowKit
open Go.ChangeMaps (open_string shut_string)
open Go.Proofs.YtiimanpmidnffaaW.PrintWords Go.Proofs.YtiimanpmidnffaaW.PrintLast Go.Proofs.YtiimanpmidnffaaW.PrintMore Go.Proofs.Ytiimanpmidnffaa.Q
set_option linter.unusedVariables false
set_option linter.unusedSimpArgs false
theorem own : ownKnob Try.prog.godebug = none := by kernel_rfl
theorem laidOut : laidOutB Try.prog = true := by kernel_rfl
def IsRow (k : IntKind) (w : World) (a : Option Addr) (len cap : Nat) (zs : List Int) : Prop :=
  (a = none ∧ len = 0 ∧ cap = 0 ∧ zs = []) ∨
  ∃ x, a = some x ∧ len ≤ cap ∧ cap ≤ maxLen ∧ zs.length = cap ∧ (∀ i, i < zs.length → w.cell? (x.add i) = some (.int k (zs.getD i 0))) ∧ ∀ n ∈ zs, (Lit.int k n).wf = true
theorem cells4 : Try.prog.cellsOf 4 = 1 := by kernel_rfl
theorem cells24 : Try.prog.cellsOf 24 = 1 := by kernel_rfl
theorem cells38 : Try.prog.cellsOf 38 = 1 := by kernel_rfl
theorem cells39 : Try.prog.cellsOf 39 = 1 := by kernel_rfl
theorem arr4 {cs : Array Value} (h : cs.size = 4) : ∃ x0 x1 x2 x3, cs = #[x0, x1, x2, x3] := by
  obtain ⟨l⟩ := cs
  match l, h with
  | [x0, x1, x2, x3], _ => exact ⟨x0, x1, x2, x3, rfl⟩
set_option maxRecDepth 100000 in
theorem lifted (os : Os) (started : os.Started) (H : Type) (enc : TypeId × Value → H) :
    ReturnsInHanded {} Try.checked os 5 .any (Rows.segmentationVerifiesSpec.pre6 enc Try.prog Try.f5 Rows.segmentationVerifiesRow.domain false) (Rows.segmentationVerifiesSpec.post enc Try.prog Try.f5 false true false false) := by
  refine returnsInHanded_of_change_sized (C := Try.checked) own started (by kernel_rfl) Try.func5
    (ChangeSpec.witness6 (enc := enc) (C := Try.checked) false ⟨#[], #[.slice none 0 0, .int .u8 0, .agg #[.slice none 0 0, .slice none 0 0, .int .i8 0, .bool false]], []⟩ 8 (by kernel_rfl) (by kernel_rfl) (by kernel_rfl) (by kernel_rfl)) ?_
  intro W base args ds gs before hval0 hW hcnd hsz0 _
  have hsz : (DataW.weightsEach Try.prog (Try.f5.params.toList ++ Rows.segmentationVerifiesSpec.plain.varTypes Try.prog) (ds ++ gs)).all (· ≤ reachBytes) = true := hsz0
  have hval : ∀ (j : Nat) t v, Try.f5.params[j]? = some t → args[j]? = some v → Value.okWide Try.prog W .any base t v := hval0
  have hW' := hW
  obtain ⟨p, q, hA0, hV, rfl, hfz, hnd⟩ := hW
  have hA : DataW.TrodAll enc Try.prog W 0 (fun _ => true) true Try.f5.params.toList args.toList ds p := hA0
  rw [Try.params5] at hA hval hsz
  obtain ⟨v0, vs0, d0, ds0, p0, q0, hargs, rfl, rfl, h0, r0⟩ := trodAll_cons hA
  obtain ⟨v1, vs1, d1, ds1, p1, q1, rfl, rfl, rfl, h1, r1⟩ := trodAll_cons r0
  obtain ⟨v2, vs2, d2, ds2, p2, q2, rfl, rfl, rfl, h2, r2⟩ := trodAll_cons r1
  obtain ⟨rfl, rfl, rfl⟩ := trodAll_nil r2
  obtain rfl : args = #[v0, v1, v2] := by cases args; simp_all
  obtain ⟨rfl, rfl⟩ := trodVars_none hV
  obtain ⟨a0, len0, cap0, rfl⟩ := okWide_slice Try.underlying22 (hval 0 22 v0 rfl rfl)
  have k0 := h0
  have lt0 : ∀ x ∈ p0, x.block < W.heap.size := by obtain ⟨m, hm⟩ := k0; exact DataW.trod_lt m _ _ _ hm
  obtain ⟨fuel0, hf0⟩ := id h0
  obtain ⟨z0, w0⟩ : ∃ zs, IsRow .u8 W a0 len0 cap0 zs := by
    rcases open_ints Try.underlying22 Try.underlying5 (by kernel_rfl) hf0 with ⟨hcs, _⟩ | ⟨x, l, c, zs, hcs, _, hl, hm, hz, _, hcell, hwz⟩
    · simp [Value.cells] at hcs
      obtain ⟨rfl, rfl, rfl⟩ := hcs
      exact ⟨[], .inl ⟨rfl, rfl, rfl, rfl⟩⟩
    · simp [Value.cells] at hcs
      obtain ⟨rfl, rfl, rfl⟩ := hcs
      exact ⟨zs, .inr ⟨_, rfl, hl, hm, by simpa using hz, hcell, hwz⟩⟩
  have y0 : len0 * 1 ≤ 140737488351232 := Go.Proofs.YtiimanpmidnffaaW.PrintWords.sized_ints hsz (j := 0) (t := 22) rfl rfl Try.underlying22 Try.underlying5 (by kernel_rfl) (by kernel_rfl) h0
  obtain ⟨l0, rfl, hr0, hm0, hw0, hc0⟩ := ReadsInt.ofRowC w0
  obtain ⟨a1, rfl, rfl, rfl, w1⟩ := open_int Try.underlying5 (hval 1 5 v1 rfl rfl) h1
  obtain ⟨cs2, rfl, hz2⟩ : ∃ cs, v2 = .agg cs ∧ cs.size = 4 := by
    have h := hval 2 41 v2 rfl rfl
    simp only [Value.okWide, Try.underlying41] at h
    obtain ⟨cs, e1, e2, _⟩ := h
    exact ⟨cs, e1, e2.trans (by kernel_rfl)⟩
  obtain ⟨c2_0, c2_1, c2_2, c2_3, rfl⟩ := arr4 hz2
  have k2 := h2
  have lt2 : ∀ x ∈ p2, x.block < W.heap.size := by obtain ⟨m, hm⟩ := k2; exact DataW.trod_lt m _ _ _ hm
  obtain ⟨fuel2, hf2⟩ := id h2
  obtain ⟨xs2, n2, _, _, _, hl2, hg2⟩ := DataW.trod_struct Try.underlying41 hf2
  obtain ⟨x2_0, g2_0⟩ : ∃ x, DataW.trod enc Try.prog W 0 (fun _ => true) true n2 38 [c2_0] = some x := by
    have g := hg2 0 _ rfl
    obtain ⟨x, hx⟩ : ∃ x, xs2[0]? = some x := ⟨_, List.getElem?_eq_getElem (by rw [hl2]; decide)⟩
    rw [hx] at g
    exact ⟨x, by simpa [Value.cells, cells38] using g⟩
  obtain ⟨a2_0, len2_0, cap2_0, rfl⟩ : ∃ a l c, c2_0 = .slice a l c := by
    rcases open_ints Try.underlying38 Try.underlying39 (by kernel_rfl) g2_0 with ⟨hcs, _⟩ | ⟨x, l, c, zs, hcs, _⟩
    · exact ⟨_, _, _, by simpa using hcs⟩
    · exact ⟨_, _, _, by simpa using hcs⟩
  obtain ⟨z2_0, w2_0⟩ : ∃ zs, IsRow .i8 W a2_0 len2_0 cap2_0 zs := by
    rcases open_ints Try.underlying38 Try.underlying39 (by kernel_rfl) g2_0 with ⟨hcs, _⟩ | ⟨x, l, c, zs, hcs, _, hl, hm, hz, _, hcell, hwz⟩
    · simp [Value.cells] at hcs
      obtain ⟨rfl, rfl, rfl⟩ := hcs
      exact ⟨[], .inl ⟨rfl, rfl, rfl, rfl⟩⟩
    · simp [Value.cells] at hcs
      obtain ⟨rfl, rfl, rfl⟩ := hcs
      exact ⟨zs, .inr ⟨_, rfl, hl, hm, by simpa using hz, hcell, hwz⟩⟩
  obtain ⟨l2_0, rfl, hr2_0, hm2_0, hw2_0, hc2_0⟩ := ReadsInt.ofRowC w2_0
  obtain ⟨x2_1, g2_1⟩ : ∃ x, DataW.trod enc Try.prog W 0 (fun _ => true) true n2 24 [c2_1] = some x := by
    have g := hg2 1 _ rfl
    obtain ⟨x, hx⟩ : ∃ x, xs2[1]? = some x := ⟨_, List.getElem?_eq_getElem (by rw [hl2]; decide)⟩
    rw [hx] at g
    exact ⟨x, by simpa [Value.cells, cells24] using g⟩
  obtain ⟨a2_1, len2_1, cap2_1, rfl⟩ : ∃ a l c, c2_1 = .slice a l c := by
    rcases open_ints Try.underlying24 Try.underlying3 (by kernel_rfl) g2_1 with ⟨hcs, _⟩ | ⟨x, l, c, zs, hcs, _⟩
    · exact ⟨_, _, _, by simpa using hcs⟩
    · exact ⟨_, _, _, by simpa using hcs⟩
  obtain ⟨z2_1, w2_1⟩ : ∃ zs, IsRow .i64 W a2_1 len2_1 cap2_1 zs := by
    rcases open_ints Try.underlying24 Try.underlying3 (by kernel_rfl) g2_1 with ⟨hcs, _⟩ | ⟨x, l, c, zs, hcs, _, hl, hm, hz, _, hcell, hwz⟩
    · simp [Value.cells] at hcs
      obtain ⟨rfl, rfl, rfl⟩ := hcs
      exact ⟨[], .inl ⟨rfl, rfl, rfl, rfl⟩⟩
    · simp [Value.cells] at hcs
      obtain ⟨rfl, rfl, rfl⟩ := hcs
      exact ⟨zs, .inr ⟨_, rfl, hl, hm, by simpa using hz, hcell, hwz⟩⟩
  obtain ⟨l2_1, rfl, hr2_1, hm2_1, hw2_1, hc2_1⟩ := ReadsInt.ofRowC w2_1
  obtain ⟨x2_2, g2_2⟩ : ∃ x, DataW.trod enc Try.prog W 0 (fun _ => true) true n2 39 [c2_2] = some x := by
    have g := hg2 2 _ rfl
    obtain ⟨x, hx⟩ : ∃ x, xs2[2]? = some x := ⟨_, List.getElem?_eq_getElem (by rw [hl2]; decide)⟩
    rw [hx] at g
    exact ⟨x, by simpa [Value.cells, cells39] using g⟩
  obtain ⟨a2_2, e2_2, _, w2_2⟩ := DataW.trod_int Try.underlying39 g2_2
  obtain rfl : c2_2 = .int .i8 a2_2 := by simpa using e2_2
  obtain ⟨x2_3, g2_3⟩ : ∃ x, DataW.trod enc Try.prog W 0 (fun _ => true) true n2 4 [c2_3] = some x := by
    have g := hg2 3 _ rfl
    obtain ⟨x, hx⟩ : ∃ x, xs2[3]? = some x := ⟨_, List.getElem?_eq_getElem (by rw [hl2]; decide)⟩
    rw [hx] at g
    exact ⟨x, by simpa [Value.cells, cells4] using g⟩
  obtain ⟨a2_3, e2_3, _⟩ := DataW.trod_bool Try.underlying4 g2_3
  obtain rfl : c2_3 = .bool a2_3 := by simpa using e2_3
  clear hA0 hval0 hsz0 hsz
  obtain ⟨k, h⟩ := Pure.SegmentationVerifies l0 a1 l2_0 l2_1 a2_2 a2_3 hm0 y0 hw0 w1 hm2_0 hw2_0 hm2_1 hw2_1 w2_2
  refine (sleuthlaw44_SegmentationVerifies.calls k _ _ l0 a1 _ _ l2_0 _ _ l2_1 a2_2 a2_3 true W (Kd.C_of_reads (d := (0 : Int)) (h1 := fun _ => rfl) hr0) hc0 (Kd.C_of_reads (d := (0 : Int)) (h1 := fun _ => rfl) hr2_0) hc2_0 (Kd.C_of_reads (d := (0 : Int)) (h1 := fun _ => rfl) hr2_1) hc2_1 h).mono fun e W' ⟨he, bel⟩ => ?_
  subst he
  exact ⟨_, rfl, _, _, _, [], _, [], hW', trodAll_mk1 (shut_bool Try.underlying4 _), (trodAll_cons_mk (Below.trod laidOut (by kernel_rfl) (of_decide_eq_true (by kernel_rfl)) k0 bel lt0) (trodAll_cons_mk (shut_int Try.underlying5 w1) (trodAll_cons_mk (Below.trod laidOut (by kernel_rfl) (of_decide_eq_true (by kernel_rfl)) k2 bel lt2) trodAll_mk0))), rfl, bel.frame _, fun h => by cases h⟩
theorem over : Rows.segmentationVerifiesRow.holds Try.pinned (OpenSpec.ofChange Rows.segmentationVerifiesSpec) :=
  OpenClaim.holds_of_wide 5 Try.f5 rfl rfl rfl rfl rfl rfl rfl ⟨rfl, rfl, rfl, rfl, rfl⟩ rfl rfl rfl rfl rfl (by kernel_rfl) Try.func5 (by kernel_rfl)
    (of_decide_eq_true (by kernel_rfl)) (by unfold Func.isWrapper; first | (rw [if_pos (by decide +kernel)]; kernel_rfl) | (rw [if_neg (by decide +kernel)]; exact ⟨rfl, rfl⟩))
    (fun os started H enc _ => lifted os started H enc)
theorem proved : Rows.SegmentationVerifiesSaid := over
#print axioms proved
end Go.Proofs.Ytiimanpmidnffaa.segmentationVerifies
namespace Go.Proofs.Ytiimanpmidnffaa
/-- The row, under a short name, for the claim. -/
theorem segmentationVerifies_holds : Rows.SegmentationVerifiesSaid := segmentationVerifies.proved
end Go.Proofs.Ytiimanpmidnffaa
