/- The law Counts: the plain side. -/
import Derived.Test.YtiimanpmidnffaaKnown
import Derived.Test.YtiimanpmidnffaaSegT
import Derived.Test.YtiimanpmidnffaaQyc
namespace Go.Proofs.Ytiimanpmidnffaa.Seg
open Go.RowKit Go.Proofs.YtiimanpmidnffaaW.PrintWords Go.Proofs.YtiimanpmidnffaaW.PrintLast Go.Proofs.YtiimanpmidnffaaW.PrintMore Go.Proofs.Ytiimanpmidnffaa.Q
set_option linter.unusedVariables false
set_option linter.unusedSimpArgs false
theorem rd27 (xs : List S27) (i : Nat) : rd_T27 xs (i : Int) = xs.getD i z27 := rfl
theorem rbest_cb (l : List Int) (h : chk l 0 = 0) (hn : l.length ≤ 60) (j : Nat) {n : Int} {c : List Int} (hb : CB l j l.length n c) : Ev (fun k => sleuthlaw44_best.f k l 0 (j : Int)) (c, n) := by
  obtain ⟨r, ha, hev⟩ := rbest_ev l 0 (j : Int) h hn
  rcases ha with ⟨_, _, hno⟩ | ⟨hp, hc, hm⟩
  · exact absurd (fun _ => by rw [hb.len]) (hno c n hb.cut)
  · have hcb : CB l j l.length r.2 r.1 := ⟨hc, by have := hp (by omega); omega, fun c' n' h1 h2 => hm c' n' h1 (fun _ => by rw [h2])⟩
    obtain ⟨e1, e2⟩ := hb.uniq hcb
    rw [e1, e2]
    exact hev
theorem counts_loop (l : List Int) (h : chk l 0 = 0) (hn : l.length ≤ 60) (out : List S27) (hO : OOk l out) (ho : out.length ≤ l.length) : ∀ (d i : Nat), out.length - i = d → i ≤ out.length →
    Ev (fun k => sleuthlaw44_SegmentationCounts.l0 k l out (i : Int)) true := by
  intro d
  induction d with
  | zero =>
    intro i hd hi
    refine Ev.step (f := fun _ => some true) (fun k => ?_) (Ev.now _)
    simp only [sleuthlaw44_SegmentationCounts.l0]
    rw [if_neg (by omega)]
  | succ d ih =>
    intro i hd hi
    have hlt : i < out.length := by omega
    have hcb := hO i hlt
    have hev := rbest_cb l h hn i hcb
    have hcl := hcb.len
    have n1 := ih (i + 1) (by omega) (by omega)
    have hs := same_true (out.getD i z27).f0 (by omega)
    refine Ev.step (fun k => ?_) (Ev.bind (f := fun (k : Nat) (bt412 : List Int × Int) => if 0 ≤ (i : Int) then ((sleuthlaw44_same.f k ((rd_T27 out (i : Int)).f0) bt412.1).bind fun t418 => (if t418 = true then (if ((rd_T27 out (i : Int)).f1) = bt412.2 then (sleuthlaw44_SegmentationCounts.l0 k l out (wrap64 ((i : Int) + 1))) else (some false)) else (some false))) else (none)) hev ?_)
    · simp only [sleuthlaw44_SegmentationCounts.l0]
      rw [if_pos (by omega)]
    · refine Ev.congr (fun k => if_pos (by omega)) ?_
      rw [rd27]
      refine Ev.bind hs ?_
      refine Ev.congr (fun k => ?_) n1
      rw [if_pos rfl, if_pos rfl, w64 (x := (i : Int) + 1) (by omega) (by omega)]
      rfl
theorem lawCounts (l0 : List Int) (a1 : Int) (h0 : ∀ x ∈ l0, 0 ≤ x ∧ x ≤ 255) : Ev (fun k => sleuthlaw44_SegmentationCounts.f k l0 a1) true := by
  obtain ⟨hne, hlen, hx⟩ := pnts_ok l0
  have hc := chk_pnts l0 (p := 0) (by omega) (by omega)
  have hpos : 0 < (pnts l0).length := List.length_pos_iff.2 hne
  unfold sleuthlaw44_SegmentationCounts.f
  refine Ev.bind known_ev ?_
  simp only [if_true]
  refine Ev.bind (points_ev l0 h0) ?_
  by_cases hneg : a1 < 0
  · refine Ev.bind (counts_neg (pnts l0) a1 hc hneg) ?_
    exact Ev.congr (fun k => by rw [if_pos hneg]; rfl) (Ev.now true)
  · obtain ⟨out, ho, hO, hev⟩ := counts_ev (pnts l0) a1 hc (by omega)
    refine Ev.bind hev ?_
    have emn : wrap64 (mn a1 (wrap64 (((pnts l0).length : Int) - 1)) + 1) = (out.length : Int) := by
      rw [w64 (x := ((pnts l0).length : Int) - 1) (by omega) (by omega)]
      unfold mn
      split
      · rw [w64 (by omega) (by omega)]; omega
      · rw [w64 (by omega) (by omega)]; omega
    refine Ev.congr (f := fun k => sleuthlaw44_SegmentationCounts.j0 k (pnts l0) out false) (fun k => ?_) ?_
    · rw [if_neg hneg, if_pos rfl, emn]
      simp
    · refine Ev.step (fun k => ?_) (counts_loop (pnts l0) hc (by omega) out hO (by omega) _ 0 rfl (Nat.zero_le _))
      simp only [sleuthlaw44_SegmentationCounts.j0]
      rw [if_neg (by decide)]
      rfl
end Go.Proofs.Ytiimanpmidnffaa.Seg
