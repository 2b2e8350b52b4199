/- The known example. -/
import Derived.Test.YtiimanpmidnffaaSegI
namespace Go.Proofs.Ytiimanpmidnffaa.Seg
open Go.RowKit Go.Proofs.YtiimanpmidnffaaW.PrintWords Go.Proofs.YtiimanpmidnffaaW.PrintLast Go.Proofs.YtiimanpmidnffaaW.PrintMore Go.Proofs.Ytiimanpmidnffaa.Q
set_option linter.unusedVariables false
set_option linter.unusedSimpArgs false
theorem Ev.same {α : Type} {g : Nat → Option α} {r s : α} (h : Ev g r) (h' : Ev g s) : r = s := by
  obtain ⟨a, ha⟩ := h
  obtain ⟨b, hb⟩ := h'
  have h1 := ha (max a b) (by omega)
  have h2 := hb (max a b) (by omega)
  rw [h1] at h2
  exact Option.some.inj h2
theorem IsPot.proves {l : List Int} {p : Int} {f : List Int} {n : Int} {c : List Int} (hf : IsPot l p f) (hb : Best l p l.length n c) : Proves l p f c n := by
  obtain ⟨f1, f2, f3⟩ := hf
  have hl := hb.cut.pos
  refine ⟨hb.cut.total, f1, f2, ?_, ?_⟩
  · obtain ⟨c', h'⟩ := f3 l.length hl (Nat.le_refl _)
    exact (h'.uniq hb).1
  · intro t h1 ht q hq
    obtain ⟨c', h'⟩ := f3 t h1 ht
    rcases Nat.eq_zero_or_pos q with h0 | h0
    · subst h0
      exact h'.le (cand_cut (.inl ⟨rfl, f2, rfl⟩) hq)
    · obtain ⟨d, hd⟩ := f3 q h0 (by omega)
      exact h'.le (cand_cut (.inr hd) hq)
theorem verify_best {l : List Int} {p : Int} {f : List Int} {n : Int} {c : List Int} (h : chk l p = 0) (hf : IsPot l p f) (hb : Best l p l.length n c) : Ev (fun k => segmentation_Verify.f k l p f c n) 0 := by
  obtain ⟨hP, hl, h0, h1⟩ := chk_ok h
  have hll := hP.1
  obtain ⟨r, hr, _, hiff⟩ := verify_ev l p f c n h hb.cut.ok (by rw [hf.1]; omega)
  have : r = 0 := hiff.2 ⟨hf.proves hb, by
    intro x hx
    obtain ⟨i, hi, rfl⟩ := List.mem_iff_getElem.1 hx
    have e : f[i] = f.getD i 0 := by rw [List.getD_eq_getElem?_getD, List.getElem?_eq_getElem hi]; rfl
    rw [e]
    have hfl := hf.1
    rcases Nat.eq_zero_or_pos i with hz | hz
    · subst hz; rw [hf.2.1]; omega
    · obtain ⟨d, hd⟩ := hf.2.2 i hz (by omega)
      have := hd.cut.bd hP.2 h0 h1
      omega⟩
  subst this
  exact hr
theorem kb : segmentation_Best.f 60 [1, 1, 5, 5, 5] 2 = some ([2], 2, 0) := by kernel_rfl
theorem kp : segmentation_Potentials.f 60 [1, 1, 5, 5, 5] 2 = some ([-2, 0, 0, 2, 2, 2], 0) := by kernel_rfl
theorem known_ev : Ev (fun k => sleuthlaw44_known.f k) true := by
  have hc : chk [1, 1, 5, 5, 5] 2 = 0 := by decide
  have eb := Ev.of (fun k => segmentation_Best.mono [1, 1, 5, 5, 5] 2 k) kb
  have ep := Ev.of (fun k => segmentation_Potentials.mono [1, 1, 5, 5, 5] 2 k) kp
  obtain ⟨n, c, hB, e1⟩ := best_ev _ _ hc
  obtain ⟨f, hF, e2⟩ := pot_ev _ _ hc
  have hq := Ev.same e1 eb
  have hr := Ev.same e2 ep
  obtain ⟨rfl, hq2⟩ := Prod.mk.inj hq
  obtain ⟨rfl, _⟩ := Prod.mk.inj hq2
  obtain ⟨rfl, _⟩ := Prod.mk.inj hr
  have ev := verify_best hc hF hB
  have s1 : Ev (fun k => sleuthlaw44_same.f k [2] [2]) true := same_ev [2] [2] (by decide)
  have s2 : Ev (fun k => sleuthlaw44_same.f k [-2, 0, 0, 2, 2, 2] [-2, 0, 0, 2, 2, 2]) true := same_ev [-2, 0, 0, 2, 2, 2] [-2, 0, 0, 2, 2, 2] (by decide)
  unfold sleuthlaw44_known.f
  simp only [Option.bind_some]
  refine Ev.bind eb (Ev.bind ep ?_)
  simp only [if_true]
  refine Ev.bind s1 ?_
  simp only [if_true]
  refine Ev.bind s2 ?_
  simp only [if_true]
  refine Ev.bind (f := fun k (t295 : Int) => sleuthlaw44_known.j0 k (t295 == 0)) ev (Ev.step (f := fun _ => some true) (fun k => ?_) (Ev.now true))
  simp only [sleuthlaw44_known.j0]
  rfl
end Go.Proofs.Ytiimanpmidnffaa.Seg
