/- The law Raw: the plain side. -/
import Derived.Test.YtiimanpmidnffaaSegP
import Derived.Test.YtiimanpmidnffaaSegJ
import Derived.Test.YtiimanpmidnffaaQya
namespace Go.Proofs.Ytiimanpmidnffaa.Seg
open Go.RowKit Go.Proofs.YtiimanpmidnffaaW.PrintWords Go.Proofs.YtiimanpmidnffaaW.PrintLast Go.Proofs.YtiimanpmidnffaaW.PrintMore Go.Proofs.Ytiimanpmidnffaa.Q
set_option linter.unusedVariables false
set_option linter.unusedSimpArgs false
theorem and4095 (x : Int) : ∃ m : Nat, Go.bits .and .i64 x 4095 = (m : Int) := by
  refine ⟨((BitVec.ofInt 64 x) &&& (BitVec.ofInt 64 4095)).toNat, ?_⟩
  have h : ((BitVec.ofInt 64 x) &&& (BitVec.ofInt 64 4095)).toNat ≤ 4095 := by
    rw [BitVec.toNat_and]; exact Nat.le_trans Nat.and_le_right (by decide)
  show IntKind.wrap .i64 ((((BitVec.ofInt 64 x) &&& (BitVec.ofInt 64 4095)).toNat : Nat) : Int) = _
  generalize ((BitVec.ofInt 64 x) &&& (BitVec.ofInt 64 4095)).toNat = m at h ⊢
  have e : IntKind.wrap .i64 (m : Int) = wrap64 (m : Int) := by simp only [i64_w]
  rw [e, w64 (by omega) (by omega)]
theorem lawRaw (l : List Int) (p x : Int) (f : List Int) : Ev (fun k => sleuthlaw44_SegmentationRaw.f k l p x f) true := by
  have hj : Ev (fun k => sleuthlaw44_SegmentationRaw.j0 k l f true p x) true := by
    refine Ev.step (fun k => ?_) (Ev.bind (f := fun _ (t483 : Bool) => some t483) known_ev (Ev.now true))
    simp only [sleuthlaw44_SegmentationRaw.j0]
    rw [if_pos trivial]
  unfold sleuthlaw44_SegmentationRaw.f
  refine Ev.bind known_ev ?_
  simp only [if_true]
  by_cases h1 : (l.length : Int) > 12
  · exact Ev.congr (fun k => if_pos h1) hj
  · by_cases h2 : (f.length : Int) > 14
    · exact Ev.congr (fun k => by rw [if_neg h1, if_pos h2]) hj
    · refine Ev.congr (fun k => by rw [if_neg h1, if_neg h2]) (Ev.bind (f := fun (k : Nat) (t360 : Int) => sleuthlaw44_SegmentationRaw.j0 k l f (t360 != 0) p x) (pcheck_ev l p) ?_)
      by_cases hc : chk l p = 0
      · rw [hc]
        obtain ⟨hP, hl, hp0, hp1⟩ := chk_ok hc
        obtain ⟨m, em⟩ := and4095 x
        obtain ⟨n, c, hB, hb⟩ := best_ev l p hc
        have hcut := cutsOf_ev m l.length (by omega)
        have hok := cutsN_ok m l.length
        have htb := tot_bd hP hl hp0 hp1 hok
        have hT := rtotal_ev l p (cutsN m l.length) hc (by omega)
        rw [if_pos hok] at hT
        obtain ⟨r1, hr1, hr1a, _⟩ := verify_ev l p f c n hc hB.cut.ok (by omega)
        obtain ⟨r2, hr2, hr2a, hr2b⟩ := verify_ev l p f (cutsN m l.length) (tot l p (cutsN m l.length)) hc hok (by omega)
        have hle := hB.le (Cut.mk hl hok)
        refine Ev.step (f := fun k => (segmentation_Best.f k l p).bind fun bt362 => ((sleuthlaw44_cutsOf.f k (Go.bits .and .i64 x 4095) (l.length : Int)).bind fun t368 => ((sleuthlaw44_total.f k l p t368).bind fun bt371 => ((segmentation_Verify.f k l p f bt362.1 bt362.2.1).bind fun t373 => ((sleuthlaw44_cutsOf.f k (Go.bits .and .i64 x 4095) (l.length : Int)).bind fun t374 => ((segmentation_Verify.f k l p f t374 bt371.1).bind fun t378 => (sleuthlaw44_SegmentationRaw.j1 k bt362.2.2 bt371.1 bt371.2 t373 t378 bt362.1 bt362.2.1))))))) (fun k => ?_) ?_
        · simp only [sleuthlaw44_SegmentationRaw.j0]
          rw [if_neg (by decide)]
        · rw [em]
          refine Ev.bind hb (Ev.bind hcut (Ev.bind hT (Ev.bind hr1 (Ev.bind hcut (Ev.bind hr2 ?_)))))
          refine Ev.step (f := fun _ => some true) (fun k => ?_) (Ev.now true)
          simp only [sleuthlaw44_SegmentationRaw.j1]
          have hlast : r2 = 0 → tot l p (cutsN m l.length) = n := by
            intro h0
            have hp := (hr2b.1 h0).1
            have a1 := hp.low hB.cut (Nat.le_refl _)
            have a3 := hp.last
            omega
          rw [if_pos trivial, if_pos trivial, if_neg (by omega)]
          have hfin : (if r2 = 24 then some true else if r2 = 0 then some (tot l p (cutsN m l.length) == n) else some false) = some true := by
            rcases hr2a with e | e
            · subst e
              rw [if_neg (by decide), if_pos rfl, hlast rfl]
              simp
            · rw [if_pos e]
          rcases hr1a with e | e
          · rw [if_pos e]; exact hfin
          · rw [if_neg (by omega), if_pos e]; exact hfin
      · have : (chk l p != 0) = true := by simp [hc]
        rw [this]
        exact hj
end Go.Proofs.Ytiimanpmidnffaa.Seg
