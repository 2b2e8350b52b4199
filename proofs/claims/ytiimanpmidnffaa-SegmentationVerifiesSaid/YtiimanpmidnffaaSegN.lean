/- The law Verifies: the plain side. -/
import Derived.Test.YtiimanpmidnffaaSegQ
import Derived.Test.YtiimanpmidnffaaKnown
import Derived.Test.YtiimanpmidnffaaQx12
import Derived.Test.YtiimanpmidnffaaQx13
namespace Go.Proofs.Ytiimanpmidnffaa.Seg
open Go.RowKit Go.Proofs.YtiimanpmidnffaaW.PrintWords Go.Proofs.YtiimanpmidnffaaW.PrintLast Go.Proofs.YtiimanpmidnffaaW.PrintMore Go.Proofs.Ytiimanpmidnffaa.Q
set_option linter.unusedVariables false
set_option linter.unusedSimpArgs false
def StepOk (l : List Int) (p : Int) (f : List Int) (t q : Nat) : Prop := f.getD t 0 ≤ f.getD q 0 + p + C l q t
def Small (f : List Int) : Prop := ∀ x ∈ f, -1125899906842624 ≤ x ∧ x ≤ 1125899906842624
theorem Small.at {f : List Int} (h : Small f) (i : Nat) : -1125899906842624 ≤ f.getD i 0 ∧ f.getD i 0 ≤ 1125899906842624 := by
  rcases Nat.lt_or_ge i f.length with h1 | h1
  · exact h _ (getD_mem h1)
  · rw [List.getD_eq_getElem?_getD, List.getElem?_eq_none h1]; exact ⟨by decide, by decide⟩
theorem proves_inner (l : List Int) (p : Int) (f : List Int) (hP : Pts l) (h0 : 0 ≤ p) (h1 : p ≤ 1099511627776) (hf : f.length = l.length + 1) (hs : Small f) (t : Nat) (ht1 : 1 ≤ t) (ht : t ≤ l.length) (R : Bool)
    (hR : Ev (fun k => sleuthlaw44_proves.l0 k l p f ((t + 1 : Nat) : Int)) R) :
    ∀ (d q : Nat), t - q = d → q ≤ t → ∃ b : Bool, Ev (fun k => sleuthlaw44_proves.l1 k l p f (t : Int) (q : Int)) b ∧ (b = true ↔ R = true ∧ ∀ s, q ≤ s → s < t → StepOk l p f t s) := by
  have hll := hP.1
  intro d
  induction d with
  | zero =>
    intro q hd hq
    refine ⟨R, Ev.step (fun k => ?_) hR, ⟨fun h => ⟨h, fun s a b => by omega⟩, fun h => h.1⟩⟩
    simp only [sleuthlaw44_proves.l1]
    rw [if_neg (by omega), w64 (by omega) (by omega)]
    rfl
  | succ d ih =>
    intro q hd hq
    have hqt : q < t := by omega
    have hne : (l.take t).drop q ≠ [] := by
      intro e
      have := congrArg List.length e
      rw [List.length_drop, List.length_take, List.length_nil] at this
      omega
    have hPP : Pts ((l.take t).drop q) := ⟨by rw [List.length_drop, List.length_take]; omega, fun x hx => hP.2 x (List.mem_of_mem_take (List.mem_of_mem_drop hx))⟩
    have hc := rcost_ev _ hPP hne
    have hC := C_bd l hP.2 q t
    have hC0 := C_nonneg l q t
    have a1 := hs.at t
    have a2 := hs.at q
    have ew : wrap64 ((wrap64 (f.getD q 0 + p)) + C l q t) = f.getD q 0 + p + C l q t := by
      have hb : 2199023255552 * ((t - q : Nat) : Int) ≤ 2251799813685248 := by omega
      rw [w64 (x := f.getD q 0 + p) (by omega) (by omega), w64 (by omega) (by omega)]
    have step : ∀ (b : Bool), Ev (fun k => if f.getD t 0 > f.getD q 0 + p + C l q t then some false else sleuthlaw44_proves.l1 k l p f (t : Int) ((q + 1 : Nat) : Int)) b → Ev (fun k => sleuthlaw44_proves.l1 k l p f (t : Int) (q : Int)) b := by
      intro b hb
      refine Ev.step (fun k => ?_) (Ev.bind (f := fun (k : Nat) (c : Int) => if f.getD t 0 > (wrap64 ((wrap64 (f.getD q 0 + p)) + c)) then some false else sleuthlaw44_proves.l1 k l p f (t : Int) ((q + 1 : Nat) : Int)) hc (Ev.congr (fun k => ?_) hb))
      · simp only [sleuthlaw44_proves.l1]
        rw [if_pos (by omega), if_pos (by omega), if_pos (by omega), if_pos (by omega), if_pos (by omega), if_pos (by omega), if_pos (by omega), rdn, rdn, Int.toNat_natCast, Int.toNat_natCast, w64 (x := (q : Int) + 1) (by omega) (by omega)]
        rfl
      · have : cst ((l.take t).drop q) = C l q t := rfl
        rw [this, ew]
    by_cases hk : f.getD t 0 > f.getD q 0 + p + C l q t
    · refine ⟨false, step false (Ev.congr (fun k => if_pos hk) (Ev.now _)), ⟨fun h => (by cases h), fun h => ?_⟩⟩
      have := h.2 q (Nat.le_refl q) hqt
      unfold StepOk at this
      omega
    · obtain ⟨b, hb, hiff⟩ := ih (q + 1) (by omega) (by omega)
      refine ⟨b, step b (Ev.congr (fun k => if_neg hk) hb), ⟨fun h => ⟨(hiff.1 h).1, fun s a c => ?_⟩, fun h => hiff.2 ⟨h.1, fun s a c => h.2 s (by omega) c⟩⟩⟩
      rcases Nat.eq_or_lt_of_le a with e | e
      · subst e; unfold StepOk; omega
      · exact (hiff.1 h).2 s e c
theorem proves_outer (l : List Int) (p : Int) (f : List Int) (hP : Pts l) (h0 : 0 ≤ p) (h1 : p ≤ 1099511627776) (hf : f.length = l.length + 1) (hs : Small f) :
    ∀ (d t : Nat), l.length + 1 - t = d → 1 ≤ t → t ≤ l.length + 1 → ∃ b : Bool, Ev (fun k => sleuthlaw44_proves.l0 k l p f (t : Int)) b ∧ (b = true ↔ ∀ u, t ≤ u → u ≤ l.length → ∀ s, s < u → StepOk l p f u s) := by
  intro d
  induction d with
  | zero =>
    intro t hd h1t ht
    refine ⟨true, Ev.step (f := fun _ => some true) (fun k => ?_) (Ev.now _), ⟨fun _ u a b => by omega, fun _ => rfl⟩⟩
    simp only [sleuthlaw44_proves.l0]
    rw [if_neg (by omega)]
  | succ d ih =>
    intro t hd h1t ht
    obtain ⟨R, hR, hRi⟩ := ih (t + 1) (by omega) (by omega) (by omega)
    obtain ⟨b, hb, hbi⟩ := proves_inner l p f hP h0 h1 hf hs t h1t (by omega) R hR _ 0 rfl (Nat.zero_le _)
    refine ⟨b, Ev.step (fun k => ?_) hb, ⟨fun h u a c s hsu => ?_, fun h => hbi.2 ⟨hRi.2 (fun u a c => h u (by omega) c), fun s _ c => h t (Nat.le_refl t) (by omega) s c⟩⟩⟩
    · simp only [sleuthlaw44_proves.l0]
      rw [if_pos (by omega)]
      rfl
    · rcases Nat.eq_or_lt_of_le a with e | e
      · subst e; exact (hbi.1 h).2 s (Nat.zero_le s) hsu
      · exact hRi.1 (hbi.1 h).1 u e c s hsu
theorem proves_ev (l : List Int) (p : Int) (f cuts : List Int) (cost : Int) (h : chk l p = 0) (he : cutErr l.length 0 cuts = 0) (hs : Small f) (hfl : f.length ≤ 1099511627776) (hf0 : 0 < f.length) :
    ∃ b : Bool, Ev (fun k => sleuthlaw44_proves.f k l p f cuts cost) b ∧ (b = true ↔ Proves l p f cuts cost) := by
  obtain ⟨hP, hl, h0, h1⟩ := chk_ok h
  have hll := hP.1
  have hT := rtotal_ev l p cuts h (by have := (tot_bd hP hl h0 h1 he).2.2; omega)
  rw [if_pos he] at hT
  have hj : Ev (fun k => sleuthlaw44_proves.j0 k l p f true) false := by
    refine Ev.step (f := fun _ => some false) (fun k => ?_) (Ev.now _)
    simp only [sleuthlaw44_proves.j0]
    rw [if_pos trivial]
  have ewl : wrap64 ((l.length : Int) + 1) = ((l.length + 1 : Nat) : Int) := by rw [w64 (by omega) (by omega)]; omega
  have ewp : wrap64 (-p) = -p := w64 (by omega) (by omega)
  have ent : ∀ (b : Bool), Ev (fun k => (if cost = tot l p cuts then (if (f.length : Int) = (wrap64 ((l.length : Int) + 1)) then (if 0 < (f.length : Int) then (if (rd f 0) = (wrap64 (-p)) then (if 0 ≤ (l.length : Int) then (if (l.length : Int) < (f.length : Int) then (sleuthlaw44_proves.j0 k l p f ((rd f (l.length : Int)) != cost)) else (none)) else (none)) else (sleuthlaw44_proves.j0 k l p f true)) else (none)) else (sleuthlaw44_proves.j0 k l p f true)) else (sleuthlaw44_proves.j0 k l p f true))) b → Ev (fun k => sleuthlaw44_proves.f k l p f cuts cost) b := by
    intro b hb
    unfold sleuthlaw44_proves.f
    exact Ev.bind hT hb
  have e0 : rd f 0 = f.getD 0 0 := rfl
  by_cases c1 : cost = tot l p cuts
  · by_cases c2 : f.length = l.length + 1
    · by_cases c3 : f.getD 0 0 = -p
      · by_cases c4 : f.getD l.length 0 = cost
        · obtain ⟨b, hb, hbi⟩ := proves_outer l p f hP h0 h1 c2 hs _ 1 rfl (Nat.le_refl 1) (by omega)
          refine ⟨b, ent b (Ev.congr (f := fun k => sleuthlaw44_proves.j0 k l p f false) (fun k => ?_) (Ev.step (fun k => ?_) hb)), ⟨fun hbt => ⟨c1, c2, c3, c4, fun t a b q hq => hbi.1 hbt t a b q hq⟩, fun hp => hbi.2 (fun u a c s hsu => hp.step u a c s hsu)⟩⟩
          · rw [if_pos c1, ewl, if_pos (by omega), if_pos (by omega), e0, ewp, if_pos c3, if_pos (by omega), if_pos (by omega), rdn, c4]
            simp
          · simp only [sleuthlaw44_proves.j0]
            rw [if_neg (by decide)]
            rfl
        · refine ⟨false, ent false (Ev.congr (fun k => ?_) hj), ⟨fun h => (by cases h), fun h => absurd h.last c4⟩⟩
          have : ((f.getD l.length 0) != cost) = true := by simp [bne_iff_ne]; simpa using c4
          rw [if_pos c1, ewl, if_pos (by omega), if_pos (by omega), e0, ewp, if_pos c3, if_pos (by omega), if_pos (by omega), rdn, this]
      · refine ⟨false, ent false (Ev.congr (fun k => ?_) hj), ⟨fun h => (by cases h), fun h => absurd h.first c3⟩⟩
        rw [if_pos c1, ewl, if_pos (by omega), if_pos (by omega), e0, ewp, if_neg c3]
    · refine ⟨false, ent false (Ev.congr (fun k => ?_) hj), ⟨fun h => (by cases h), fun h => absurd h.len c2⟩⟩
      rw [if_pos c1, ewl, if_neg (by omega)]
  · refine ⟨false, ent false (Ev.congr (fun k => if_neg c1) hj), ⟨fun h => (by cases h), fun h => absurd h.total c1⟩⟩
theorem IsPot.small {l : List Int} {p : Int} {f : List Int} (h : chk l p = 0) (hl : l.length ≤ 9) (hf : IsPot l p f) : ∀ x ∈ f, -35184372088832 ≤ x ∧ x ≤ 35184372088832 := by
  obtain ⟨hP, _, h0, h1⟩ := chk_ok h
  intro x hx
  obtain ⟨i, hi, rfl⟩ := List.getElem_of_mem hx
  have e : f[i] = f.getD i 0 := by rw [List.getD_eq_getElem?_getD, List.getElem?_eq_getElem hi]; rfl
  rw [e]
  have hfl := hf.1
  rcases Nat.eq_zero_or_pos i with rfl | hp
  · rw [hf.2.1]; omega
  · obtain ⟨c, hB⟩ := hf.2.2 i hp (by omega)
    have := Cut.bd hP.2 h0 h1 hB.cut
    have hb : 3298534883328 * (i : Int) ≤ 29686813949952 := by omega
    omega
theorem ver3_ev (l : List Int) (p : Int) (f cuts : List Int) (c : Int) (more : Bool) (b : List Int) (h : chk l p = 0) (hl : l.length ≤ 9) (hs : Small f) (hfl : f.length ≤ 40) (hf0 : 0 < f.length) (hc : -128 ≤ c ∧ c ≤ 127) (hcl : cuts.length ≤ 10) :
    Ev (fun k => sleuthlaw44_SegmentationVerifies.j3 k l p f b cuts c more) true := by
  obtain ⟨hP, hne, h0, h1⟩ := chk_ok h
  have hT := rtotal_ev l p cuts h (by omega)
  refine Ev.step (f := fun k => (sleuthlaw44_total.f k l p cuts).bind fun bt431 => ((segmentation_Verify.f k l p f cuts (wrap64 (bt431.1 + (wrap64 c)))).bind fun t433 => (if bt431.2 = 0 then ((sleuthlaw44_proves.f k l p f cuts (wrap64 (bt431.1 + (wrap64 c)))).bind fun t434 => (if t434 = true then (if t433 = 0 then ((sleuthlaw44_best.f k l p (-1)).bind fun bt435 => (some ((wrap64 (bt431.1 + (wrap64 c))) == bt435.2))) else (some false)) else (some (t433 == 24)))) else (some (t433 == bt431.2))))) (fun k => ?_) ?_
  · simp only [sleuthlaw44_SegmentationVerifies.j3]
  · by_cases he : cutErr l.length 0 cuts = 0
    · rw [if_pos he] at hT
      have htb := (tot_bd hP hne h0 h1 he)
      have ew : wrap64 (tot l p cuts + wrap64 c) = tot l p cuts + c := by rw [w64 (x := c) (by omega) (by omega), w64 (by omega) (by omega)]
      obtain ⟨r, hr, hr2, hr3⟩ := verify_ev l p f cuts (tot l p cuts + c) h he (by omega)
      obtain ⟨v, hv, hvi⟩ := proves_ev l p f cuts (tot l p cuts + c) h he hs (by omega) hf0
      refine Ev.bind hT ?_
      simp only [ew, if_true]
      refine Ev.bind hr (Ev.bind hv ?_)
      cases v with
      | true =>
        have hp := hvi.1 rfl
        have r0 : r = 0 := hr3.2 ⟨hp, fun x hx => by have := hs x hx; omega⟩
        subst r0
        obtain ⟨n, cb, hB, _⟩ := best_ev l p h
        have hb := rbest_all l p h (by omega) hB
        simp only [if_true]
        refine Ev.bind hb ?_
        have e : tot l p cuts + c = n := by
          have a1 := hp.low hB.cut (Nat.le_refl _)
          have a2 := hB.le (Cut.mk hne he)
          have a3 := hp.last
          have a4 := hp.total
          omega
        exact Ev.congr (fun k => by rw [e]; simp) (Ev.now true)
      | false =>
        have r24 : r = 24 := by
          rcases hr2 with e | e
          · have := hvi.2 (hr3.1 e).1
            cases this
          · exact e
        subst r24
        exact Ev.congr (fun k => by simp) (Ev.now true)
    · rw [if_neg he] at hT
      have hr := verify_err l p f cuts (wrap64 (0 + wrap64 c)) (by omega) (cutErr l.length 0 cuts) he (by rw [if_pos h])
      refine Ev.bind hT (Ev.bind hr ?_)
      exact Ev.congr (fun k => by rw [if_neg he]; simp) (Ev.now true)
theorem ver2_ev (l : List Int) (p : Int) (f cuts : List Int) (c : Int) (more : Bool) (b : List Int) (h : chk l p = 0) (hl : l.length ≤ 9) (hs : Small f) (hfl : f.length ≤ 30) (hf0 : 0 < f.length) (hc : -128 ≤ c ∧ c ≤ 127) (hcl : cuts.length ≤ 10) :
    Ev (fun k => sleuthlaw44_SegmentationVerifies.j2 k l p f b cuts c more) true := by
  cases more with
  | true =>
    refine Ev.step (fun k => ?_) (ver3_ev l p (f ++ [0]) cuts c true b h hl (fun x hx => ?_) (by rw [List.length_append, List.length_singleton]; omega) (by rw [List.length_append, List.length_singleton]; omega) hc hcl)
    · simp only [sleuthlaw44_SegmentationVerifies.j2, if_true]
      rw [if_pos (by omega)]
    · rcases List.mem_append.1 hx with hx | hx
      · exact hs x hx
      · rw [List.mem_singleton.1 hx]; decide
  | false =>
    refine Ev.step (fun k => ?_) (ver3_ev l p f cuts c false b h hl hs (by omega) hf0 hc hcl)
    simp only [sleuthlaw44_SegmentationVerifies.j2]
    rw [if_neg (by decide)]
theorem add_loop (l : List Int) (p : Int) (cuts : List Int) (c : Int) (more : Bool) (b : List Int) (h : chk l p = 0) (hl : l.length ≤ 9) (hb : ∀ x ∈ b, -128 ≤ x ∧ x ≤ 127) (hc : -128 ≤ c ∧ c ≤ 127) (hcl : cuts.length ≤ 10) :
    ∀ (d i : Nat) (f : List Int), f.length - i = d → i ≤ f.length → 0 < f.length → f.length ≤ 20 → (∀ x ∈ f, -35184372088832 - 128 * (i : Int) ≤ x ∧ x ≤ 35184372088832 + 128 * (i : Int)) →
    Ev (fun k => sleuthlaw44_SegmentationVerifies.l0 k l p f (i : Int) b cuts c more) true := by
  intro d
  induction d with
  | zero =>
    intro i f hd hi hf0 hfl hs
    refine Ev.step (fun k => ?_) (ver2_ev l p f cuts c more b h hl (fun x hx => by have := hs x hx; omega) (by omega) hf0 hc hcl)
    simp only [sleuthlaw44_SegmentationVerifies.l0]
    rw [if_neg (by omega)]
  | succ d ih =>
    intro i f hd hi hf0 hfl hs
    by_cases hib : i < b.length
    · have hbi := hb _ (getD_mem (xs := b) (i := i) hib)
      have hfi := hs _ (getD_mem (xs := f) (i := i) (by omega))
      have ev : wrap64 (f.getD i 0 + wrap64 (b.getD i 0)) = f.getD i 0 + b.getD i 0 := by rw [w64 (x := b.getD i 0) (by omega) (by omega), w64 (by omega) (by omega)]
      have n1 := ih (i + 1) (f.set i (f.getD i 0 + b.getD i 0)) (by rw [List.length_set]; omega) (by rw [List.length_set]; omega) (by rw [List.length_set]; omega) (by rw [List.length_set]; omega) (fun x hx => by
        rcases List.mem_or_eq_of_mem_set hx with hx | hx
        · have := hs x hx; push_cast; omega
        · subst hx; push_cast; omega)
      refine Ev.step (fun k => ?_) n1
      simp only [sleuthlaw44_SegmentationVerifies.l0]
      rw [if_pos (by omega), if_pos (by omega), if_pos (by omega), rdn, rdn, ev, Int.toNat_natCast, w64 (x := (i : Int) + 1) (by omega) (by omega)]
      rfl
    · refine Ev.step (fun k => ?_) (ver2_ev l p f cuts c more b h hl (fun x hx => by have := hs x hx; omega) (by omega) hf0 hc hcl)
      simp only [sleuthlaw44_SegmentationVerifies.l0]
      rw [if_pos (by omega), if_neg (by omega)]
theorem lawVerifies (l0 : List Int) (a1 : Int) (b cuts : List Int) (c : Int) (more : Bool) (h0 : ∀ x ∈ l0, 0 ≤ x ∧ x ≤ 255) (h1 : 0 ≤ a1 ∧ a1 ≤ 255) (hb : ∀ x ∈ b, -128 ≤ x ∧ x ≤ 127) (hc : -128 ≤ c ∧ c ≤ 127) :
    Ev (fun k => sleuthlaw44_SegmentationVerifies.f k l0 a1 b cuts c more) true := by
  unfold sleuthlaw44_SegmentationVerifies.f
  refine Ev.bind known_ev ?_
  simp only [if_true]
  by_cases hcl : (cuts.length : Int) > 10
  · rw [decide_eq_true hcl]
    refine Ev.step (fun k => ?_) (Ev.bind (f := fun _ (t483 : Bool) => some t483) known_ev (Ev.now true))
    simp only [sleuthlaw44_SegmentationVerifies.j0]
    rw [if_pos trivial]
  · rw [decide_eq_false hcl]
    have hp := pen_eq h1
    have hck := chk_pnts l0 (p := a1 % 64) (by omega) (by omega)
    have hP := points_ev l0 h0
    have hlen := (pnts_ok l0).2.1
    obtain ⟨f, hF, _⟩ := pot_ev _ _ hck
    have hr := rpot_ev _ _ hck (Nat.le_trans hlen (by decide)) f hF
    have hfl := hF.1
    have hend := add_loop (pnts l0) (a1 % 64) cuts c more b hck hlen hb hc (by omega) _ 0 f rfl (Nat.zero_le _) (by omega) (by omega) (fun x hx => by have := hF.small hck hlen x hx; omega)
    refine Ev.step (f := fun k => (sleuthlaw44_points.f k l0).bind fun t418 => ((sleuthlaw44_potentials.f k t418 (wrap64 (Int.tmod a1 64))).bind fun t421 => (sleuthlaw44_SegmentationVerifies.l0 k t418 (wrap64 (Int.tmod a1 64)) t421 0 b cuts c more))) (fun k => ?_) ?_
    · simp only [sleuthlaw44_SegmentationVerifies.j0]
      rw [if_neg (by decide)]
    · rw [hp]
      exact Ev.bind hP (Ev.bind hr hend)
end Go.Proofs.Ytiimanpmidnffaa.Seg
