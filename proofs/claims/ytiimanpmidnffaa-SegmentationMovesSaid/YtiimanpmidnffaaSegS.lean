/- The law Moves: the plain side. -/
import Derived.Test.YtiimanpmidnffaaKnown
import Derived.Test.YtiimanpmidnffaaSegJ
import Derived.Test.YtiimanpmidnffaaQyb
namespace Go.Proofs.Ytiimanpmidnffaa.Seg
open Go.RowKit Go.Proofs.YtiimanpmidnffaaW.PrintWords Go.Proofs.YtiimanpmidnffaaW.PrintLast Go.Proofs.YtiimanpmidnffaaW.PrintMore Go.Proofs.Ytiimanpmidnffaa.Q
set_option linter.unusedVariables false
set_option linter.unusedSimpArgs false
theorem dev_map_add (l : List Int) (k m : Int) : dev (l.map (· + k)) (m + k) = dev l m := by
  induction l with
  | nil => rfl
  | cons x l ih => simp only [List.map_cons, dev, ih]; omega
theorem dev_map_neg (l : List Int) (m : Int) : dev (l.map (- ·)) (-m) = dev l m := by
  induction l with
  | nil => rfl
  | cons x l ih => simp only [List.map_cons, dev, ih]; omega
theorem cst_add (l : List Int) (k : Int) : cst (l.map (· + k)) = cst l := by
  have h1 := cst_min (l.map (· + k)) (med l + k)
  rw [dev_map_add] at h1
  have h2 := cst_min l (med (l.map (· + k)) - k)
  have h3 := dev_map_add l k (med (l.map (· + k)) - k)
  rw [show med (l.map (· + k)) - k + k = med (l.map (· + k)) by omega] at h3
  have e1 : dev l (med l) = cst l := rfl
  have e2 : dev (l.map (· + k)) (med (l.map (· + k))) = cst (l.map (· + k)) := rfl
  omega
theorem cst_neg (l : List Int) : cst (l.map (- ·)) = cst l := by
  have h1 := cst_min (l.map (- ·)) (-(med l))
  rw [dev_map_neg] at h1
  have h2 := cst_min l (-(med (l.map (- ·))))
  have h3 := dev_map_neg l (-(med (l.map (- ·))))
  rw [Int.neg_neg] at h3
  have e1 : dev l (med l) = cst l := rfl
  have e2 : dev (l.map (- ·)) (med (l.map (- ·))) = cst (l.map (- ·)) := rfl
  omega
theorem C_add (l : List Int) (k : Int) (s t : Nat) : C (l.map (· + k)) s t = C l s t := by
  unfold C
  rw [← List.map_take, ← List.map_drop, cst_add]
theorem C_neg (l : List Int) (s t : Nat) : C (l.map (- ·)) s t = C l s t := by
  unfold C
  rw [← List.map_take, ← List.map_drop, cst_neg]
theorem Cut.along {l l' : List Int} (hC : ∀ s t, C l' s t = C l s t) {p : Int} {t : Nat} {c : List Int} {n : Int} (h : Cut l p t c n) : Cut l' p t c n := by
  induction h with
  | whole t h => rw [← hC]; exact .whole t h
  | more s t c n h1 h ih => rw [← hC]; exact .more s t c n h1 ih
theorem Best.along {l l' : List Int} (hC : ∀ s t, C l' s t = C l s t) {p : Int} {t : Nat} {c : List Int} {n : Int} (h : Best l p t n c) : Best l' p t n c :=
  ⟨h.cut.along hC, fun c' n' hc => h.min c' n' (hc.along fun s t => (hC s t).symm)⟩
def mir (L : Nat) (cs : List Int) : List Int := (cs.map fun c => (L : Int) - c).reverse
theorem C_rev (l : List Int) (a s : Nat) (h1 : a ≤ s) (h2 : s ≤ l.length) : C l.reverse (l.length - s) (l.length - a) = C l a s := by
  unfold C
  have e : (l.reverse.take (l.length - a)).drop (l.length - s) = ((l.take s).drop a).reverse := by
    rw [List.take_reverse, List.drop_reverse, List.drop_take, List.length_drop]
    congr 1
    rw [show l.length - (l.length - a) = a by omega, show l.length - a - (l.length - s) = s - a by omega]
  rw [e]
  exact cst_perm (List.reverse_perm _)
theorem fw_mir (l : List Int) : ∀ (cs : List Int) (a : Nat), cutErr l.length (a : Int) cs = 0 → a < l.length →
    fw l.reverse (l.length - a) 0 (mir l.length cs) = fw l l.length a cs ∧ cutErr (l.length - a) 0 (mir l.length cs) = 0 := by
  intro cs
  induction cs with
  | nil =>
    intro a _ ha
    refine ⟨?_, rfl⟩
    have := C_rev l a l.length (by omega) (Nat.le_refl _)
    rw [Nat.sub_self] at this
    exact this
  | cons c cs ih =>
    intro a h ha
    unfold cutErr at h
    by_cases c1 : c < 1 ∨ (l.length : Int) ≤ c
    · rw [if_pos c1] at h; cases h
    · rw [if_neg c1] at h
      by_cases c2 : c ≤ (a : Int)
      · rw [if_pos c2] at h; cases h
      · rw [if_neg c2] at h
        obtain ⟨s, rfl⟩ : ∃ s : Nat, c = (s : Int) := ⟨c.toNat, by omega⟩
        obtain ⟨i1, i2⟩ := ih s h (by omega)
        have e : mir l.length ((s : Int) :: cs) = mir l.length cs ++ [((l.length - s : Nat) : Int)] := by
          unfold mir
          rw [List.map_cons, List.reverse_cons]
          congr 2
          omega
        rw [e]
        refine ⟨?_, cutErr_mk (l.length - a) (l.length - s) (by omega) (by omega) _ 0 (by omega) i2⟩
        rw [fw_snoc, i1, C_rev l a s (by omega) (by omega)]
        unfold fw
        rw [Int.toNat_natCast]
        cases cs <;> simp only [fw] <;> omega
theorem back_le {l : List Int} {p : Int} {n : Int} {c : List Int} (hl : l ≠ []) (h : Best l p l.length n c) {c' : List Int} {r : Int} (h' : Cut l.reverse p l.length c' r) : n ≤ r := by
  have hlen : l.reverse.length = l.length := List.length_reverse
  have hpos : 0 < l.length := List.length_pos_iff.2 hl
  rw [← hlen] at h'
  have hr := h'.total
  have hok := h'.ok
  obtain ⟨e1, e2⟩ := fw_mir l.reverse c' 0 hok (by rw [hlen]; exact hpos)
  rw [List.reverse_reverse, Nat.sub_zero] at e1
  rw [Nat.sub_zero, hlen] at e2
  have hc := Cut.mk (p := p) hl e2
  have hle := h.le hc
  rw [hr]
  unfold tot at hle ⊢
  have hml : (mir l.length c').length = c'.length := by unfold mir; rw [List.length_reverse, List.length_map]
  rw [hml] at hle
  rw [hlen] at e1 ⊢
  omega
theorem back_eq {l : List Int} {p : Int} {n r : Int} {c c' : List Int} (hl : l ≠ []) (h : Best l p l.length n c) (h' : Best l.reverse p l.length r c') : n = r := by
  have hlen : l.reverse.length = l.length := List.length_reverse
  have a1 := back_le hl h h'.cut
  have a2 := back_le (l := l.reverse) (p := p) (n := r) (c := c') (by simpa using hl) (by rw [hlen]; exact h') (by rw [List.reverse_reverse, hlen]; exact h.cut)
  omega
theorem mono_cuts {l : List Int} {p q : Int} {n m : Int} {c d : List Int} (hpq : p ≤ q) (h : Best l p l.length n c) (h' : Best l q l.length m d) : d.length ≤ c.length := by
  have hl : l ≠ [] := by
    intro e; have := h.cut.pos; rw [e] at this; simp at this
  rcases Int.lt_or_eq_of_le hpq with hlt | rfl
  · have a1 := h.le (Cut.mk (p := p) hl h'.cut.ok)
    have a2 := h'.le (Cut.mk (p := q) hl h.cut.ok)
    rw [h.cut.total] at a1
    rw [h'.cut.total] at a2
    unfold tot at a1 a2
    have e : (q - p) * ((d.length : Int) - (c.length : Int)) ≤ 0 := by
      rw [Int.sub_mul, Int.mul_sub, Int.mul_sub]; omega
    rcases Nat.lt_or_ge c.length d.length with g | g
    · have := Int.mul_pos (show 0 < q - p by omega) (show 0 < (d.length : Int) - (c.length : Int) by omega)
      omega
    · exact g
  · rw [(h.uniq h').2]; exact Nat.le_refl _
theorem take_snoc (l : List Int) (i : Nat) (h : i < l.length) : l.take (i + 1) = l.take i ++ [l.getD i 0] := by
  rw [List.take_succ_eq_append_getElem h, List.getD_eq_getElem?_getD, List.getElem?_eq_getElem h]; rfl
theorem map_getD (l : List Int) (g : Int → Int) (i : Nat) (h : i < l.length) : (l.map g).getD i 0 = g (l.getD i 0) := by
  rw [List.getD_eq_getElem?_getD, List.getD_eq_getElem?_getD, List.getElem?_map, List.getElem?_eq_getElem h]; rfl
theorem rev_getD (l : List Int) (i : Nat) (h : i < l.length) : l.reverse.getD i 0 = l.getD (l.length - 1 - i) 0 := by
  rw [List.getD_eq_getElem?_getD, List.getD_eq_getElem?_getD, List.getElem?_reverse h]
theorem moves_loop (l : List Int) (by_ n a b : Int) (hl : l.length ≤ 9) (hx : ∀ x ∈ l, -8 ≤ x ∧ x ≤ 23) (hb : -32768 ≤ by_ ∧ by_ ≤ 32767)
    (hend : Ev (fun k => sleuthlaw44_SegmentationMoves.l0 k by_ l n (l.map (· + by_)) (l.map (- ·)) l.reverse (l.length : Int) a b) true) :
    ∀ (d i : Nat), l.length - i = d → i ≤ l.length → Ev (fun k => sleuthlaw44_SegmentationMoves.l0 k by_ l n ((l.map (· + by_)).take i) ((l.map (- ·)).take i) (l.reverse.take i) (i : Int) a b) true := by
  intro d
  induction d with
  | zero =>
    intro i hd hi
    obtain rfl : i = l.length := by omega
    rw [List.take_of_length_le (by rw [List.length_map]; exact Nat.le_refl _), List.take_of_length_le (by rw [List.length_map]; exact Nat.le_refl _), List.take_of_length_le (by rw [List.length_reverse]; exact Nat.le_refl _)]
    exact hend
  | succ d ih =>
    intro i hd hi
    have hil : i < l.length := by omega
    have n1 := ih (i + 1) (by omega) (by omega)
    have hxi := hx _ (getD_mem (xs := l) (i := i) hil)
    rw [take_snoc _ i (by rw [List.length_map]; exact hil), take_snoc _ i (by rw [List.length_map]; exact hil), take_snoc _ i (by rw [List.length_reverse]; exact hil), map_getD _ _ i hil, map_getD _ _ i hil, rev_getD l i hil] at n1
    have ej : wrap64 (wrap64 ((l.length : Int) - 1) - (i : Int)) = ((l.length - 1 - i : Nat) : Int) := by
      rw [w64 (x := (l.length : Int) - 1) (by omega) (by omega), w64 (by omega) (by omega)]; omega
    have ea : wrap64 (l.getD i 0 + wrap64 by_) = l.getD i 0 + by_ := by rw [w64 (x := by_) (by omega) (by omega), w64 (by omega) (by omega)]
    have en : wrap64 (-(l.getD i 0)) = -(l.getD i 0) := w64 (by omega) (by omega)
    refine Ev.step (fun k => ?_) n1
    have q1 : ((l.map (· + by_)).take i).length < 17592186044416 := by rw [List.length_take]; omega
    have q2 : ((l.map (- ·)).take i).length < 17592186044416 := by rw [List.length_take]; omega
    have q3 : (l.reverse.take i).length < 17592186044416 := by rw [List.length_take]; omega
    simp only [sleuthlaw44_SegmentationMoves.l0]
    rw [if_pos (by omega), if_pos (by omega), if_pos q1, if_pos q2, ej, if_pos (by omega), if_pos (by omega), if_pos q3, rdn, rdn, ea, en, w64 (x := (i : Int) + 1) (by omega) (by omega)]
    rfl
theorem lawMoves (l0 : List Int) (a b by_ : Int) (h0 : ∀ x ∈ l0, 0 ≤ x ∧ x ≤ 255) (ha : 0 ≤ a ∧ a ≤ 255) (hb : 0 ≤ b ∧ b ≤ 255) (hy : -32768 ≤ by_ ∧ by_ ≤ 32767) : Ev (fun k => sleuthlaw44_SegmentationMoves.f k l0 a b by_) true := by
  obtain ⟨hne, hlen, hx⟩ := pnts_ok l0
  have hp := pen_eq ha
  have hc1 := chk_pnts l0 (p := a % 64) (by omega) (by omega)
  have hc2 := chk_pnts l0 (p := a % 64 + b) (by omega) (by omega)
  have hc3 : chk ((pnts l0).map (· + by_)) (a % 64) = 0 := chk_mk ⟨by rw [List.length_map]; omega, fun x hx' => by
    obtain ⟨y, hy', rfl⟩ := List.mem_map.1 hx'; have := hx y hy'; omega⟩ (by simpa using hne) (by omega) (by omega)
  have hc4 : chk ((pnts l0).map (- ·)) (a % 64) = 0 := chk_mk ⟨by rw [List.length_map]; omega, fun x hx' => by
    obtain ⟨y, hy', rfl⟩ := List.mem_map.1 hx'; have := hx y hy'; omega⟩ (by simpa using hne) (by omega) (by omega)
  have hc5 : chk (pnts l0).reverse (a % 64) = 0 := chk_mk ⟨by rw [List.length_reverse]; omega, fun x hx' => by
    have := hx x (List.mem_reverse.1 hx'); omega⟩ (by simpa using hne) (by omega) (by omega)
  obtain ⟨n1, c1, B1, E1⟩ := best_ev _ _ hc1
  obtain ⟨n2, c2, B2, E2⟩ := best_ev _ _ hc2
  obtain ⟨n3, c3, B3, E3⟩ := best_ev _ _ hc3
  obtain ⟨n4, c4, B4, E4⟩ := best_ev _ _ hc4
  obtain ⟨n5, c5, B5, E5⟩ := best_ev _ _ hc5
  rw [List.length_map] at B3 B4
  rw [List.length_reverse] at B5
  have m12 := mono_cuts (by omega) B1 B2
  obtain ⟨rfl, rfl⟩ := B3.uniq (B1.along (C_add _ by_))
  obtain ⟨rfl, rfl⟩ := B4.uniq (B1.along (C_neg _))
  obtain rfl := back_eq hne B1 B5
  have hcl := (B1.cut.len)
  have hs := same_true c4 (by omega)
  have hend : Ev (fun k => sleuthlaw44_SegmentationMoves.l0 k by_ (pnts l0) (a % 64) ((pnts l0).map (· + by_)) ((pnts l0).map (- ·)) (pnts l0).reverse ((pnts l0).length : Int) a b) true := by
    refine Ev.step (f := fun k => ((segmentation_Best.f k (pnts l0) (a % 64)).bind fun bt409 => ((segmentation_Best.f k (pnts l0) (wrap64 (a % 64 + (wrap64 b)))).bind fun bt415 => ((segmentation_Best.f k ((pnts l0).map (· + by_)) (a % 64)).bind fun bt421 => ((segmentation_Best.f k ((pnts l0).map (- ·)) (a % 64)).bind fun bt427 => ((segmentation_Best.f k (pnts l0).reverse (a % 64)).bind fun bt433 => (if bt409.2.2 = 0 then (if bt415.2.2 = 0 then (if bt421.2.2 = 0 then (if bt427.2.2 = 0 then (if bt433.2.2 = 0 then (if (bt415.1.length : Int) ≤ (bt409.1.length : Int) then ((sleuthlaw44_same.f k bt421.1 bt409.1).bind fun t439 => (if t439 = true then (if bt421.2.1 = bt409.2.1 then ((sleuthlaw44_same.f k bt427.1 bt409.1).bind fun t440 => (if t440 = true then (if bt427.2.1 = bt409.2.1 then (sleuthlaw44_SegmentationMoves.j1 k (bt433.2.1 == bt409.2.1)) else (sleuthlaw44_SegmentationMoves.j1 k false)) else (sleuthlaw44_SegmentationMoves.j1 k false))) else (sleuthlaw44_SegmentationMoves.j1 k false)) else (sleuthlaw44_SegmentationMoves.j1 k false))) else (sleuthlaw44_SegmentationMoves.j1 k false)) else (sleuthlaw44_SegmentationMoves.j1 k false)) else (sleuthlaw44_SegmentationMoves.j1 k false)) else (sleuthlaw44_SegmentationMoves.j1 k false)) else (sleuthlaw44_SegmentationMoves.j1 k false)) else (sleuthlaw44_SegmentationMoves.j1 k false)))))))) (fun k => ?_) ?_
    · simp only [sleuthlaw44_SegmentationMoves.l0]
      rw [if_neg (by omega)]
    · rw [w64 (x := b) (by omega) (by omega), w64 (x := a % 64 + b) (by omega) (by omega)]
      refine Ev.bind E1 (Ev.bind E2 (Ev.bind E3 (Ev.bind E4 (Ev.bind E5 ?_))))
      simp only [if_true]
      refine Ev.congr (fun k => if_pos (by omega)) ?_
      refine Ev.bind hs ?_
      simp only [if_true]
      refine Ev.bind hs ?_
      simp only [if_true]
      refine Ev.step (f := fun _ => some true) (fun k => ?_) (Ev.now true)
      simp only [sleuthlaw44_SegmentationMoves.j1]
      simp
  have hloop := moves_loop (pnts l0) by_ (a % 64) a b hlen hx hy hend _ 0 rfl (Nat.zero_le _)
  unfold sleuthlaw44_SegmentationMoves.f
  refine Ev.bind known_ev ?_
  simp only [if_true]
  rw [hp]
  exact Ev.bind (points_ev l0 h0) hloop
end Go.Proofs.Ytiimanpmidnffaa.Seg
