/- Plain law: ChangepointTests. -/
import Derived.Test.YtcjgmofgfblmnaaSg
import Derived.Test.YtcjgmofgfblmnaaQgSleuthlaw45ChangepointTests
namespace Go.Proofs.Ytcjgmofgfblmnaa.Seg
open Go.RowKit Go.Proofs.YtcjgmofgfblmnaaW.PrintWords Go.Proofs.YtcjgmofgfblmnaaW.PrintLast Go.Proofs.YtcjgmofgfblmnaaW.PrintMore Go.Proofs.Ytcjgmofgfblmnaa.Q
open Go.Proofs.Ytcjgmofgfblmnaa.TstV (mu ab)
open Go.Proofs.Ytcjgmofgfblmnaa.TstX (testF testE testT)
set_option linter.unusedVariables false
set_option linter.unusedSimpArgs false
set_option linter.unusedSimpArgs false
theorem take_less (L : List Int) (v : Int) (i : Nat) (hi : i < L.length) : Tst.less (L.take (i + 1)) v = Tst.less (L.take i) v + (if rd L (i : Int) < v then 1 else 0) := by
  have e : rd L (i : Int) = L[i] := by simp [rd, List.getD, List.getElem?_eq_getElem hi]
  rw [e, List.take_succ_eq_append_getElem hi]
  unfold Tst.less
  rw [List.countP_append]
  simp [List.countP_cons]
theorem take_eqs (L : List Int) (v : Int) (i : Nat) (hi : i < L.length) : Tst.eqs (L.take (i + 1)) v = Tst.eqs (L.take i) v + (if rd L (i : Int) = v then 1 else 0) := by
  have e : rd L (i : Int) = L[i] := by simp [rd, List.getD, List.getElem?_eq_getElem hi]
  rw [e, List.take_succ_eq_append_getElem hi]
  unfold Tst.eqs
  rw [List.countP_append]
  simp [List.countP_cons]
theorem midrank_ev (L : List Int) (hn : L.length ≤ 1000) (v : Int) : Ev (fun k => sleuthlaw45_midrank.f k L v) (Tst.mid L v) := by
  have hl : ∀ i, Tst.less (L.take i) v ≤ 1000 := fun i => Nat.le_trans (List.countP_le_length (p := fun w => decide (w < v))) (by rw [List.length_take]; omega)
  have he : ∀ i, Tst.eqs (L.take i) v ≤ 1000 := fun i => Nat.le_trans (List.countP_le_length (p := fun w => decide (w = v))) (by rw [List.length_take]; omega)
  have key : ∀ (d i : Nat), L.length - i = d → i ≤ L.length → Ev (fun k => sleuthlaw45_midrank.l0 k L v (Tst.less (L.take i) v : Nat) (Tst.eqs (L.take i) v : Nat) (i : Int)) (Tst.mid L v) := by
    intro d
    induction d with
    | zero =>
      intro i hd hi
      have hi' : i = L.length := by omega
      subst hi'
      refine Ev.step (f := fun _ => some (Tst.mid L v)) (fun k => ?_) (Ev.now _)
      simp only [sleuthlaw45_midrank.l0]
      have h1 := hl L.length
      have h2 := he L.length
      rw [List.take_length] at h1 h2 ⊢
      rw [if_neg (by omega)]
      rw [w64 (x := 2 * _) (by omega) (by omega), w64 (x := _ + 1) (by omega) (by omega), w64 (by omega) (by omega)]
      congr 1
      unfold Tst.mid
      omega
    | succ d ih =>
      intro i hd hi
      have hlt : i < L.length := by omega
      have h1 := hl i
      have h2 := he i
      have hw : wrap64 ((i : Int) + 1) = ((i + 1 : Nat) : Int) := by rw [w64 (by omega) (by omega)]; omega
      have e1 := take_less L v i hlt
      have e2 := take_eqs L v i hlt
      have hk := ih (i + 1) (by omega) (by omega)
      refine Ev.step (fun k => ?_) hk
      simp only [sleuthlaw45_midrank.l0]
      rw [if_pos (by omega), if_pos (by omega), hw]
      by_cases c1 : rd L (i : Int) < v
      · rw [if_pos c1] at e1 ⊢
        rw [if_neg (by omega)] at e2 ⊢
        rw [w64 (by omega) (by omega), e1, e2]
        rfl
      · rw [if_neg c1] at e1 ⊢
        by_cases c2 : rd L (i : Int) = v
        · rw [if_pos c2] at e2 ⊢
          rw [w64 (by omega) (by omega), e1, e2]
          rfl
        · rw [if_neg c2] at e2 ⊢
          rw [e1, e2]
          rfl
  exact key _ 0 rfl (Nat.zero_le _)
/-- What the choice b takes of the first i numbers: how many, and their sum. -/
def pc (g : Nat → Int) (b : Nat) : Nat → Nat × Int
  | 0 => (0, 0)
  | i + 1 => if b / 2 ^ i % 2 = 1 then ((pc g b i).1 + 1, (pc g b i).2 + g i) else pc g b i
theorem pc_high (g : Nat → Int) (n b : Nat) : ∀ i, i ≤ n → pc g (2 ^ n + b) i = pc g b i := by
  intro i
  induction i with
  | zero => intro _; rfl
  | succ i ih =>
    intro hi
    have e : (2 ^ n + b) / 2 ^ i % 2 = b / 2 ^ i % 2 := by
      have h2 : 2 ^ n = 2 ^ i * (2 * 2 ^ (n - i - 1)) := by
        rw [← Nat.pow_succ', ← Nat.pow_add]
        congr 1
        omega
      rw [h2, Nat.mul_add_div (Nat.pow_pos (by decide)), Nat.mul_add_mod]
    simp only [pc]
    rw [ih (by omega), e]
theorem pc_subs (g : Nat → Int) : ∀ n, ((List.range (2 ^ n)).map fun b => pc g b n).Perm (Tst.subs ((List.range n).map g)) := by
  intro n
  induction n with
  | zero => exact .refl _
  | succ n ih =>
    have h1 : (Tst.subs ((List.range (n + 1)).map g)).Perm (Tst.subs (g n :: (List.range n).map g)) := by
      refine Tst.subs_perm ?_
      rw [List.range_succ, List.map_append]
      exact List.perm_append_comm
    refine List.Perm.trans ?_ h1.symm
    have h2 : 2 ^ (n + 1) = 2 ^ n + 2 ^ n := by rw [Nat.pow_succ]; omega
    rw [h2, List.range_add, List.map_append, List.map_map]
    simp only [Tst.subs]
    refine List.Perm.append ?_ ?_
    · have : ((List.range (2 ^ n)).map fun b => pc g b (n + 1)) = (List.range (2 ^ n)).map fun b => pc g b n := by
        refine List.map_congr_left fun b hb => ?_
        have hlt := List.mem_range.1 hb
        simp only [pc]
        rw [Nat.div_eq_of_lt hlt]
        rfl
      rw [this]
      exact ih
    · have : (List.range (2 ^ n)).map ((fun b => pc g b (n + 1)) ∘ fun x => 2 ^ n + x) = ((List.range (2 ^ n)).map fun b => pc g b n).map fun p => (p.1 + 1, p.2 + g n) := by
        rw [List.map_map]
        refine List.map_congr_left fun b hb => ?_
        have hlt := List.mem_range.1 hb
        simp only [Function.comp, pc]
        rw [Nat.add_div_left _ (Nat.pow_pos (by decide)), Nat.div_eq_of_lt hlt, pc_high g n b n (Nat.le_refl _)]
        rfl
      rw [this]
      exact ih.map _
theorem pc_bd (g : Nat → Int) (b B : Nat) (hg : ∀ i, 0 ≤ g i ∧ g i ≤ (B : Int)) : ∀ i, (pc g b i).1 ≤ i ∧ 0 ≤ (pc g b i).2 ∧ (pc g b i).2 ≤ (i : Int) * B := by
  intro i
  induction i with
  | zero => simp [pc]
  | succ i ih =>
    have := hg i
    have e : ((i + 1 : Nat) : Int) * B = (i : Int) * B + B := by rw [Int.natCast_add, Int.add_mul]; simp
    simp only [pc]
    rw [e]
    split
    · exact ⟨by simp; omega, by simp; omega, by simp; omega⟩
    · exact ⟨by omega, by omega, by omega⟩
theorem shl_two : ∀ n, n < 10 → shl .i64 1 ((n : Nat) : Int) = ((2 ^ n : Nat) : Int) := by decide
theorem shr_two (b i : Nat) (hi : i < 10) : (Int.tmod (shr .i64 (b : Int) (i : Int)) 2 = 1) = (b / 2 ^ i % 2 = 1) := by
  have h : shr .i64 (b : Int) (i : Int) = ((b / 2 ^ i : Nat) : Int) := by
    unfold shr
    have : min ((i : Int)).toNat IntKind.i64.bits = i := by
      simp only [IntKind.bits, Int.toNat_natCast]
      omega
    rw [this]
    simp
  rw [h]
  have h2 : Int.tmod ((b / 2 ^ i : Nat) : Int) 2 = ((b / 2 ^ i % 2 : Nat) : Int) := rfl
  rw [h2]
  apply propext
  omega
def far (m n : Nat) (S : Int) : Int := ab (-mu m n + S)
def isT (m : Nat) (p : Nat × Int) : Bool := decide (p.1 = m)
def isE (m : Nat) (M F : Int) (p : Nat × Int) : Bool := decide (p.1 = m) && decide (F ≤ max (p.2 - M) (M - p.2))
def cnt (g : Nat → Int) (n : Nat) (q : Nat × Int → Bool) (b : Nat) : Nat := ((List.range b).map fun b => pc g b n).countP q
theorem cnt_succ (g : Nat → Int) (n : Nat) (q : Nat × Int → Bool) (b : Nat) : cnt g n q (b + 1) = cnt g n q b + (if q (pc g b n) = true then 1 else 0) := by
  unfold cnt
  rw [List.range_succ, List.map_append, List.countP_append]
  simp [List.countP_cons]
theorem cnt_le (g : Nat → Int) (n : Nat) (q : Nat × Int → Bool) (b : Nat) : cnt g n q b ≤ b := by
  unfold cnt
  refine Nat.le_trans List.countP_le_length ?_
  simp
theorem mid_get (L : List Int) (hL : L.length ≤ 9) (i : Nat) : 1 ≤ Tst.mid L (rd L (i : Int)) ∧ Tst.mid L (rd L (i : Int)) ≤ 19 := by
  have := Tst.mid_bd L (rd L (i : Int))
  omega
theorem range_ranks (L : List Int) : (List.range L.length).map (fun i : Nat => Tst.mid L (rd L (i : Int))) = Tst.ranks L := by
  unfold Tst.ranks
  apply List.ext_getElem
  · simp
  · intro i h1 h2
    have h3 : i < L.length := by simpa using h1
    simp [rd, List.getD, List.getElem?_eq_getElem h3]
section
variable (x0 x1 : List Int) (hn : (x0 ++ x1).length ≤ 9) (x5 x6 M F : Int) (hM : 0 ≤ M ∧ M ≤ 1000) (hF : 0 ≤ F ∧ F ≤ 1000)
include hn hM hF
set_option maxHeartbeats 8000000 in
theorem tests_l2 (b : Nat) (r : Bool) (E T : Nat) (hE : E ≤ 1000) (hT : T ≤ 1000) (hb : b ≤ 600)
    (hK : Ev (fun k => sleuthlaw45_ChangepointTests.l1 k x0 x5 x6 0 (x0 ++ x1) M F ((E + (if isE x0.length M F (pc (fun i : Nat => Tst.mid (x0 ++ x1) (rd (x0 ++ x1) (i : Int))) b (x0 ++ x1).length) = true then 1 else 0) : Nat) : Int) ((T + (if isT x0.length (pc (fun i : Nat => Tst.mid (x0 ++ x1) (rd (x0 ++ x1) (i : Int))) b (x0 ++ x1).length) = true then 1 else 0) : Nat) : Int) ((b + 1 : Nat) : Int)) r) :
    ∀ d i : Nat, (x0 ++ x1).length - i = d → i ≤ (x0 ++ x1).length → Ev (fun k => sleuthlaw45_ChangepointTests.l2 k x0 x5 x6 0 (x0 ++ x1) M F (E : Int) (T : Int) (b : Int) ((pc (fun i : Nat => Tst.mid (x0 ++ x1) (rd (x0 ++ x1) (i : Int))) b i).1 : Int) (pc (fun i : Nat => Tst.mid (x0 ++ x1) (rd (x0 ++ x1) (i : Int))) b i).2 (i : Int)) r := by
  generalize hg : (fun i : Nat => Tst.mid (x0 ++ x1) (rd (x0 ++ x1) (i : Int))) = g at hK ⊢
  have hgb : ∀ i, 0 ≤ g i ∧ g i ≤ ((19 : Nat) : Int) := fun i => by
    rw [← hg]
    have := mid_get (x0 ++ x1) hn i
    simp only
    omega
  intro d
  induction d with
  | zero =>
    intro i hd hi
    have hi' : i = (x0 ++ x1).length := by omega
    subst hi'
    have hp := pc_bd g b 19 hgb (x0 ++ x1).length
    have hp2 : (pc g b (x0 ++ x1).length).2 ≤ 9 * 19 := by omega
    generalize pc g b (x0 ++ x1).length = p at hK hp hp2 ⊢
    refine Ev.step (fun k => ?_) hK
    simp only [sleuthlaw45_ChangepointTests.l2]
    rw [if_neg (by omega)]
    rw [w64 (x := (b : Int) + 1) (by omega) (by omega), w64 (x := (E : Int) + 1) (by omega) (by omega), w64 (x := (T : Int) + 1) (by omega) (by omega), w64 (x := p.2 - M) (by omega) (by omega), w64 (x := M - p.2) (by omega) (by omega)]
    unfold isE isT
    by_cases c1 : p.1 = x0.length
    · rw [if_pos (by omega)]
      by_cases c2 : p.2 - M ≥ F
      · rw [if_pos c2]
        have : F ≤ max (p.2 - M) (M - p.2) := by omega
        simp only [c1, this, decide_true, Bool.and_self, if_true]
        rfl
      · rw [if_neg c2]
        by_cases c3 : M - p.2 ≥ F
        · rw [if_pos c3]
          have : F ≤ max (p.2 - M) (M - p.2) := by omega
          simp only [c1, this, decide_true, Bool.and_self, if_true]
          rfl
        · rw [if_neg c3]
          have : ¬ F ≤ max (p.2 - M) (M - p.2) := by omega
          simp only [c1, this, decide_true, decide_false, Bool.and_false, if_true]
          rfl
    · rw [if_neg (by omega)]
      simp only [c1, decide_false, Bool.false_and]
      rfl
  | succ d ih =>
    intro i hd hi
    have hlt : i < (x0 ++ x1).length := by omega
    have hp := pc_bd g b 19 hgb i
    have hp2 : (pc g b i).2 ≤ 9 * 19 := by omega
    have hk := ih (i + 1) (by omega) (by omega)
    have hm := midrank_ev (x0 ++ x1) (by omega) (rd (x0 ++ x1) (i : Int))
    have hgi : g i = Tst.mid (x0 ++ x1) (rd (x0 ++ x1) (i : Int)) := by rw [← hg]
    rw [← hgi] at hm
    have := hgb i
    have i1 : (i : Int) < ((x0 ++ x1).length : Int) := by omega
    have i2 : (0 : Int) ≤ (i : Int) := by omega
    have i3 : i < 10 := by omega
    have u1 : wrap64 (((pc g b i).1 : Int) + 1) = (((pc g b i).1 + 1 : Nat) : Int) := by rw [w64 (by omega) (by omega)]; omega
    have u2 : wrap64 ((pc g b i).2 + g i) = (pc g b i).2 + g i := w64 (by omega) (by omega)
    have hw : wrap64 ((i : Int) + 1) = ((i + 1 : Nat) : Int) := by rw [w64 (by omega) (by omega)]; omega
    by_cases c : b / 2 ^ i % 2 = 1
    · have e : pc g b (i + 1) = ((pc g b i).1 + 1, (pc g b i).2 + g i) := by simp only [pc, if_pos c]
      rw [e] at hk
      refine Ev.step (f := fun k => (sleuthlaw45_midrank.f k (x0 ++ x1) (rd (x0 ++ x1) (i : Int))).bind fun t => sleuthlaw45_ChangepointTests.l2 k x0 x5 x6 0 (x0 ++ x1) M F (E : Int) (T : Int) (b : Int) (wrap64 (((pc g b i).1 : Int) + 1)) (wrap64 ((pc g b i).2 + t)) (wrap64 ((i : Int) + 1))) (fun k => ?_) (Ev.bind hm ?_)
      · simp only [sleuthlaw45_ChangepointTests.l2]
        rw [if_pos i1, if_pos i2]
        simp only [shr_two b i i3]
        rw [if_pos c]
      · rw [hw, u1, u2]
        exact hk
    · have e : pc g b (i + 1) = pc g b i := by simp only [pc, if_neg c]
      rw [e] at hk
      refine Ev.step (fun k => ?_) hk
      simp only [sleuthlaw45_ChangepointTests.l2]
      rw [if_pos i1, if_pos i2, hw]
      simp only [shr_two b i i3]
      rw [if_neg c]
theorem tests_l1 (hx5 : x5 = (Tst.ext (Tst.ranks (x0 ++ x1)) x0.length M F : Nat)) (hx6 : x6 = (Tst.total (Tst.ranks (x0 ++ x1)) x0.length : Nat)) :
    ∀ d b : Nat, 2 ^ (x0 ++ x1).length - b = d → b ≤ 2 ^ (x0 ++ x1).length → Ev (fun k => sleuthlaw45_ChangepointTests.l1 k x0 x5 x6 0 (x0 ++ x1) M F (cnt (fun i : Nat => Tst.mid (x0 ++ x1) (rd (x0 ++ x1) (i : Int))) (x0 ++ x1).length (isE x0.length M F) b : Nat) (cnt (fun i : Nat => Tst.mid (x0 ++ x1) (rd (x0 ++ x1) (i : Int))) (x0 ++ x1).length (isT x0.length) b : Nat) (b : Int)) true := by
  have h512 : 2 ^ (x0 ++ x1).length ≤ 512 := Nat.pow_le_pow_right (by decide) hn
  intro d
  induction d with
  | zero =>
    intro b hd hb
    have hb' : b = 2 ^ (x0 ++ x1).length := by omega
    subst hb'
    have hp := pc_subs (fun i : Nat => Tst.mid (x0 ++ x1) (rd (x0 ++ x1) (i : Int))) (x0 ++ x1).length
    rw [range_ranks] at hp
    have e1 : cnt (fun i : Nat => Tst.mid (x0 ++ x1) (rd (x0 ++ x1) (i : Int))) (x0 ++ x1).length (isE x0.length M F) (2 ^ (x0 ++ x1).length) = Tst.ext (Tst.ranks (x0 ++ x1)) x0.length M F := hp.countP_eq _
    have e2 : cnt (fun i : Nat => Tst.mid (x0 ++ x1) (rd (x0 ++ x1) (i : Int))) (x0 ++ x1).length (isT x0.length) (2 ^ (x0 ++ x1).length) = Tst.total (Tst.ranks (x0 ++ x1)) x0.length := hp.countP_eq _
    refine Ev.step (f := fun _ => some true) (fun k => ?_) (Ev.now _)
    rw [e1, e2]
    simp only [sleuthlaw45_ChangepointTests.l1]
    rw [if_neg (by rw [shl_two _ (by omega)]; omega)]
    simp only [if_true]
    rw [if_pos hx5, hx6]
    simp
  | succ d ih =>
    intro b hd hb
    have hk := ih (b + 1) (by omega) (by omega)
    have l1 := cnt_le (fun i : Nat => Tst.mid (x0 ++ x1) (rd (x0 ++ x1) (i : Int))) (x0 ++ x1).length (isE x0.length M F) b
    have l2 := cnt_le (fun i : Nat => Tst.mid (x0 ++ x1) (rd (x0 ++ x1) (i : Int))) (x0 ++ x1).length (isT x0.length) b
    rw [cnt_succ, cnt_succ] at hk
    have h2 := tests_l2 x0 x1 hn x5 x6 M F hM hF b true _ _ (by omega) (by omega) (by omega) hk _ 0 rfl (Nat.zero_le _)
    refine Ev.step (fun k => ?_) h2
    simp only [sleuthlaw45_ChangepointTests.l1]
    rw [if_pos (by rw [shl_two _ (by omega)]; omega)]
    rfl
end
theorem tests_l0 (x0 x1 : List Int) (hn : (x0 ++ x1).length ≤ 9) (x5 x6 M : Int) (hM : 0 ≤ M ∧ M ≤ 500) (r : Bool)
    (hK : Ev (fun k => sleuthlaw45_ChangepointTests.l1 k x0 x5 x6 0 (x0 ++ x1) M (ab (-M + Tst.sm (x0.map (Tst.mid (x0 ++ x1))))) 0 0 0) r) :
    ∀ d i : Nat, x0.length - i = d → i ≤ x0.length → Ev (fun k => sleuthlaw45_ChangepointTests.l0 k x0 x5 x6 0 (x0 ++ x1) M (Tst.sm ((x0.take i).map (Tst.mid (x0 ++ x1)))) (i : Int)) r := by
  have hsum : ∀ i, i ≤ x0.length → 0 ≤ Tst.sm ((x0.take i).map (Tst.mid (x0 ++ x1))) ∧ Tst.sm ((x0.take i).map (Tst.mid (x0 ++ x1))) ≤ 19 * (i : Int) := by
    intro i
    induction i with
    | zero => simp [Tst.sm]
    | succ i ih =>
      intro hi
      have := ih (by omega)
      have h1 := Tst.mid_bd (x0 ++ x1) (x0[i]'(by omega))
      rw [List.take_succ_eq_append_getElem (by omega), List.map_append, Tst.sm_append]
      simp only [List.map_cons, List.map_nil, Tst.sm]
      omega
  have hl : x0.length ≤ 9 := by
    rw [List.length_append] at hn
    omega
  intro d
  induction d with
  | zero =>
    intro i hd hi
    have hi' : i = x0.length := by omega
    subst hi'
    have := hsum x0.length (Nat.le_refl _)
    rw [List.take_length] at this ⊢
    refine Ev.step (fun k => ?_) hK
    simp only [sleuthlaw45_ChangepointTests.l0]
    rw [if_neg (by omega)]
    congr 1
    rw [w64 (by omega) (by omega), w64 (by omega) (by omega)]
    unfold mx ab
    split <;> omega
  | succ d ih =>
    intro i hd hi
    have hlt : i < x0.length := by omega
    have hk := ih (i + 1) (by omega) (by omega)
    have hs := hsum i (by omega)
    have h1 := Tst.mid_bd (x0 ++ x1) (x0[i]'(by omega))
    have e : rd x0 (i : Int) = x0[i] := by simp [rd, List.getD, List.getElem?_eq_getElem hlt]
    rw [List.take_succ_eq_append_getElem hlt, List.map_append, Tst.sm_append] at hk
    simp only [List.map_cons, List.map_nil, Tst.sm, Int.add_zero] at hk
    refine Ev.step (f := fun k => (sleuthlaw45_midrank.f k (x0 ++ x1) (rd x0 (i : Int))).bind fun t => sleuthlaw45_ChangepointTests.l0 k x0 x5 x6 0 (x0 ++ x1) M (wrap64 (Tst.sm ((x0.take i).map (Tst.mid (x0 ++ x1))) + t)) (wrap64 ((i : Int) + 1))) (fun k => ?_) (Ev.bind (midrank_ev (x0 ++ x1) (by omega) _) ?_)
    · simp only [sleuthlaw45_ChangepointTests.l0]
      rw [if_pos (by omega), if_pos (by omega)]
    · rw [e, w64 (by omega) (by omega), w64 (by omega) (by omega)]
      exact hk
theorem lawTests (l0 l1 : List Int) (h0 : l0.length ≤ 17592186044416) (h1 : l1.length ≤ 17592186044416) : Ev (fun k => sleuthlaw45_ChangepointTests.f k l0 l1) true := by
  unfold sleuthlaw45_ChangepointTests.f
  refine Ev.bind known_ev ?_
  simp only [if_true]
  rw [w64 (by omega) (by omega)]
  by_cases c : (l0.length : Int) + (l1.length : Int) > 9
  · rw [decide_eq_true c]
    refine Ev.step (f := fun k => (sleuthlaw45_known.f k).bind fun t => some t) (fun k => ?_) (Ev.bind known_ev (Ev.now true))
    simp only [sleuthlaw45_ChangepointTests.j0]
    rfl
  · rw [decide_eq_false c]
    by_cases hz : l0.length = 0 ∨ l1.length = 0
    · have ht : changepoint_Test.f l0 l1 = some (0, 0, 7) := by
        show testF l0 l1 = _
        unfold testF
        rw [if_pos hz, if_pos (by omega)]
      have hj : Ev (fun k => sleuthlaw45_ChangepointTests.j1 k l0 l1 0 0 7 true) true := by
        refine Ev.step (f := fun _ => some true) (fun k => ?_) (Ev.now _)
        simp only [sleuthlaw45_ChangepointTests.j1]
        rfl
      refine Ev.step (fun k => ?_) hj
      simp only [sleuthlaw45_ChangepointTests.j0]
      rw [if_neg (by decide), ht]
      simp only [Option.bind_some]
      by_cases e : l0.length = 0
      · rw [if_pos (by omega)]
      · rw [if_neg (by omega)]
        have : ((l1.length : Int) == 0) = true := by rw [beq_iff_eq]; omega
        rw [this]
    · have ht : changepoint_Test.f l0 l1 = some (((testE l0 l1 : Nat) : Int), ((testT l0 l1 : Nat) : Int), 0) := by
        show testF l0 l1 = _
        unfold testF
        rw [if_neg hz, if_neg (by omega)]
      have hn : (l0 ++ l1).length ≤ 9 := by rw [List.length_append]; omega
      have hmu : mu l0.length l1.length = (l0.length : Int) * (((l0 ++ l1).length : Int) + 1) := by
        unfold mu
        rw [List.length_append, Int.natCast_add]
      have hmb : 0 ≤ mu l0.length l1.length ∧ mu l0.length l1.length ≤ 90 := by
        rw [hmu]
        rw [List.length_append] at hn ⊢
        refine ⟨Int.mul_nonneg (by omega) (by omega), ?_⟩
        exact Int.le_trans (Int.mul_le_mul (c := 9) (d := 10) (by omega) (by omega) (by omega) (by decide)) (by decide)
      have hS : Tst.sm ((Tst.ranks (l0 ++ l1)).take l0.length) = Tst.sm (l0.map (Tst.mid (l0 ++ l1))) := by
        unfold Tst.ranks
        rw [List.map_append, List.take_left' (List.length_map ..)]
      have hSb : ∀ L : List Int, L.length ≤ 9 → 0 ≤ Tst.sm (L.map (Tst.mid (l0 ++ l1))) ∧ Tst.sm (L.map (Tst.mid (l0 ++ l1))) ≤ 19 * (L.length : Int) := by
        intro L
        induction L with
        | nil => intro _; simp [Tst.sm]
        | cons x L ih =>
          intro hL
          simp only [List.length_cons] at hL
          have := ih (by omega)
          have h1 := Tst.mid_bd (l0 ++ l1) x
          simp only [List.map_cons, Tst.sm, List.length_cons]
          omega
      have hS0 := hSb l0 (by rw [List.length_append] at hn; omega)
      have hF : 0 ≤ ab (-mu l0.length l1.length + Tst.sm (l0.map (Tst.mid (l0 ++ l1)))) ∧ ab (-mu l0.length l1.length + Tst.sm (l0.map (Tst.mid (l0 ++ l1)))) ≤ 1000 := by
        unfold ab
        omega
      have hk := tests_l1 l0 l1 hn (testE l0 l1 : Nat) (testT l0 l1 : Nat) (mu l0.length l1.length) (ab (-mu l0.length l1.length + Tst.sm (l0.map (Tst.mid (l0 ++ l1))))) (by omega) (by omega)
        (by unfold testE; rw [hS]) rfl _ 0 rfl (Nat.zero_le _)
      have hk0 := tests_l0 l0 l1 hn (testE l0 l1 : Nat) (testT l0 l1 : Nat) (mu l0.length l1.length) (by omega) true hk _ 0 rfl (Nat.zero_le _)
      have hj : Ev (fun k => sleuthlaw45_ChangepointTests.j1 k l0 l1 (testE l0 l1 : Nat) (testT l0 l1 : Nat) 0 false) true := by
        refine Ev.step (fun k => ?_) hk0
        simp only [sleuthlaw45_ChangepointTests.j1]
        rw [if_neg (by decide)]
        simp only [Option.bind_some, List.nil_append]
        rw [if_pos (by simp; omega), if_pos (by omega), w64 (x := _ + 1) (by omega) (by omega), ← hmu, w64 (by omega) (by omega)]
        rfl
      refine Ev.step (fun k => ?_) hj
      simp only [sleuthlaw45_ChangepointTests.j0]
      rw [if_neg (by decide), ht]
      simp only [Option.bind_some]
      rw [if_neg (by omega)]
      have : ((l1.length : Int) == 0) = false := by rw [beq_eq_false_iff_ne]; omega
      rw [this]
end Go.Proofs.Ytcjgmofgfblmnaa.Seg
