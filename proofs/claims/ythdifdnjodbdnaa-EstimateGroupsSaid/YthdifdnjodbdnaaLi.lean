/- The order of groups, grouping, estimate.lines. -/
import Derived.Test.YthdifdnjodbdnaaMm
import Derived.Test.YthdifdnjodbdnaaQgPre
import Derived.Test.YthdifdnjodbdnaaGs
import Derived.Test.YthdifdnjodbdnaaQgCmp
import Derived.Laws.StructEq
import Derived.Maps.RangeWalk

namespace Go.Proofs.Ythdifdnjodbdnaa.Q
open Go.RowKit Go.Proofs.YthdifdnjodbdnaaW.PrintWords Go.Proofs.YthdifdnjodbdnaaW.PrintLast Go.Proofs.YthdifdnjodbdnaaW.PrintMore
set_option linter.unusedVariables false
set_option linter.unusedSimpArgs false
set_option linter.unusedSimpArgs false
set_option linter.unusedSectionVars false
open Mr (pr)
def By_grouping.f (a0 : Int) : Option (Int × Bool) := Mr.grpF a0
def By_made.f : Option (List S41) := some []
def By_find.f (l : List S41) (a b c : ByteArray) : Option Bool := Mr.findF l a b c
def By_get.f (l : List S41) (a b c : ByteArray) : Option (Int × Int × Int × Int) := Mr.topF l a b c
def By_add.f (l : List S41) (a b c : ByteArray) : Option (List S41) := Mr.sumF l a b c
def By_put.f (l : List S41) (a b c : ByteArray) (x y z u : Int) : Option (List S41) := Mr.mergeF l a b c x y z u
def By_key.f (a0_0 : Int) (a0_1 : Int) (a0_2 : Int) (a0_3 : Int) (a0_4 : Int) (a0_5 : Int) (a0_6 : ByteArray) (a0_7 : ByteArray) (a0_8 : ByteArray) (a0_9 : Int) (a0_10 : Int) (a0_11 : Bool) (l0_12 : List S141) (l0_13 : List S146) (a1 : Int) : Option (ByteArray × ByteArray × ByteArray) := Mr.keyF a0_6 a0_7 a0_8 a1
set_option maxHeartbeats 1000000 in
set_option maxRecDepth 100000 in
theorem By_grouping.calls (a1 g : Int) (b : Bool) (w : World) (h : By_grouping.f a1 = some (g, b)) : Calls Try.prog 37 #[.int .i64 a1] w fun e w' => e = .returned (.tuple #[Mr.gv g, .bool b]) ∧ Drawn0 w w' := by
  have h' : (if a1 = 1 then (62, true) else if a1 = 2 then (63, true) else if a1 = 3 then (64, true) else ((0 : Int), false)) = (g, b) := Option.some.inj h
  clear h
  by_cases c1 : a1 = 1
  · rw [if_pos c1] at h'
    cases h'
    have b1 : (a1 == 1) = true := beq_iff_eq.mpr c1
    clear c1
    go_enter Try.func37, Try.ntmps37
    go_wp2
    go_ret2
    exact ⟨rfl, by repeat (first | exact Drawn0.refl _ | apply Drawn0.step)⟩
  · rw [if_neg c1] at h'
    have b1 : (a1 == 1) = false := beq_eq_false_iff_ne.mpr c1
    clear c1
    by_cases c2 : a1 = 2
    · rw [if_pos c2] at h'
      cases h'
      have b2 : (a1 == 2) = true := beq_iff_eq.mpr c2
      clear c2
      go_enter Try.func37, Try.ntmps37
      go_wp2
      go_ret2
      exact ⟨rfl, by repeat (first | exact Drawn0.refl _ | apply Drawn0.step)⟩
    · rw [if_neg c2] at h'
      have b2 : (a1 == 2) = false := beq_eq_false_iff_ne.mpr c2
      clear c2
      by_cases c3 : a1 = 3
      · rw [if_pos c3] at h'
        cases h'
        have b3 : (a1 == 3) = true := beq_iff_eq.mpr c3
        clear c3
        go_enter Try.func37, Try.ntmps37
        go_wp2
        go_ret2
        exact ⟨rfl, by repeat (first | exact Drawn0.refl _ | apply Drawn0.step)⟩
      · rw [if_neg c3] at h'
        cases h'
        have b3 : (a1 == 3) = false := beq_eq_false_iff_ne.mpr c3
        clear c3
        go_enter Try.func37, Try.ntmps37
        go_wp2
        go_ret2
        exact ⟨rfl, by repeat (first | exact Drawn0.refl _ | apply Drawn0.step)⟩
section
variable {w : World} {ops : Array Oper} {rest : List Oper} {o : Oper} {a : Act} {Q : Exit → Act → World → Prop}
theorem group_w (N : Option Tmp) (hd : o.dst = N) (hg : o.guard = none) {qs : Array Operand} {ts : Array TypeId} {y : Operand} {g : Int} (hop : o.op = .call { callee := .value y, args := qs, argTypes := ts }) (hy : a.eval y = Mr.gv g)
    {a0_0 a0_1 a0_2 a0_3 a0_4 a0_5 : Int} {a0_6 a0_7 a0_8 : ByteArray} {a0_9 a0_10 : Int} {a0_11 : Bool} {A0_12 : Option Addr} {c0_12 : Nat} {l0_12 : List S141} {A0_13 : Option Addr} {c0_13 : Nat} {l0_13 : List S146} {r1 r2 r3 : ByteArray}
    (hargs : qs.map a.eval = #[.agg #[.int .i64 a0_0, .int .i64 a0_1, .int .i64 a0_2, .int .i64 a0_3, .int .i64 a0_4, .int .i64 a0_5, .string a0_6, .string a0_7, .string a0_8, .int .i64 a0_9, .int .i64 a0_10, .bool a0_11, .slice A0_12 l0_12.length c0_12, .slice A0_13 l0_13.length c0_13]])
    (hr0_12 : Kd.C k141 w A0_12 l0_12.length l0_12) (hc0_12 : l0_12.length ≤ c0_12) (hr0_13 : Kd.C k146 w A0_13 l0_13.length l0_13) (hc0_13 : l0_13.length ≤ c0_13)
    (hf : By_key.f a0_0 a0_1 a0_2 a0_3 a0_4 a0_5 a0_6 a0_7 a0_8 a0_9 a0_10 a0_11 l0_12 l0_13 g = some (r1, r2, r3))
    (hK : ∀ w', Below w.heap.size w w' → wpList Try.prog ops Q rest (a.put N (.agg #[.string r1, .string r2, .string r3])) w') : wpList Try.prog ops Q (o :: rest) a w := by
  have hf' : Mr.keyF a0_6 a0_7 a0_8 g = some (r1, r2, r3) := hf
  unfold Mr.keyF at hf'
  split at hf'
  · rename_i e
    subst e
    cases hf'
    refine Mr.goesV_ N hd hg Try.func62 (by kernel_rfl) rfl _ hop (hy.trans rfl) hargs ((estimate_grouping_1.calls _ _ _ _ _ _ _ _ _ _ _ _ _ _ _ _ _ _ _ _ _ _ hr0_12 hc0_12 hr0_13 hc0_13 rfl).mono ?_)
    rintro e w' ⟨rfl, hb⟩
    exact ⟨_, rfl, hK w' hb⟩
  · split at hf'
    · rename_i e
      subst e
      cases hf'
      refine Mr.goesV_ N hd hg Try.func63 (by kernel_rfl) rfl _ hop (hy.trans rfl) hargs ((estimate_grouping_2.calls _ _ _ _ _ _ _ _ _ _ _ _ _ _ _ _ _ _ _ _ _ _ hr0_12 hc0_12 hr0_13 hc0_13 rfl).mono ?_)
      rintro e w' ⟨rfl, hb⟩
      exact ⟨_, rfl, hK w' hb⟩
    · split at hf'
      · rename_i e
        subst e
        cases hf'
        refine Mr.goesV_ N hd hg Try.func64 (by kernel_rfl) rfl _ hop (hy.trans rfl) hargs ((estimate_grouping_3.calls _ _ _ _ _ _ _ _ _ _ _ _ _ _ _ _ _ _ _ _ _ _ hr0_12 hc0_12 hr0_13 hc0_13 rfl).mono ?_)
        rintro e w' ⟨rfl, hb⟩
        exact ⟨_, rfl, hK w' hb⟩
      · cases hf'
end
end Go.Proofs.Ythdifdnjodbdnaa.Q
namespace Go.Proofs.Ythdifdnjodbdnaa.Srt
open Go.RowKit Go.Shelf Go.Proofs.YthdifdnjodbdnaaW.PrintWords Go.Proofs.YthdifdnjodbdnaaW.PrintLast Go.Proofs.YthdifdnjodbdnaaW.PrintMore Go.Sort Go.Lib Go.Proofs.Ythdifdnjodbdnaa.Q
set_option linter.unusedVariables false
set_option linter.unusedSimpArgs false
set_option linter.unusedSimpArgs false
abbrev bl := Op.bytesLess
theorem bl_irr : ∀ a : List UInt8, bl a a = false
  | [] => rfl
  | x :: a => by
    have h2 : ¬ x < x := fun e => by have := UInt8.lt_iff_toNat_lt.1 e; omega
    simp only [bl, Op.bytesLess, h2, decide_false, Bool.false_or, beq_self_eq_true, Bool.true_and]
    exact bl_irr a
theorem bl_cons (x y : UInt8) (a b : List UInt8) : bl (x :: a) (y :: b) = true ↔ x.toNat < y.toNat ∨ (x = y ∧ bl a b = true) := by
  simp [bl, Op.bytesLess, UInt8.lt_iff_toNat_lt]
theorem bl_trans : ∀ {a b c : List UInt8}, bl a b = true → bl b c = true → bl a c = true
  | [], _, [], _, h => by
    rename_i b _
    cases b <;> simp [bl, Op.bytesLess] at h
  | [], _, _ :: _, _, _ => rfl
  | _ :: _, [], _, h, _ => by simp [bl, Op.bytesLess] at h
  | _ :: _, _ :: _, [], _, h => by simp [bl, Op.bytesLess] at h
  | x :: a, y :: b, z :: c, h1, h2 => by
    rw [bl_cons] at h1 h2 ⊢
    rcases h1 with h1 | ⟨rfl, h1⟩
    · rcases h2 with h2 | ⟨rfl, h2⟩
      · exact .inl (by omega)
      · exact .inl h1
    · rcases h2 with h2 | ⟨rfl, h2⟩
      · exact .inl h2
      · exact .inr ⟨rfl, bl_trans h1 h2⟩
theorem bytes_eq {a b : ByteArray} (h : a.toList = b.toList) : a = b := by
  rw [ByteArray.toList_eq, ByteArray.toList_eq] at h
  exact ByteArray.ext (Array.toList_inj.1 h)
/-- cmp.Compare at strings. -/
def cS (a b : ByteArray) : Int := if bl a.toList b.toList = true then -1 else if bl b.toList a.toList = true then 1 else 0
theorem cS_f (a b : ByteArray) : cmp_Compare_string.f a b = some (cS a b) := by
  unfold cmp_Compare_string.f cmp_isNaN_string.f cS bl
  simp
  split
  · rfl
  · split <;> rfl
theorem cS_self (a : ByteArray) : cS a a = 0 := by simp [cS, bl_irr]
theorem cS_lt {a b : ByteArray} : cS a b < 0 ↔ bl a.toList b.toList = true := by
  unfold cS
  split
  · simp [*]
  · split <;> simp [*]
theorem cS_zero {a b : ByteArray} : cS a b = 0 ↔ a = b := by
  constructor
  · intro h
    unfold cS at h
    split at h
    · cases h
    · split at h
      · cases h
      · rename_i h1 h2
        have : (!(bl a.toList b.toList || a.toList == b.toList)) = bl b.toList a.toList := Str.less_trich a.toList b.toList
        rw [Bool.eq_false_iff.2 h1, Bool.eq_false_iff.2 h2] at this
        simp at this
        exact bytes_eq this
  · rintro rfl
    exact cS_self a
theorem cS_swap (a b : ByteArray) : cS b a = -cS a b := by
  unfold cS
  by_cases h1 : bl a.toList b.toList = true
  · have h2 : ¬ bl b.toList a.toList = true := fun h => by
      have := bl_trans h1 h
      rw [bl_irr] at this
      cases this
    rw [if_neg h2, if_pos h1]
    simp [h1]
  · by_cases h2 : bl b.toList a.toList = true
    · rw [if_pos h2, if_neg h1, if_pos h2]
    · rw [if_neg h2, if_neg h1, if_neg h1, if_neg h2]
      rfl
theorem cS_trans {a b c : ByteArray} (h1 : cS a b < 0) (h2 : cS b c < 0) : cS a c < 0 := cS_lt.2 (bl_trans (cS_lt.1 h1) (cS_lt.1 h2))
/-- estimate.compare. -/
def cG (x y : S39) : Int := if cS x.f0 y.f0 = 0 then (if cS x.f1 y.f1 = 0 then cS x.f2 y.f2 else cS x.f1 y.f1) else cS x.f0 y.f0
def cL (x y : S41) : Int := cG x.f0 y.f0
theorem or_f (k : Nat) (a b c : Int) : cmp_Or_int.f (k + 4) [a, b, c] = some (if a = 0 then (if b = 0 then c else b) else a) := by
  have w1 : wrap64 (0 + 1) = 1 := by unfold wrap64; omega
  have w2 : wrap64 (1 + 1) = 2 := by unfold wrap64; omega
  have w3 : wrap64 (2 + 1) = 3 := by unfold wrap64; omega
  have s : ∀ k i, cmp_Or_int.l0 (k + 1) 0 [a, b, c] 3 i = if i < 3 then (if 0 ≤ i then (if i < 3 then (if rd [a, b, c] i = 0 then cmp_Or_int.l0 k 0 [a, b, c] 3 (wrap64 (i + 1)) else some (rd [a, b, c] i)) else none) else none) else some 0 := fun k i => rfl
  show cmp_Or_int.l0 (k + 4) 0 [a, b, c] 3 0 = _
  rw [s (k + 3) 0, w1, s (k + 2) 1, w2, s (k + 1) 2, w3, s k 3]
  have r0 : rd [a, b, c] 0 = a := rfl
  have r1 : rd [a, b, c] 1 = b := rfl
  have r2 : rd [a, b, c] 2 = c := rfl
  rw [r0, r1, r2]
  by_cases ha : a = 0
  · by_cases hb : b = 0
    · by_cases hc : c = 0
      · simp [ha, hb, hc]
      · simp [ha, hb, hc]
    · simp [ha, hb]
  · simp [ha]
theorem cG_f (k : Nat) (x y : S39) : estimate_compare.f (k + 4) x.f0 x.f1 x.f2 y.f0 y.f1 y.f2 = some (cG x y) := by
  unfold estimate_compare.f
  rw [cS_f, cS_f, cS_f]
  simp only [Option.bind_some, or_f]
  rfl
theorem cL_ok : CmpOk 66 cL := by
  intro W x y
  refine (estimate_lines_1.calls 4 _ _ _ _ _ _ _ _ _ _ _ _ _ _ (cL x y) W ?_).mono ?_
  · unfold estimate_lines_1.f
    rw [show (4 : Nat) = 0 + 4 from rfl, cG_f 0 x.f0 y.f0]
    rfl
  · rintro e w' ⟨rfl, hg⟩
    exact ⟨rfl, hg.grown⟩
theorem cG_lt {x y : S39} : cG x y < 0 ↔ cS x.f0 y.f0 < 0 ∨ (x.f0 = y.f0 ∧ (cS x.f1 y.f1 < 0 ∨ (x.f1 = y.f1 ∧ cS x.f2 y.f2 < 0))) := by
  unfold cG
  rw [← @cS_zero x.f0 y.f0, ← @cS_zero x.f1 y.f1]
  split
  · split <;> omega
  · omega
theorem cG_zero {x y : S39} : cG x y = 0 ↔ x = y := by
  constructor
  · intro h
    unfold cG at h
    split at h
    · rename_i h0
      split at h
      · rename_i h1
        obtain ⟨a, b, c⟩ := x
        obtain ⟨d, e, f⟩ := y
        rw [cS_zero] at h h0 h1
        simp only at h h0 h1
        subst h h0 h1
        rfl
      · exact absurd h ‹_›
    · exact absurd h ‹_›
  · rintro rfl
    simp [cG, cS_self]
theorem cG_swap (x y : S39) : cG y x = -cG x y := by
  unfold cG
  rw [cS_swap x.f0 y.f0, cS_swap x.f1 y.f1, cS_swap x.f2 y.f2]
  split
  · rename_i h
    rw [if_pos (show cS x.f0 y.f0 = 0 by omega)]
    split
    · rename_i h1
      rw [if_pos (show cS x.f1 y.f1 = 0 by omega)]
    · rename_i h1
      rw [if_neg (show ¬ cS x.f1 y.f1 = 0 by omega)]
  · rename_i h
    rw [if_neg (show ¬ cS x.f0 y.f0 = 0 by omega)]
theorem cG_trans {x y z : S39} (h1 : cG x y < 0) (h2 : cG y z < 0) : cG x z < 0 := by
  rw [cG_lt] at h1 h2 ⊢
  rcases h1 with h1 | ⟨e1, h1⟩
  · rcases h2 with h2 | ⟨e2, h2⟩
    · exact .inl (cS_trans h1 h2)
    · exact .inl (e2 ▸ h1)
  · rcases h2 with h2 | ⟨e2, h2⟩
    · exact .inl (e1 ▸ h2)
    · refine .inr ⟨e1.trans e2, ?_⟩
      rcases h1 with h1 | ⟨e3, h1⟩
      · rcases h2 with h2 | ⟨e4, h2⟩
        · exact .inl (cS_trans h1 h2)
        · exact .inl (e4 ▸ h1)
      · rcases h2 with h2 | ⟨e4, h2⟩
        · exact .inl (e3 ▸ h2)
        · exact .inr ⟨e3.trans e4, cS_trans h1 h2⟩
/-! The insertion sort, on lists. -/
section
variable (lt : S41 → S41 → Bool)
def insRev (x : S41) : List S41 → List S41
  | [] => [x]
  | y :: r => if lt x y then y :: insRev x r else x :: y :: r
theorem get_mid (a : List S41) (x : S41) (b : List S41) (n : Nat) (h : a.length = n) : (a ++ x :: b).toArray[n]! = x := by
  subst h
  simp
theorem swp_mid (a : List S41) (x y : S41) (b : List S41) (n : Nat) (h : a.length = n) : Sort.swp (a ++ y :: x :: b).toArray (n + 1) n = (a ++ x :: y :: b).toArray := by
  have h1 : (a ++ y :: x :: b).toArray[n]! = y := get_mid a y _ n h
  have h2 : (a ++ y :: x :: b).toArray[n + 1]! = x := by
    have := get_mid (a ++ [y]) x b (n + 1) (by simp [h])
    simpa using this
  unfold Sort.swp
  rw [h1, h2]
  subst h
  simp [List.setIfInBounds_toArray, List.set_append]
theorem ins_inner : ∀ (pre : List S41) (x : S41) (post : List S41), Sort.insInner lt 0 pre.length (pre.reverse ++ x :: post).toArray = ((insRev lt x pre).reverse ++ post).toArray
  | [], x, post => by simp [Sort.insInner, insRev]
  | y :: r, x, post => by
    have e : (y :: r).reverse ++ x :: post = r.reverse ++ y :: x :: post := by simp
    rw [List.length_cons, Sort.insInner, e, get_mid r.reverse y _ r.length (by simp)]
    have g1 : (r.reverse ++ y :: x :: post).toArray[r.length + 1]! = x := by simp
    rw [g1]
    by_cases c : lt x y = true
    · rw [if_pos (by simp [c]), swp_mid _ _ _ _ _ (by simp), ins_inner r x (y :: post)]
      simp [insRev, c]
    · rw [if_neg (by simp [c])]
      simp [insRev, c]
theorem insRev_length (x : S41) : ∀ r : List S41, (insRev lt x r).length = r.length + 1
  | [] => rfl
  | y :: r => by
    unfold insRev
    split
    · simp [insRev_length x r]
    · rfl
theorem ins_outer : ∀ (post pre : List S41), Sort.insOuter lt 0 (pre.length + post.length) pre.length (pre.reverse ++ post).toArray = (post.foldl (fun r x => insRev lt x r) pre).reverse.toArray
  | [], pre => by
    unfold Sort.insOuter
    rw [if_neg (by simp)]
    simp
  | x :: post, pre => by
    unfold Sort.insOuter
    rw [if_pos (by simp), ins_inner]
    have := ins_outer post (insRev lt x pre)
    rw [insRev_length] at this
    rw [List.foldl_cons, ← this, List.length_cons]
    congr 1
    omega
theorem insertion (l : List S41) : Sort.insertionSort lt l.toArray 0 l.length = (l.foldl (fun r x => insRev lt x r) []).reverse.toArray := by
  unfold Sort.insertionSort
  cases l with
  | nil =>
    unfold Sort.insOuter
    rfl
  | cons x l =>
    have := ins_outer lt l [x]
    simp only [List.length_cons, List.length_nil, List.reverse_cons, List.reverse_nil, List.nil_append, List.singleton_append] at this
    rw [List.foldl_cons, List.length_cons]
    rw [show insRev lt x [] = [x] from rfl, ← this]
    congr 1
    omega
theorem insRev_perm (x : S41) : ∀ r : List S41, (insRev lt x r).Perm (x :: r)
  | [] => .refl _
  | y :: r => by
    unfold insRev
    split
    · exact ((insRev_perm x r).cons y).trans (.swap _ _ _)
    · exact .refl _
theorem fold_perm : ∀ (post pre : List S41), (post.foldl (fun r x => insRev lt x r) pre).Perm (pre ++ post)
  | [], pre => by simp
  | x :: post, pre => by
    rw [List.foldl_cons]
    refine (fold_perm post _).trans ?_
    refine ((insRev_perm lt x pre).append_right post).trans ?_
    exact (List.perm_middle (l₁ := pre)).symm
variable (T : S41 → S41 → Prop) (hT : ∀ x y z, T x y → T y z → T x z)
include hT
theorem insRev_sorted (x : S41) : ∀ r : List S41, r.Pairwise (fun a b => T b a) → (∀ y ∈ r, if lt x y = true then T x y else T y x) → (insRev lt x r).Pairwise (fun a b => T b a)
  | [], _, _ => by simp [insRev]
  | y :: r, h, hc => by
    rw [List.pairwise_cons] at h
    have hy := hc y List.mem_cons_self
    unfold insRev
    split
    · rename_i c
      rw [if_pos c] at hy
      refine List.pairwise_cons.2 ⟨fun z hz => ?_, insRev_sorted x r h.2 (fun z hz => hc z (List.mem_cons_of_mem _ hz))⟩
      rcases List.mem_cons.1 ((insRev_perm lt x r).mem_iff.1 hz) with rfl | hz
      · exact hy
      · exact h.1 z hz
    · rename_i c
      rw [if_neg c] at hy
      refine List.pairwise_cons.2 ⟨fun z hz => ?_, List.pairwise_cons.2 h⟩
      rcases List.mem_cons.1 hz with rfl | hz
      · exact hy
      · exact hT _ _ _ (h.1 z hz) hy
theorem fold_sorted : ∀ (post pre : List S41), pre.Pairwise (fun a b => T b a) → (∀ y ∈ pre, ∀ x ∈ post, if lt x y = true then T x y else T y x) → post.Pairwise (fun y x => if lt x y = true then T x y else T y x) →
    (post.foldl (fun r x => insRev lt x r) pre).Pairwise (fun a b => T b a)
  | [], pre, h, _, _ => h
  | x :: post, pre, h, h1, h2 => by
    rw [List.foldl_cons]
    rw [List.pairwise_cons] at h2
    refine fold_sorted post _ (insRev_sorted lt T hT x pre h (fun y hy => h1 y hy x List.mem_cons_self)) (fun y hy z hz => ?_) h2.2
    rcases List.mem_cons.1 ((insRev_perm lt x pre).mem_iff.1 hy) with rfl | hy
    · exact h2.1 z hz
    · exact h1 y hy z (List.mem_cons_of_mem _ hz)
end
theorem insS_eq (cf : S41 → S41 → Int) (l : List S41) : insS cf l = (l.foldl (fun r x => insRev (ltOf cf) x r) []).reverse := by
  unfold insS
  rw [insertion]
theorem insS_perm (cf : S41 → S41 → Int) (l : List S41) : (insS cf l).Perm l := by
  rw [insS_eq]
  exact (List.reverse_perm _).trans (fold_perm _ l [])
theorem insS_sorted (cf : S41 → S41 → Int) (T : S41 → S41 → Prop) (hT : ∀ x y z, T x y → T y z → T x z) (l : List S41) (h : l.Pairwise (fun y x => if ltOf cf x y = true then T x y else T y x)) : (insS cf l).Pairwise T := by
  rw [insS_eq, List.pairwise_reverse]
  exact fold_sorted _ T hT l [] .nil (fun _ h => by cases h) h
/-- Lines in order, no group twice. -/
def Asc (l : List S41) : Prop := l.Pairwise (fun a b => cL a b < 0)
def Keys (l : List S41) : Prop := l.Pairwise (fun a b => a.f0 ≠ b.f0)
/-- What estimate.lines makes of a map. -/
def srt (l : List S41) : List S41 := insS cL l
theorem srt_perm (l : List S41) : (srt l).Perm l := insS_perm _ _
theorem srt_asc {l : List S41} (h : Keys l) : Asc (srt l) := by
  refine insS_sorted cL (fun x y => cL x y < 0) (fun x y z h1 h2 => cG_trans h1 h2) l (h.imp fun {a b} hab => ?_)
  unfold ltOf
  split
  · rename_i c
    exact of_decide_eq_true c
  · rename_i c
    have c' : ¬ cL b a < 0 := fun e => c (decide_eq_true e)
    have hz : cL a b ≠ 0 := fun e => hab (cG_zero.1 e)
    have hs : cL b a = -cL a b := cG_swap a.f0 b.f0
    show cL a b < 0
    omega
theorem Keys.perm {l l' : List S41} (h : Keys l) (hp : l.Perm l') : Keys l' := (hp.pairwise_iff (fun h => Ne.symm h)).1 h
theorem asc_uniq {l l' : List S41} (h : Asc l) (h' : Asc l') (hp : l.Perm l') : l = l' := by
  refine hp.eq_of_pairwise ?_ h h'
  intro a b _ _ h1 h2
  have hs : cL b a = -cL a b := cG_swap a.f0 b.f0
  omega
theorem srt_eq {l l' : List S41} (h : Keys l) (hp : l.Perm l') : srt l' = srt l := asc_uniq (srt_asc (h.perm hp)) (srt_asc h) (((srt_perm l').trans hp.symm).trans (srt_perm l).symm)
end Go.Proofs.Ythdifdnjodbdnaa.Srt
namespace Go.Proofs.Ythdifdnjodbdnaa.Q
open Go.RowKit Go.Proofs.YthdifdnjodbdnaaW.PrintWords Go.Proofs.YthdifdnjodbdnaaW.PrintLast Go.Proofs.YthdifdnjodbdnaaW.PrintMore
open Mr (pr kvG mT good)
set_option linter.unusedVariables false
set_option linter.unusedSimpArgs false
set_option linter.unusedSimpArgs false
set_option linter.unusedSectionVars false
/-- What estimate.lines gives for a map with these entries. -/
def estimate_lines.f (l : List S41) : Option (List S41) := if l.length ≤ 12 then some (Srt.srt l) else none
theorem lines_info : (Try.prog.info? 41).map (fun i => (i.zero, i.size, i.bytes)) = some (some (.agg #[.string ⟨#[]⟩, .string ⟨#[]⟩, .string ⟨#[]⟩, .int .i64 0, .int .i64 0, .int .i64 0, .int .i64 0]), 7, 80) := by kernel_rfl
abbrev RgL (w : World) (b r : Nat) (l rest : List S41) : Prop := Mp.Rg kvG mT.vv good w b r (l.map pr) (rest.map pr)
theorem erase_perm {α : Type} : ∀ (l : List α) (i : Nat) (h : i < l.length), l.Perm (l[i] :: l.eraseIdx i)
  | x :: l, 0, _ => .refl _
  | x :: l, i + 1, h => by
    rw [List.getElem_cons_succ, List.eraseIdx_cons_succ]
    exact ((erase_perm l i (by simpa using h)).cons x).trans (.swap _ _ _)
section
variable {w : World} {ops : Array Oper} {rest : List Oper} {o : Oper} {a : Act} {Q : Exit → Act → World → Prop} {base : Nat} {ok : Nat → Prop} {v : Value} {l : List S41}
theorem range_w (hg : o.guard = none) (m : Operand) (hop : o.op = Op.range 97 m) (hm : a.eval m = v) (h : Mr.R mT w base ok v l)
    (hK : ∀ b w', b < w.heap.size → RgL w' b w.heap.size l l → Below w.heap.size w w' → w'.heap.size = w.heap.size + 1 → wpList Try.prog ops Q rest (a.put o.dst (.pointer (some ⟨w.heap.size, 0, none⟩))) w') : wpList Try.prog ops Q (o :: rest) a w := by
  obtain ⟨b, rfl, h1, h2, h3⟩ := h
  obtain ⟨ob, hrun, hrg⟩ := h3.range (P := Try.prog) Try.underlying97
  refine wpList_plain hg fun K' hK' => ?_
  unfold Oper.wp
  simp [execOp, hop, hm, hrun, Result.andThen]
  exact hK' _ _ (hK b _ h3.lt hrg (below_alloc (Below.refl _ _) _) (by show (w.heap.push _).size = _; rw [Array.size_push]))
theorem next_w (hg : o.guard = none) (it : Operand) (hop : o.op = Op.next it false) {b r : Nat} {rs : List S41} (hit : a.eval it = .pointer (some ⟨r, 0, none⟩)) (h : RgL w b r l rs) (hbr : b ≠ r)
    (hDone : rs = [] → wpList Try.prog ops Q rest (a.put o.dst (.tuple #[.bool false])) w)
    (hMore : ∀ (s1 s2 s3 : ByteArray) (n1 n2 n3 n4 : Int) (rs' : List S41) (w' : World), rs.Perm (⟨⟨s1, s2, s3⟩, ⟨n1, n2, n3, n4⟩⟩ :: rs') → RgL w' b r l rs' → w.grownBy w' (some r) → w'.heap.size = w.heap.size →
      (Instr.entry (.pointer (some ⟨r, 0, none⟩))).run Try.prog w' = .ok (.tuple #[.agg #[.string s1, .string s2, .string s3], .agg #[.int .i64 n1, .int .i64 n2, .int .i64 n3, .int .i64 n4]]) w' →
      wpList Try.prog ops Q rest (a.put o.dst (.tuple #[.bool true, .agg #[.string s1, .string s2, .string s3], .agg #[.int .i64 n1, .int .i64 n2, .int .i64 n3, .int .i64 n4]])) w') : wpList Try.prog ops Q (o :: rest) a w := by
  refine wpList_plain hg fun K' hK' => ?_
  unfold Oper.wp
  rcases Mp.Rg.next (P := Try.prog) h hbr o.type with ⟨h0, hrun⟩ | ⟨i, hi, w', hrun, hent, hrg, hgr, hsz⟩
  · simp [execOp, hop, hit, hrun, Result.andThen]
    exact hK' _ _ (hDone (List.map_eq_nil_iff.1 h0))
  · have hi' : i < rs.length := by simpa using hi
    have ex : (rs.map pr)[i] = pr rs[i] := by simp
    rw [ex] at hrun hent
    simp [execOp, hop, hit, hrun, Result.andThen]
    refine hK' _ _ (hMore rs[i].f0.f0 rs[i].f0.f1 rs[i].f0.f2 rs[i].f1.f0 rs[i].f1.f1 rs[i].f1.f2 rs[i].f1.f3 (rs.eraseIdx i) w' ?_ ?_ hgr hsz hent)
    · exact erase_perm rs i hi'
    · show Mp.Rg kvG mT.vv good w' b r (l.map pr) ((rs.eraseIdx i).map pr)
      rw [Go.ChangeMaps.map_eraseIdx]
      exact hrg
end
theorem sz2 (w : World) (o1 o2 : Obj) : ((w.alloc o1).alloc o2).heap.size = w.heap.size + 1 + 1 := by
  show ((w.heap.push o1).push o2).size = _
  rw [Array.size_push, Array.size_push]
theorem Rg_keep {w w1 : World} {b r : Nat} {l rs : List S41} {v : Value} (h : RgL w b r l rs) (o1 o2 : Obj) (hg : ((w.alloc o1).alloc o2).grownBy w1 v.ownBlock) (hb : ∀ k, v.ownBlock = some k → r ≤ k) (hr : ∀ k, v.ownBlock = some k → k ≠ r) (hbr : b < r) : RgL w1 b r l rs := by
  refine ((h.kept (World.grownBy_alloc w o1 none) (by simp) (by simp)).kept (World.grownBy_alloc _ o2 none) (by simp) (by simp)).kept hg ?_ ?_
  · intro e
    have := hb b e.symm
    omega
  · intro e
    exact hr r e.symm rfl
set_option maxHeartbeats 4000000 in
set_option maxRecDepth 100000 in
theorem estimate_lines.calls (v : Value) (l r : List S41) (w : World) (hR : ∃ base ok, Mr.R mT w base ok v l) (h : estimate_lines.f l = some r) :
    Calls Try.prog 40 #[v] w fun e w' => ∃ v0_ : Value, e = .returned (v0_) ∧ Kd.R k41 41 w' w.heap.size (fun _ => True) v0_ r ∧ Below w.heap.size w w' := by
  obtain ⟨base, ok, hR⟩ := hR
  unfold estimate_lines.f at h
  split at h
  case isFalse => cases h
  rename_i hl
  cases h
  have HLN := Aside0.mk hl
  have HKEY : Aside0 (Srt.Keys l) := by
    obtain ⟨b, _, _, _, h3⟩ := hR
    have hn := h3.nodup
    refine ⟨?_⟩
    have h2 : (l.map fun x => x.f0).Nodup := by simpa [List.map_map, Function.comp_def] using hn
    exact List.pairwise_map.1 h2
  have HR := Aside0.mk hR
  obtain ⟨bo, hv⟩ := Mr.R_map hR
  subst hv
  clear hR hl
  go_enter Try.func40, Try.ntmps40
  go_wp2_with (first
    | (at_range; refine range_w rfl _ rfl rfl HR.out ?_; intro b w0 hblt hrg0 hb0 hs0)
    | go_in)
  go_frame
  have HB0 := Aside0.mk hb0
  have HRG0 := Aside0.mk hrg0
  have HS0 := Aside0.mk hs0
  have HBW := Aside0.mk hblt
  clear hb0 hrg0 hs0 hblt HR
  go_loopg [3] l.length (fun kq v3 wr => ∃ (acc rs : List S41), Aside0 (Kd.R k41 41 wr w.heap.size (fun g => g ≠ w.heap.size) v3 acc) ∧ Aside0 (RgL wr b w.heap.size l rs) ∧ Aside0 ((acc ++ rs).Perm l) ∧ Aside0 (rs.length = kq) ∧ Aside0 (Below w.heap.size w wr))
  case atStart => exact ⟨[], l, ⟨Kd.R_nil _ _ _ _ _⟩, HRG0, ⟨.refl _⟩, ⟨rfl⟩, HB0⟩
  case round =>
    obtain ⟨acc, rs, HO, HG, HP, HK, HB⟩ := hrel
    go_wp2_with (first
      | (at_next; refine next_w rfl _ rfl rfl HG.out (Nat.ne_of_lt HBW.out) ?_ ?_)
      | go_in)
    · intro hrs
      subst hrs
      have hp : acc.Perm l := by have := HP.out; rwa [List.append_nil] at this
      have HS := Aside0.mk (Srt.srt_eq (HKEY.out.perm hp.symm) hp)
      have hlen : acc.length ≤ 12 := by rw [hp.length_eq]; exact HLN.out
      have hsort := Srt.sortFunc_calls 66 Srt.cL (fun args w => enters_ Try.func66 (by kernel_rfl) rfl args w) Srt.cL_ok _ _ acc w wr HB.out HO.out hlen
      clear hlen hp HP HG HK HB HO
      go_wp2_with (go_at_call 65; refine hsort.mono ?_; rintro e w' ⟨rfl, ho, hb, hk⟩; have HF := Aside0.mk ho; have HB := Aside0.mk hb; clear ho hb hk hsort)
      go_ret
      exact ⟨_, rfl, by rw [HS.out]; exact Kd.R_mono HF.out (fun _ _ => trivial), HB.out⟩
    · intro s1 s2 s3 n1 n2 n3 n4 rs' w' hp hg hgr hsz hen
      have HO2 := Aside0.mk (Kd.R_grown HO.out hgr (fun k hk e => hk (Option.some.inj e)))
      have HB2 := Aside0.mk (HB.out.grown hgr HB.out.size (fun k hk => by cases hk; exact Nat.le_refl _))
      have HP2 := Aside0.mk hp
      have HG2 := Aside0.mk hg
      clear hgr hsz hp hg HO HB HG
      go_wp2_with (at_builtin; refine Kd.R_append k41 (w0 := w) w.heap.size rfl (.tmp 13) (.tmp 17) 32 41 (.agg #[.string ⟨#[]⟩, .string ⟨#[]⟩, .string ⟨#[]⟩, .int .i64 0, .int .i64 0, .int .i64 0, .int .i64 0]) 80 rfl Try.underlying32 lines_info rfl (by decide) (by omega) _ acc (⟨⟨s1, s2, s3⟩, ⟨n1, n2, n3, n4⟩⟩ : S41) [.string s1, .string s2, .string s3, .int .i64 n1, .int .i64 n2, .int .i64 n3, .int .i64 n4] (fun g => g ≠ w.heap.size) (fun _ => False) rfl (by rw [sz2]; rfl) ?aP (fun _ h => h.elim) ?aF ?aO ?aB ?aS ?aL ?_; (case aP => exact k41_mkM _ _ _ (⟨⟨s1, s2, s3⟩, ⟨n1, n2, n3, n4⟩⟩ : S41)); (case aF => intro k hk e; subst e; have := HB2.out.size; rw [sz2] at hk; omega); (case aO => exact Kd.R_alloc (Kd.R_alloc HO2.out _) _); (case aB => exact below_alloc (below_alloc HB2.out _) _); (case aS => have := HB2.out.size; rw [sz2]; omega); (case aL => have h1 := HP.out.length_eq; have h2 := HLN.out; have h3 := HP2.out.length_eq; rw [List.length_append] at h1; rw [List.length_cons] at h3; omega); intro v1 w1 ho hb hg hat; have HO3 := Aside0.mk ho; have HB3 := Aside0.mk hb; have HG3 := Aside0.mk (Rg_keep HG2.out _ _ hg (fun k hk => Kd.R_base HO2.out k hk) (fun k hk => HO2.out.1 k hk) HBW.out); clear ho hb hg hat HO2)
      go_roundg rs'.length
      case measure => have h3 := HP2.out.length_eq; rw [List.length_cons, HK.out] at h3; omega
      case rel => exact ⟨acc ++ [⟨⟨s1, s2, s3⟩, ⟨n1, n2, n3, n4⟩⟩], rs', HO3, HG3, ⟨by rw [List.append_assoc]; exact ((HP2.out.symm.append_left acc).trans HP.out)⟩, ⟨rfl⟩, HB3⟩
end Go.Proofs.Ythdifdnjodbdnaa.Q
