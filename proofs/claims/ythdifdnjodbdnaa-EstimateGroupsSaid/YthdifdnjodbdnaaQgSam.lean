-- Laid by myprint.py (a program of this session's, over the kit's printer and with functions proved by hand)
import Derived.Test.YthdifdnjodbdnaaTy
import Derived.Test.YthdifdnjodbdnaaGs
namespace Go.Proofs.Ythdifdnjodbdnaa.Q
open Go.RowKit Go.Proofs.YthdifdnjodbdnaaW.PrintWords Go.Proofs.YthdifdnjodbdnaaW.PrintLast Go.Proofs.YthdifdnjodbdnaaW.PrintMore
attribute [local go_sem] max2_int min2_int max_two min_two max_three min_three max_four min_four   -- for this text's walks alone
set_option linter.unusedVariables false
set_option linter.unusedSimpArgs false

attribute [local go_sem high] eqA41
attribute [local go_sem high] Str.binOp_string_gtr' Str.binOp_string_leq'
theorem qgsam_0 {p : Prop} (h : p := by repeat (first | (with_reducible first | exact HB.out | apply below_alloc | apply pw_below_drewN | apply below_drew1 | refine below_set ?_ GE320.out) | exact HB.out)) : p := h
theorem qgsam_1 {p : Prop} (h : p := by repeat (first | (with_reducible first | exact HB.out | apply below_alloc | apply pw_below_drewN | apply below_drew1) | exact HB.out)) : p := h
theorem qgsam_2 {p : Prop} (h : p := by (with_reducible repeat (first | refine blk_drewN ?_ _ | refine blk_drew ?_ | refine blk_alloc ?_ _)); exact BK320.out) : p := h
theorem qgsam_3 {p : Prop} (h : p := by repeat (first | (with_reducible first | exact HB.out | apply below_alloc | apply pw_below_drewN | apply below_drew1 | refine below_set ?_ GE320.out | refine below_set ?_ GE321.out) | exact HB.out)) : p := h
theorem qgsam_4 {p : Prop} (h : p := by first | (with_reducible assumption) | assumption) : p := h
theorem qgsam_5 {p : Prop} (h : p := by repeat (first | exact Drawn0.refl _ | apply Drawn0.step)) : p := h
theorem qgsam_6 {p : Prop} (h : p := by first | rfl | (simp [errW_none, errW_some] <;> rfl) | (simp [*, errW_none, errW_some] <;> rfl)) : p := h
theorem qgsam_7 {p : Prop} (h : p := by first | rfl | (simp; done) | (simp [*]; done)) : p := h
/-! ### sleuthlaw25_same: function 22 -/
def sleuthlaw25_same.l0 : Nat → List (S41) → List (S41) → Int → Option (Bool)
 | 0, _, _, _ => none
 | k + 1, x0, x1, x5 => if x5 < (x0.length : Int) then (if 0 ≤ x5 then (if x5 < (x1.length : Int) then (if ((!((((rd_T41 x0 x5).f0.f0).toList) == (((rd_T41 x1 x5).f0.f0).toList)) || (!((((rd_T41 x0 x5).f0.f1).toList) == (((rd_T41 x1 x5).f0.f1).toList)) || (!((((rd_T41 x0 x5).f0.f2).toList) == (((rd_T41 x1 x5).f0.f2).toList))))) || ((!(((rd_T41 x0 x5).f1.f0) == ((rd_T41 x1 x5).f1.f0)) || (!(((rd_T41 x0 x5).f1.f1) == ((rd_T41 x1 x5).f1.f1)) || (!(((rd_T41 x0 x5).f1.f2) == ((rd_T41 x1 x5).f1.f2)) || (!(((rd_T41 x0 x5).f1.f3) == ((rd_T41 x1 x5).f1.f3)))))))) = true then (some false) else (sleuthlaw25_same.l0 k x0 x1 (wrap64 (x5 + 1)))) else (none)) else (none)) else (some true)
def sleuthlaw25_same.f (k : Nat) (l0 : List (S41)) (l1 : List (S41)) : Option (Bool) := if (l0.length : Int) = (l1.length : Int) then (sleuthlaw25_same.l0 k l0 l1 0) else (some false)
theorem sleuthlaw25_same.mono_l : ∀ k, (∀ y0 y1 y2, LeO (sleuthlaw25_same.l0 k y0 y1 y2) (sleuthlaw25_same.l0 (k + 1) y0 y1 y2))
 | 0 => fun _ _ _ r h => by simp [sleuthlaw25_same.l0] at h
 | k + 1 => by
  have ih0 := sleuthlaw25_same.mono_l k
  ·intro y0 y1 y2
   unfold sleuthlaw25_same.l0
   repeat' first
   | (with_reducible exact ih0 _ _ _)
   | (with_reducible exact LeO.refl _)
   | (with_reducible exact LeO.none _)
   | (with_reducible refine LeO.ite ?_ ?_)
   | (with_reducible refine LeO.bind ?_ (fun _ => ?_))
   | exact ih0 _ _ _
   | exact LeO.none _
   | refine LeO.ite ?_ ?_
   | refine LeO.bind ?_ (fun _ => ?_)
theorem sleuthlaw25_same.mono : ∀ a0 a1 k, LeO (sleuthlaw25_same.f k a0 a1) (sleuthlaw25_same.f (k + 1) a0 a1) := by
 intro a0 a1 k
 have ih0 := sleuthlaw25_same.mono_l k
 unfold sleuthlaw25_same.f
 repeat' first
   | (with_reducible exact ih0 _ _ _)
   | (with_reducible exact LeO.refl _)
   | (with_reducible exact LeO.none _)
   | (with_reducible refine LeO.ite ?_ ?_)
   | (with_reducible refine LeO.bind ?_ (fun _ => ?_))
   | exact ih0 _ _ _
   | exact LeO.none _
   | refine LeO.ite ?_ ?_
   | refine LeO.bind ?_ (fun _ => ?_)
set_option maxHeartbeats 8000000 in
set_option maxRecDepth 100000 in
theorem sleuthlaw25_same.calls (k : Nat) (A0 : Option Addr) (c0 : Nat) (l0 : List (S41)) (A1 : Option Addr) (c1 : Nat) (l1 : List (S41)) (r : Bool) (w : World) (hr0 : Kd.C k41 w A0 l0.length l0) (hc0 : l0.length ≤ c0) (hr1 : Kd.C k41 w A1 l1.length l1) (hc1 : l1.length ≤ c1) (h : sleuthlaw25_same.f k l0 l1 = some r) :
  Calls Try.prog 22 #[.slice A0 l0.length c0, .slice A1 l1.length c1] w fun e w' => e = .returned (.bool r) ∧ Drawn0 w w' := by
 have hu41 := Try.underlying41
 have HR0 := Aside0.mk hr0
 have HC0 := Aside0.mk hc0
 clear hr0 hc0
 have HR1 := Aside0.mk hr1
 have HC1 := Aside0.mk hc1
 clear hr1 hc1
 have H : (if (l0.length : Int) = (l1.length : Int) then (sleuthlaw25_same.l0 k l0 l1 0) else (some false)) = some r := h
 clear h
 by_cases c3 : (l0.length : Int) = (l1.length : Int)
 rotate_left
 ·rw [if_neg c3] at H
  have c3b0 : ((l0.length : Int) == (l1.length : Int)) = false := beq_eq_false_iff_ne.mpr c3
  have c3b1 : ((l0.length : Int) != (l1.length : Int)) = true := bne_iff_ne.mpr c3
  have c3b2 : (l0.length == l1.length) = false := by first | simpa using c3 | (simp at c3 ⊢; omega)
  obtain rfl := Option.some.inj H
  go_enter Try.func22, Try.ntmps22
  go_wp2
  repeat (go_quiet (fail); try go_wp2)
  go_ret
  exact ⟨qgsam_7, qgsam_5⟩
 rw [if_pos c3] at H
 have c3b0 : ((l0.length : Int) == (l1.length : Int)) = true := beq_iff_eq.mpr c3
 have c3b1 : ((l0.length : Int) != (l1.length : Int)) = false := bne_eq_false_iff_eq.mpr c3
 have c3b2 : (l0.length == l1.length) = true := by first | simpa using c3 | (simp at c3 ⊢; omega)
 clear c3
 have H' := Aside0.mk H
 clear H
 go_enter Try.func22, Try.ntmps22
 go_wp2
 repeat (go_quiet (fail); try go_wp2)
 go_loopg [5] k (fun kq v5 w' => ∃ (x5_1 : Int), v5 = .int .i64 x5_1 ∧ Aside0 (sleuthlaw25_same.l0 kq l0 l1 x5_1 = some r) ∧ Aside0 (kq ≤ k) ∧ Drawn0 w w')
 case atStart => exact ⟨(0), qgsam_7, H', ⟨Nat.le_refl _⟩, qgsam_5⟩
 clear H'
 try clear c1
 try clear c2
 try clear p2
 try clear c3
 try clear c3b0
 try clear c3b1
 try clear c3b2
 obtain ⟨x5_1, rfl, HA, HK1, ⟨m1, rfl⟩⟩ := hrel
 cases gk with
 | zero => exact absurd HA.out (by simp [sleuthlaw25_same.l0])
 | succ k1 =>
  have H := HA.out
  clear HA
  simp only [sleuthlaw25_same.l0] at H
  by_cases c4 : x5_1 < (l0.length : Int)
  rotate_left
  ·rw [if_neg c4] at H
   have c4b0 : decide (x5_1 < (l0.length : Int)) = false := decide_eq_false c4
   clear c4
   obtain rfl := Option.some.inj H
   go_wp2
   repeat (go_quiet (fail); try go_wp2)
   go_ret
   exact ⟨qgsam_7, qgsam_5⟩
  rw [if_pos c4] at H
  have c4b0 : decide (x5_1 < (l0.length : Int)) = true := decide_eq_true c4
  clear c4
  by_cases c5 : 0 ≤ x5_1
  rotate_left
  ·rw [if_neg c5] at H
   exact absurd H (by simp)
  rw [if_pos c5] at H
  have c5b0 : decide (0 ≤ x5_1) = true := decide_eq_true c5
  clear c5
  by_cases c6 : x5_1 < (l1.length : Int)
  rotate_left
  ·rw [if_neg c6] at H
   exact absurd H (by simp)
  rw [if_pos c6] at H
  have c6b0 : decide (x5_1 < (l1.length : Int)) = true := decide_eq_true c6
  clear c6
  by_cases c7 : ((!((((rd_T41 l0 x5_1).f0.f0).toList) == (((rd_T41 l1 x5_1).f0.f0).toList)) || (!((((rd_T41 l0 x5_1).f0.f1).toList) == (((rd_T41 l1 x5_1).f0.f1).toList)) || (!((((rd_T41 l0 x5_1).f0.f2).toList) == (((rd_T41 l1 x5_1).f0.f2).toList))))) || ((!(((rd_T41 l0 x5_1).f1.f0) == ((rd_T41 l1 x5_1).f1.f0)) || (!(((rd_T41 l0 x5_1).f1.f1) == ((rd_T41 l1 x5_1).f1.f1)) || (!(((rd_T41 l0 x5_1).f1.f2) == ((rd_T41 l1 x5_1).f1.f2)) || (!(((rd_T41 l0 x5_1).f1.f3) == ((rd_T41 l1 x5_1).f1.f3)))))))) = true
  ·rw [if_pos c7] at H
   have c7b0 : ((!((((rd_T41 l0 x5_1).f0.f0).toList) == (((rd_T41 l1 x5_1).f0.f0).toList)) || (!((((rd_T41 l0 x5_1).f0.f1).toList) == (((rd_T41 l1 x5_1).f0.f1).toList)) || (!((((rd_T41 l0 x5_1).f0.f2).toList) == (((rd_T41 l1 x5_1).f0.f2).toList))))) || ((!(((rd_T41 l0 x5_1).f1.f0) == ((rd_T41 l1 x5_1).f1.f0)) || (!(((rd_T41 l0 x5_1).f1.f1) == ((rd_T41 l1 x5_1).f1.f1)) || (!(((rd_T41 l0 x5_1).f1.f2) == ((rd_T41 l1 x5_1).f1.f2)) || (!(((rd_T41 l0 x5_1).f1.f3) == ((rd_T41 l1 x5_1).f1.f3)))))))) = true := c7
   clear c7
   obtain rfl := Option.some.inj H
   have p318 : 0 ≤ (x5_1 : Int) := of_decide_eq_true qgsam_4
   have q318 : x5_1 < (l0.length : Int) := of_decide_eq_true qgsam_4
   obtain ⟨ad318, e318, hx318_0, hx318_1, hx318_2, hx318_3, hx318_4, hx318_5, hx318_6⟩ := at_T41 HR0.out x5_1 p318 q318
   cases e318
   replace p318 := eq_true p318
   replace q318 := eq_true q318
   have p319 : 0 ≤ (x5_1 : Int) := of_decide_eq_true qgsam_4
   have q319 : x5_1 < (l1.length : Int) := of_decide_eq_true qgsam_4
   obtain ⟨ad319, e319, hx319_0, hx319_1, hx319_2, hx319_3, hx319_4, hx319_5, hx319_6⟩ := at_T41 HR1.out x5_1 p319 q319
   cases e319
   replace p319 := eq_true p319
   replace q319 := eq_true q319
   go_wp2
   repeat (go_quiet (fail); try go_wp2)
   go_ret
   exact ⟨qgsam_7, qgsam_5⟩
  rw [if_neg c7] at H
  have c7b0 : ((!((((rd_T41 l0 x5_1).f0.f0).toList) == (((rd_T41 l1 x5_1).f0.f0).toList)) || (!((((rd_T41 l0 x5_1).f0.f1).toList) == (((rd_T41 l1 x5_1).f0.f1).toList)) || (!((((rd_T41 l0 x5_1).f0.f2).toList) == (((rd_T41 l1 x5_1).f0.f2).toList))))) || ((!(((rd_T41 l0 x5_1).f1.f0) == ((rd_T41 l1 x5_1).f1.f0)) || (!(((rd_T41 l0 x5_1).f1.f1) == ((rd_T41 l1 x5_1).f1.f1)) || (!(((rd_T41 l0 x5_1).f1.f2) == ((rd_T41 l1 x5_1).f1.f2)) || (!(((rd_T41 l0 x5_1).f1.f3) == ((rd_T41 l1 x5_1).f1.f3)))))))) = false := by simpa using c7
  clear c7
  have H' := Aside0.mk H
  clear H
  have p318 : 0 ≤ (x5_1 : Int) := of_decide_eq_true qgsam_4
  have q318 : x5_1 < (l0.length : Int) := of_decide_eq_true qgsam_4
  obtain ⟨ad318, e318, hx318_0, hx318_1, hx318_2, hx318_3, hx318_4, hx318_5, hx318_6⟩ := at_T41 HR0.out x5_1 p318 q318
  cases e318
  replace p318 := eq_true p318
  replace q318 := eq_true q318
  have p319 : 0 ≤ (x5_1 : Int) := of_decide_eq_true qgsam_4
  have q319 : x5_1 < (l1.length : Int) := of_decide_eq_true qgsam_4
  obtain ⟨ad319, e319, hx319_0, hx319_1, hx319_2, hx319_3, hx319_4, hx319_5, hx319_6⟩ := at_T41 HR1.out x5_1 p319 q319
  cases e319
  replace p319 := eq_true p319
  replace q319 := eq_true q319
  go_wp2
  repeat (go_quiet (fail); try go_wp2)
  go_roundg k1
  case measure => have := HK1.out; omega
  case rel => exact ⟨(wrap64 (x5_1 + 1)), qgsam_7, H', ⟨by have := HK1.out; omega⟩, qgsam_5⟩

/-! ### sleuthlaw25_less: function 44 -/
def sleuthlaw25_less.f (a0_0 : ByteArray) (a0_1 : ByteArray) (a0_2 : ByteArray) (a1_0 : ByteArray) (a1_1 : ByteArray) (a1_2 : ByteArray) : Option (Bool) := if a0_0.toList = a1_0.toList then (if a0_1.toList = a1_1.toList then (some (Op.bytesLess a0_2.toList a1_2.toList)) else (some (Op.bytesLess a0_1.toList a1_1.toList))) else (some (Op.bytesLess a0_0.toList a1_0.toList))
set_option maxHeartbeats 8000000 in
set_option maxRecDepth 100000 in
theorem sleuthlaw25_less.calls (a0_0 : ByteArray) (a0_1 : ByteArray) (a0_2 : ByteArray) (a1_0 : ByteArray) (a1_1 : ByteArray) (a1_2 : ByteArray) (r : Bool) (w : World) (h : sleuthlaw25_less.f a0_0 a0_1 a0_2 a1_0 a1_1 a1_2 = some r) :
  Calls Try.prog 44 #[.agg #[.string a0_0, .string a0_1, .string a0_2], .agg #[.string a1_0, .string a1_1, .string a1_2]] w fun e w' => e = .returned (.bool r) ∧ Below w.heap.size w w' := by
 have hu39 := Try.underlying39
 have HB := Aside0.mk (Below.refl w.heap.size w)
 have H : (if a0_0.toList = a1_0.toList then (if a0_1.toList = a1_1.toList then (some (Op.bytesLess a0_2.toList a1_2.toList)) else (some (Op.bytesLess a0_1.toList a1_1.toList))) else (some (Op.bytesLess a0_0.toList a1_0.toList))) = some r := h
 clear h
 by_cases c3 : a0_0.toList = a1_0.toList
 rotate_left
 ·rw [if_neg c3] at H
  have c3b0 : (a0_0.toList == a1_0.toList) = false := beq_eq_false_iff_ne.mpr c3
  have c3b1 : (a0_0.toList != a1_0.toList) = true := bne_iff_ne.mpr c3
  obtain rfl := Option.some.inj H
  go_enter Try.func44, Try.ntmps44
  go_wp2_with (first | ((with_reducible refine gate_dst (N := 2) rfl ?_); refine box_event ?hg (N := 2) ?hd (cs := #[.string a0_0, .string a0_1, .string a0_2]) (t := 39) ?hr ?_; (case hd => rfl); (case hg => rfl); (case hr => first | (go_simp; done) | (go_simp; rfl)); intro gb320 hg w15 hbox hb; have n0_ := Aside0.mk (below_step qgsam_1 hb); have n1_ := Aside0.mk (hbox); have n2_ := Aside0.mk ((by rw [hg]; exact (below_size qgsam_1) : w.heap.size ≤ gb320)); have n3_ := Aside0.mk ((by rw [hg]; exact (below_size qgsam_1) : w.heap.size ≤ gb320)); clear HB; have HB := n0_; have BK320 := n1_; have GW320 := n2_; have GE320 := n3_; clear n0_ n1_ n2_ n3_; clear hb hbox hg) | ((with_reducible refine gate_dst (N := 3) rfl ?_); refine box_event ?hg (N := 3) ?hd (cs := #[.string a1_0, .string a1_1, .string a1_2]) (t := 39) ?hr ?_; (case hd => rfl); (case hg => rfl); (case hr => first | (go_simp; done) | (go_simp; rfl)); intro gb321 hg w16 hbox hb; have n0_ := Aside0.mk (blk_below (g := gb320) (o := .cells #[.string a0_0, .string a0_1, .string a0_2] 39 (0, 0)) qgsam_2 hb); have n1_ := Aside0.mk (below_step qgsam_0 hb); have n2_ := Aside0.mk (hbox); have n3_ := Aside0.mk ((by rw [hg]; exact (below_size qgsam_0) : w.heap.size ≤ gb321)); have n4_ := Aside0.mk ((by rw [hg]; exact (below_size qgsam_0) : w.heap.size ≤ gb321)); have n5_ := Aside0.mk ((by rw [hg]; exact Nat.ne_of_lt (blk_lt (g := gb320) (o := .cells #[.string a0_0, .string a0_1, .string a0_2] 39 (0, 0)) qgsam_2) : gb320 ≠ gb321)); have n6_ := Aside0.mk ((by rw [hg]; exact Nat.ne_of_gt (blk_lt (g := gb320) (o := .cells #[.string a0_0, .string a0_1, .string a0_2] 39 (0, 0)) qgsam_2) : gb321 ≠ gb320)); clear BK320; clear HB; have BK320 := n0_; have HB := n1_; have BK321 := n2_; have GW321 := n3_; have GE321 := n4_; have NB320_321 := n5_; have NB321_320 := n6_; clear n0_ n1_ n2_ n3_ n4_ n5_ n6_; clear hb hbox hg; have hnb17 := NB320_321.out; have hnc17 := NB321_320.out; have hcz18_0 : w16.cell? ⟨gb320, 0, none⟩ = some (.string a0_0) := (blk_cell BK320.out 0).trans rfl; have hcz18_1 : w16.cell? ⟨gb320, 1, none⟩ = some (.string a0_1) := (blk_cell BK320.out 1).trans rfl; have hcz18_2 : w16.cell? ⟨gb320, 2, none⟩ = some (.string a0_2) := (blk_cell BK320.out 2).trans rfl; have hfz18_0 := blk_frozen BK320.out 0; have hfz18_1 := blk_frozen BK320.out 1; have hfz18_2 := blk_frozen BK320.out 2; have hcz19_0 : w16.cell? ⟨gb321, 0, none⟩ = some (.string a1_0) := (blk_cell BK321.out 0).trans rfl; have hcz19_1 : w16.cell? ⟨gb321, 1, none⟩ = some (.string a1_1) := (blk_cell BK321.out 1).trans rfl; have hcz19_2 : w16.cell? ⟨gb321, 2, none⟩ = some (.string a1_2) := (blk_cell BK321.out 2).trans rfl; have hfz19_0 := blk_frozen BK321.out 0; have hfz19_1 := blk_frozen BK321.out 1; have hfz19_2 := blk_frozen BK321.out 2))
  go_ret
  exact ⟨qgsam_6, qgsam_3⟩
 rw [if_pos c3] at H
 have c3b0 : (a0_0.toList == a1_0.toList) = true := beq_iff_eq.mpr c3
 have c3b1 : (a0_0.toList != a1_0.toList) = false := bne_eq_false_iff_eq.mpr c3
 clear c3
 by_cases c4 : a0_1.toList = a1_1.toList
 ·rw [if_pos c4] at H
  have c4b0 : (a0_1.toList == a1_1.toList) = true := beq_iff_eq.mpr c4
  have c4b1 : (a0_1.toList != a1_1.toList) = false := bne_eq_false_iff_eq.mpr c4
  clear c4
  obtain rfl := Option.some.inj H
  go_enter Try.func44, Try.ntmps44
  go_wp2_with (first | ((with_reducible refine gate_dst (N := 2) rfl ?_); refine box_event ?hg (N := 2) ?hd (cs := #[.string a0_0, .string a0_1, .string a0_2]) (t := 39) ?hr ?_; (case hd => rfl); (case hg => rfl); (case hr => first | (go_simp; done) | (go_simp; rfl)); intro gb320 hg w5 hbox hb; have n0_ := Aside0.mk (below_step qgsam_1 hb); have n1_ := Aside0.mk (hbox); have n2_ := Aside0.mk ((by rw [hg]; exact (below_size qgsam_1) : w.heap.size ≤ gb320)); have n3_ := Aside0.mk ((by rw [hg]; exact (below_size qgsam_1) : w.heap.size ≤ gb320)); clear HB; have HB := n0_; have BK320 := n1_; have GW320 := n2_; have GE320 := n3_; clear n0_ n1_ n2_ n3_; clear hb hbox hg) | ((with_reducible refine gate_dst (N := 3) rfl ?_); refine box_event ?hg (N := 3) ?hd (cs := #[.string a1_0, .string a1_1, .string a1_2]) (t := 39) ?hr ?_; (case hd => rfl); (case hg => rfl); (case hr => first | (go_simp; done) | (go_simp; rfl)); intro gb321 hg w6 hbox hb; have n0_ := Aside0.mk (blk_below (g := gb320) (o := .cells #[.string a0_0, .string a0_1, .string a0_2] 39 (0, 0)) qgsam_2 hb); have n1_ := Aside0.mk (below_step qgsam_0 hb); have n2_ := Aside0.mk (hbox); have n3_ := Aside0.mk ((by rw [hg]; exact (below_size qgsam_0) : w.heap.size ≤ gb321)); have n4_ := Aside0.mk ((by rw [hg]; exact (below_size qgsam_0) : w.heap.size ≤ gb321)); have n5_ := Aside0.mk ((by rw [hg]; exact Nat.ne_of_lt (blk_lt (g := gb320) (o := .cells #[.string a0_0, .string a0_1, .string a0_2] 39 (0, 0)) qgsam_2) : gb320 ≠ gb321)); have n6_ := Aside0.mk ((by rw [hg]; exact Nat.ne_of_gt (blk_lt (g := gb320) (o := .cells #[.string a0_0, .string a0_1, .string a0_2] 39 (0, 0)) qgsam_2) : gb321 ≠ gb320)); clear BK320; clear HB; have BK320 := n0_; have HB := n1_; have BK321 := n2_; have GW321 := n3_; have GE321 := n4_; have NB320_321 := n5_; have NB321_320 := n6_; clear n0_ n1_ n2_ n3_ n4_ n5_ n6_; clear hb hbox hg; have hnb7 := NB320_321.out; have hnc7 := NB321_320.out; have hcz8_0 : w6.cell? ⟨gb320, 0, none⟩ = some (.string a0_0) := (blk_cell BK320.out 0).trans rfl; have hcz8_1 : w6.cell? ⟨gb320, 1, none⟩ = some (.string a0_1) := (blk_cell BK320.out 1).trans rfl; have hcz8_2 : w6.cell? ⟨gb320, 2, none⟩ = some (.string a0_2) := (blk_cell BK320.out 2).trans rfl; have hfz8_0 := blk_frozen BK320.out 0; have hfz8_1 := blk_frozen BK320.out 1; have hfz8_2 := blk_frozen BK320.out 2; have hcz9_0 : w6.cell? ⟨gb321, 0, none⟩ = some (.string a1_0) := (blk_cell BK321.out 0).trans rfl; have hcz9_1 : w6.cell? ⟨gb321, 1, none⟩ = some (.string a1_1) := (blk_cell BK321.out 1).trans rfl; have hcz9_2 : w6.cell? ⟨gb321, 2, none⟩ = some (.string a1_2) := (blk_cell BK321.out 2).trans rfl; have hfz9_0 := blk_frozen BK321.out 0; have hfz9_1 := blk_frozen BK321.out 1; have hfz9_2 := blk_frozen BK321.out 2))
  go_ret
  exact ⟨qgsam_6, qgsam_3⟩
 rw [if_neg c4] at H
 have c4b0 : (a0_1.toList == a1_1.toList) = false := beq_eq_false_iff_ne.mpr c4
 have c4b1 : (a0_1.toList != a1_1.toList) = true := bne_iff_ne.mpr c4
 obtain rfl := Option.some.inj H
 go_enter Try.func44, Try.ntmps44
 go_wp2_with (first | ((with_reducible refine gate_dst (N := 2) rfl ?_); refine box_event ?hg (N := 2) ?hd (cs := #[.string a0_0, .string a0_1, .string a0_2]) (t := 39) ?hr ?_; (case hd => rfl); (case hg => rfl); (case hr => first | (go_simp; done) | (go_simp; rfl)); intro gb320 hg w10 hbox hb; have n0_ := Aside0.mk (below_step qgsam_1 hb); have n1_ := Aside0.mk (hbox); have n2_ := Aside0.mk ((by rw [hg]; exact (below_size qgsam_1) : w.heap.size ≤ gb320)); have n3_ := Aside0.mk ((by rw [hg]; exact (below_size qgsam_1) : w.heap.size ≤ gb320)); clear HB; have HB := n0_; have BK320 := n1_; have GW320 := n2_; have GE320 := n3_; clear n0_ n1_ n2_ n3_; clear hb hbox hg) | ((with_reducible refine gate_dst (N := 3) rfl ?_); refine box_event ?hg (N := 3) ?hd (cs := #[.string a1_0, .string a1_1, .string a1_2]) (t := 39) ?hr ?_; (case hd => rfl); (case hg => rfl); (case hr => first | (go_simp; done) | (go_simp; rfl)); intro gb321 hg w11 hbox hb; have n0_ := Aside0.mk (blk_below (g := gb320) (o := .cells #[.string a0_0, .string a0_1, .string a0_2] 39 (0, 0)) qgsam_2 hb); have n1_ := Aside0.mk (below_step qgsam_0 hb); have n2_ := Aside0.mk (hbox); have n3_ := Aside0.mk ((by rw [hg]; exact (below_size qgsam_0) : w.heap.size ≤ gb321)); have n4_ := Aside0.mk ((by rw [hg]; exact (below_size qgsam_0) : w.heap.size ≤ gb321)); have n5_ := Aside0.mk ((by rw [hg]; exact Nat.ne_of_lt (blk_lt (g := gb320) (o := .cells #[.string a0_0, .string a0_1, .string a0_2] 39 (0, 0)) qgsam_2) : gb320 ≠ gb321)); have n6_ := Aside0.mk ((by rw [hg]; exact Nat.ne_of_gt (blk_lt (g := gb320) (o := .cells #[.string a0_0, .string a0_1, .string a0_2] 39 (0, 0)) qgsam_2) : gb321 ≠ gb320)); clear BK320; clear HB; have BK320 := n0_; have HB := n1_; have BK321 := n2_; have GW321 := n3_; have GE321 := n4_; have NB320_321 := n5_; have NB321_320 := n6_; clear n0_ n1_ n2_ n3_ n4_ n5_ n6_; clear hb hbox hg; have hnb12 := NB320_321.out; have hnc12 := NB321_320.out; have hcz13_0 : w11.cell? ⟨gb320, 0, none⟩ = some (.string a0_0) := (blk_cell BK320.out 0).trans rfl; have hcz13_1 : w11.cell? ⟨gb320, 1, none⟩ = some (.string a0_1) := (blk_cell BK320.out 1).trans rfl; have hcz13_2 : w11.cell? ⟨gb320, 2, none⟩ = some (.string a0_2) := (blk_cell BK320.out 2).trans rfl; have hfz13_0 := blk_frozen BK320.out 0; have hfz13_1 := blk_frozen BK320.out 1; have hfz13_2 := blk_frozen BK320.out 2; have hcz14_0 : w11.cell? ⟨gb321, 0, none⟩ = some (.string a1_0) := (blk_cell BK321.out 0).trans rfl; have hcz14_1 : w11.cell? ⟨gb321, 1, none⟩ = some (.string a1_1) := (blk_cell BK321.out 1).trans rfl; have hcz14_2 : w11.cell? ⟨gb321, 2, none⟩ = some (.string a1_2) := (blk_cell BK321.out 2).trans rfl; have hfz14_0 := blk_frozen BK321.out 0; have hfz14_1 := blk_frozen BK321.out 1; have hfz14_2 := blk_frozen BK321.out 2))
 go_ret
 exact ⟨qgsam_6, qgsam_3⟩

end Go.Proofs.Ythdifdnjodbdnaa.Q
