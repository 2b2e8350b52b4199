-- Laid by myprint.py (a program of this session's, over the kit's printer and with functions proved by hand)
import Derived.Test.YthdifdnjodbdnaaTy
import Derived.Test.YthdifdnjodbdnaaGs
namespace Go.Proofs.Ythdifdnjodbdnaa.Q
open Go.RowKit Go.Proofs.YthdifdnjodbdnaaW.PrintWords Go.Proofs.YthdifdnjodbdnaaW.PrintLast Go.Proofs.YthdifdnjodbdnaaW.PrintMore
attribute [local go_sem] max2_int min2_int max_two min_two max_three min_three max_four min_four   -- for this text's walks alone
set_option linter.unusedVariables false
set_option linter.unusedSimpArgs false

attribute [local go_sem high] Str.binOp_string_gtr' Str.binOp_string_leq'
theorem qgpre_0 {p : Prop} (h : p := by repeat (first | (with_reducible first | exact HB.out | apply below_alloc | apply pw_below_drewN | apply below_drew1) | exact HB.out)) : p := h
theorem qgpre_1 {p : Prop} (h : p := by (try simp only [List.map_toArray, List.map_cons, List.map_nil]); first | done | rfl | (simp only [List.length_drop, List.length_take]; rfl)) : p := h
theorem qgpre_2 {p : Prop} (h : p := by (with_reducible repeat (first | refine blk_drewN ?_ _ | refine blk_drew ?_ | refine blk_alloc ?_ _)); exact BK102.out) : p := h
theorem qgpre_3 {p : Prop} (h : p := by repeat (first | exact Drawn0.refl _ | apply Drawn0.step)) : p := h
theorem qgpre_4 {p : Prop} (h : p := by first | rfl | (simp; done) | (simp [*]; done)) : p := h
theorem qgpre_5 {p : Prop} (h : p := by repeat (first | (with_reducible first | exact HB.out | apply below_alloc | apply pw_below_drewN | apply below_drew1 | refine below_set ?_ GE102.out | refine below_set ?_ GE103.out) | exact HB.out)) : p := h
theorem qgpre_6 {p : Prop} (h : p := by first | rfl | (simp [errW_none, errW_some] <;> rfl) | (simp [*, errW_none, errW_some] <;> rfl)) : p := h
theorem qgpre_7 {p : Prop} (h : p := by repeat (first | (with_reducible first | exact HB.out | apply below_alloc | apply pw_below_drewN | apply below_drew1 | refine below_set ?_ GE102.out) | exact HB.out)) : p := h
theorem qgpre_8 {p : Prop} (h : p := by repeat (first | (with_reducible first | exact HB.out | apply below_alloc | apply pw_below_drewN | apply below_drew1 | refine below_set ?_ GE105.out) | exact HB.out)) : p := h
theorem qgpre_9 {p : Prop} (h : p := by repeat (first | (with_reducible first | exact HB.out | apply below_alloc | apply pw_below_drewN | apply below_drew1 | refine below_set ?_ GE107.out) | exact HB.out)) : p := h
theorem qgpre_10 {p : Prop} (h : p := by repeat (first | (with_reducible first | exact HB.out | apply below_alloc | apply pw_below_drewN | apply below_drew1 | refine below_set ?_ GE109.out) | exact HB.out)) : p := h
theorem qgpre_11 {p : Prop} (h : p := by (with_reducible repeat (first | refine blk_drewN ?_ _ | refine blk_drew ?_ | refine blk_alloc ?_ _)); exact BK103.out) : p := h
theorem qgpre_12 {p : Prop} (h : p := by (with_reducible repeat (first | refine blk_drewN ?_ _ | refine blk_drew ?_ | refine blk_alloc ?_ _)); exact BK105.out) : p := h
theorem qgpre_13 {p : Prop} (h : p := by (with_reducible repeat (first | refine blk_drewN ?_ _ | refine blk_drew ?_ | refine blk_alloc ?_ _)); exact BK107.out) : p := h
theorem qgpre_14 {p : Prop} (h : p := by (with_reducible repeat (first | refine blk_drewN ?_ _ | refine blk_drew ?_ | refine blk_alloc ?_ _)); exact BK109.out) : p := h
theorem qgpre_15 {p : Prop} (h : p := by first | (go_simp; done) | (go_simp; rfl)) : p := h
theorem qgpre_16 {p : Prop} (h : p := by first | (with_reducible assumption) | assumption) : p := h
/-! ### span_Duration: function 38 -/
def span_Duration.f (a0_0 : Int) (a0_1 : Int) (a0_2 : Int) (a0_3 : Int) (a0_4 : Int) (a0_5 : Int) (a0_6 : ByteArray) (a0_7 : ByteArray) (a0_8 : ByteArray) (a0_9 : Int) (a0_10 : Int) (a0_11 : Bool) (l0_12 : List (S141)) (l0_13 : List (S146)) : Option (Int) := some (wrap64 (a0_10 - a0_9))
set_option maxHeartbeats 8000000 in
set_option maxRecDepth 100000 in
theorem span_Duration.calls (a0_0 : Int) (a0_1 : Int) (a0_2 : Int) (a0_3 : Int) (a0_4 : Int) (a0_5 : Int) (a0_6 : ByteArray) (a0_7 : ByteArray) (a0_8 : ByteArray) (a0_9 : Int) (a0_10 : Int) (a0_11 : Bool) (A0_12 : Option Addr) (c0_12 : Nat) (l0_12 : List (S141)) (A0_13 : Option Addr) (c0_13 : Nat) (l0_13 : List (S146)) (r : Int) (w : World) (hr0_12 : Kd.C k141 w A0_12 l0_12.length l0_12) (hc0_12 : l0_12.length ≤ c0_12) (hr0_13 : Kd.C k146 w A0_13 l0_13.length l0_13) (hc0_13 : l0_13.length ≤ c0_13) (h : span_Duration.f a0_0 a0_1 a0_2 a0_3 a0_4 a0_5 a0_6 a0_7 a0_8 a0_9 a0_10 a0_11 l0_12 l0_13 = some r) :
  Calls Try.prog 38 #[.agg #[.int .i64 a0_0, .int .i64 a0_1, .int .i64 a0_2, .int .i64 a0_3, .int .i64 a0_4, .int .i64 a0_5, .string a0_6, .string a0_7, .string a0_8, .int .i64 a0_9, .int .i64 a0_10, .bool a0_11, .slice A0_12 l0_12.length c0_12, .slice A0_13 l0_13.length c0_13]] w fun e w' => e = .returned (.int .i64 r) ∧ Below w.heap.size w w' := by
 have hu58 := Try.underlying58
 have HR0_12 := Aside0.mk hr0_12
 have HC0_12 := Aside0.mk hc0_12
 clear hr0_12 hc0_12
 have HR0_13 := Aside0.mk hr0_13
 have HC0_13 := Aside0.mk hc0_13
 clear hr0_13 hc0_13
 have HB := Aside0.mk (Below.refl w.heap.size w)
 have H : (some (wrap64 (a0_10 - a0_9))) = some r := h
 clear h
 obtain rfl := Option.some.inj H
 go_enter Try.func38, Try.ntmps38
 go_wp2_with (first | ((with_reducible refine gate_dst (N := 1) rfl ?_); refine box_event ?hg (N := 1) ?hd (cs := #[.int .i64 a0_0, .int .i64 a0_1, .int .i64 a0_2, .int .i64 a0_3, .int .i64 a0_4, .int .i64 a0_5, .string a0_6, .string a0_7, .string a0_8, .int .i64 a0_9, .int .i64 a0_10, .bool a0_11, .slice A0_12 l0_12.length c0_12, .slice A0_13 l0_13.length c0_13]) (t := 58) ?hr ?_; (case hd => rfl); (case hg => rfl); (case hr => exact qgpre_15); intro gb101 hg w2 hbox hb; have n0_ := Aside0.mk (below_step qgpre_0 hb); have n1_ := Aside0.mk (hbox); have n2_ := Aside0.mk ((by rw [hg]; exact (below_size qgpre_0) : w.heap.size ≤ gb101)); have n3_ := Aside0.mk ((by rw [hg]; exact (below_size qgpre_0) : w.heap.size ≤ gb101)); clear HB; have HB := n0_; have BK101 := n1_; have GW101 := n2_; have GE101 := n3_; clear n0_ n1_ n2_ n3_; clear hb hbox hg; have hcz3_0 : w2.cell? ⟨gb101, 0, none⟩ = some (.int .i64 a0_0) := (blk_cell BK101.out 0).trans rfl; have hcz3_1 : w2.cell? ⟨gb101, 1, none⟩ = some (.int .i64 a0_1) := (blk_cell BK101.out 1).trans rfl; have hcz3_2 : w2.cell? ⟨gb101, 2, none⟩ = some (.int .i64 a0_2) := (blk_cell BK101.out 2).trans rfl; have hcz3_3 : w2.cell? ⟨gb101, 3, none⟩ = some (.int .i64 a0_3) := (blk_cell BK101.out 3).trans rfl; have hcz3_4 : w2.cell? ⟨gb101, 4, none⟩ = some (.int .i64 a0_4) := (blk_cell BK101.out 4).trans rfl; have hcz3_5 : w2.cell? ⟨gb101, 5, none⟩ = some (.int .i64 a0_5) := (blk_cell BK101.out 5).trans rfl; have hcz3_6 : w2.cell? ⟨gb101, 6, none⟩ = some (.string a0_6) := (blk_cell BK101.out 6).trans rfl; have hcz3_7 : w2.cell? ⟨gb101, 7, none⟩ = some (.string a0_7) := (blk_cell BK101.out 7).trans rfl; have hcz3_8 : w2.cell? ⟨gb101, 8, none⟩ = some (.string a0_8) := (blk_cell BK101.out 8).trans rfl; have hcz3_9 : w2.cell? ⟨gb101, 9, none⟩ = some (.int .i64 a0_9) := (blk_cell BK101.out 9).trans rfl; have hcz3_10 : w2.cell? ⟨gb101, 10, none⟩ = some (.int .i64 a0_10) := (blk_cell BK101.out 10).trans rfl; have hcz3_11 : w2.cell? ⟨gb101, 11, none⟩ = some (.bool a0_11) := (blk_cell BK101.out 11).trans rfl; have hcz3_12 : w2.cell? ⟨gb101, 12, none⟩ = some (.slice A0_12 l0_12.length c0_12) := (blk_cell BK101.out 12).trans rfl; have hcz3_13 : w2.cell? ⟨gb101, 13, none⟩ = some (.slice A0_13 l0_13.length c0_13) := (blk_cell BK101.out 13).trans rfl; have hfz3_0 := blk_frozen BK101.out 0; have hfz3_1 := blk_frozen BK101.out 1; have hfz3_2 := blk_frozen BK101.out 2; have hfz3_3 := blk_frozen BK101.out 3; have hfz3_4 := blk_frozen BK101.out 4; have hfz3_5 := blk_frozen BK101.out 5; have hfz3_6 := blk_frozen BK101.out 6; have hfz3_7 := blk_frozen BK101.out 7; have hfz3_8 := blk_frozen BK101.out 8; have hfz3_9 := blk_frozen BK101.out 9; have hfz3_10 := blk_frozen BK101.out 10; have hfz3_11 := blk_frozen BK101.out 11; have hfz3_12 := blk_frozen BK101.out 12; have hfz3_13 := blk_frozen BK101.out 13))
 go_ret
 exact ⟨qgpre_6, by repeat (first | (with_reducible first | exact HB.out | apply below_alloc | apply pw_below_drewN | apply below_drew1 | refine below_set ?_ GE101.out) | exact HB.out)⟩

/-! ### estimate_Total_plus: function 39 -/
def estimate_Total_plus.f (a0_0 : Int) (a0_1 : Int) (a0_2 : Int) (a0_3 : Int) (a1_0 : Int) (a1_1 : Int) (a1_2 : Int) (a1_3 : Int) : Option (Int × Int × Int × Int) := some (wrap64 (a0_0 + a1_0), wrap64 (a0_1 + a1_1), wrap64 (a0_2 + a1_2), wrap64 (a0_3 + a1_3))
set_option maxHeartbeats 8000000 in
set_option maxRecDepth 100000 in
theorem estimate_Total_plus.calls (a0_0 : Int) (a0_1 : Int) (a0_2 : Int) (a0_3 : Int) (a1_0 : Int) (a1_1 : Int) (a1_2 : Int) (a1_3 : Int) (r1 : Int) (r2 : Int) (r3 : Int) (r4 : Int) (w : World) (h : estimate_Total_plus.f a0_0 a0_1 a0_2 a0_3 a1_0 a1_1 a1_2 a1_3 = some (r1, r2, r3, r4)) :
  Calls Try.prog 39 #[.agg #[.int .i64 a0_0, .int .i64 a0_1, .int .i64 a0_2, .int .i64 a0_3], .agg #[.int .i64 a1_0, .int .i64 a1_1, .int .i64 a1_2, .int .i64 a1_3]] w fun e w' => e = .returned (.agg #[.int .i64 r1, .int .i64 r2, .int .i64 r3, .int .i64 r4]) ∧ Below w.heap.size w w' := by
 have hu37 := Try.underlying37
 have HB := Aside0.mk (Below.refl w.heap.size w)
 have H : (some (wrap64 (a0_0 + a1_0), wrap64 (a0_1 + a1_1), wrap64 (a0_2 + a1_2), wrap64 (a0_3 + a1_3))) = some (r1, r2, r3, r4) := h
 clear h
 simp only [Option.some.injEq, Prod.mk.injEq] at H
 obtain ⟨rfl, rfl, rfl, rfl⟩ := H
 go_enter Try.func39, Try.ntmps39
 go_wp2_with (first | ((with_reducible refine gate_dst (N := 2) rfl ?_); refine box_event ?hg (N := 2) ?hd (cs := #[.int .i64 a0_0, .int .i64 a0_1, .int .i64 a0_2, .int .i64 a0_3]) (t := 37) ?hr ?_; (case hd => rfl); (case hg => rfl); (case hr => exact qgpre_15); intro gb102 hg w3 hbox hb; have n0_ := Aside0.mk (below_step qgpre_0 hb); have n1_ := Aside0.mk (hbox); have n2_ := Aside0.mk ((by rw [hg]; exact (below_size qgpre_0) : w.heap.size ≤ gb102)); have n3_ := Aside0.mk ((by rw [hg]; exact (below_size qgpre_0) : w.heap.size ≤ gb102)); clear HB; have HB := n0_; have BK102 := n1_; have GW102 := n2_; have GE102 := n3_; clear n0_ n1_ n2_ n3_; clear hb hbox hg) | ((with_reducible refine gate_dst (N := 3) rfl ?_); refine box_event ?hg (N := 3) ?hd (cs := #[.int .i64 a1_0, .int .i64 a1_1, .int .i64 a1_2, .int .i64 a1_3]) (t := 37) ?hr ?_; (case hd => rfl); (case hg => rfl); (case hr => exact qgpre_15); intro gb103 hg w4 hbox hb; have n0_ := Aside0.mk (blk_below (g := gb102) (o := .cells #[.int .i64 a0_0, .int .i64 a0_1, .int .i64 a0_2, .int .i64 a0_3] 37 (0, 0)) qgpre_2 hb); have n1_ := Aside0.mk (below_step qgpre_7 hb); have n2_ := Aside0.mk (hbox); have n3_ := Aside0.mk ((by rw [hg]; exact (below_size qgpre_7) : w.heap.size ≤ gb103)); have n4_ := Aside0.mk ((by rw [hg]; exact (below_size qgpre_7) : w.heap.size ≤ gb103)); have n5_ := Aside0.mk ((by rw [hg]; exact Nat.ne_of_lt (blk_lt (g := gb102) (o := .cells #[.int .i64 a0_0, .int .i64 a0_1, .int .i64 a0_2, .int .i64 a0_3] 37 (0, 0)) qgpre_2) : gb102 ≠ gb103)); have n6_ := Aside0.mk ((by rw [hg]; exact Nat.ne_of_gt (blk_lt (g := gb102) (o := .cells #[.int .i64 a0_0, .int .i64 a0_1, .int .i64 a0_2, .int .i64 a0_3] 37 (0, 0)) qgpre_2) : gb103 ≠ gb102)); clear BK102; clear HB; have BK102 := n0_; have HB := n1_; have BK103 := n2_; have GW103 := n3_; have GE103 := n4_; have NB102_103 := n5_; have NB103_102 := n6_; clear n0_ n1_ n2_ n3_ n4_ n5_ n6_; clear hb hbox hg) | ((with_reducible refine gate_dst (N := 4) rfl ?_); refine box_event ?hg (N := 4) ?hd (cs := #[.int .i64 0, .int .i64 0, .int .i64 0, .int .i64 0]) (t := 37) ?hr ?_; (case hd => rfl); (case hg => rfl); (case hr => exact qgpre_15); intro gb104 hg w5 hbox hb; have n0_ := Aside0.mk (blk_below (g := gb102) (o := .cells #[.int .i64 a0_0, .int .i64 a0_1, .int .i64 a0_2, .int .i64 a0_3] 37 (0, 0)) qgpre_2 hb); have n1_ := Aside0.mk (blk_below (g := gb103) (o := .cells #[.int .i64 a1_0, .int .i64 a1_1, .int .i64 a1_2, .int .i64 a1_3] 37 (0, 0)) qgpre_11 hb); have n2_ := Aside0.mk (below_step qgpre_5 hb); have n3_ := Aside0.mk (hbox); have n4_ := Aside0.mk ((by rw [hg]; exact (below_size qgpre_5) : w.heap.size ≤ gb104)); have n5_ := Aside0.mk ((by rw [hg]; exact (below_size qgpre_5) : w.heap.size ≤ gb104)); have n6_ := Aside0.mk ((by rw [hg]; exact Nat.ne_of_lt (blk_lt (g := gb102) (o := .cells #[.int .i64 a0_0, .int .i64 a0_1, .int .i64 a0_2, .int .i64 a0_3] 37 (0, 0)) qgpre_2) : gb102 ≠ gb104)); have n7_ := Aside0.mk ((by rw [hg]; exact Nat.ne_of_gt (blk_lt (g := gb102) (o := .cells #[.int .i64 a0_0, .int .i64 a0_1, .int .i64 a0_2, .int .i64 a0_3] 37 (0, 0)) qgpre_2) : gb104 ≠ gb102)); have n8_ := Aside0.mk ((by rw [hg]; exact Nat.ne_of_lt (blk_lt (g := gb103) (o := .cells #[.int .i64 a1_0, .int .i64 a1_1, .int .i64 a1_2, .int .i64 a1_3] 37 (0, 0)) qgpre_11) : gb103 ≠ gb104)); have n9_ := Aside0.mk ((by rw [hg]; exact Nat.ne_of_gt (blk_lt (g := gb103) (o := .cells #[.int .i64 a1_0, .int .i64 a1_1, .int .i64 a1_2, .int .i64 a1_3] 37 (0, 0)) qgpre_11) : gb104 ≠ gb103)); clear BK102; clear BK103; clear HB; have BK102 := n0_; have BK103 := n1_; have HB := n2_; have BK104 := n3_; have GW104 := n4_; have GE104 := n5_; have NB102_104 := n6_; have NB104_102 := n7_; have NB103_104 := n8_; have NB104_103 := n9_; clear n0_ n1_ n2_ n3_ n4_ n5_ n6_ n7_ n8_ n9_; clear hb hbox hg; have hnb6 := NB102_103.out; have hnc6 := NB103_102.out; have hnb7 := NB102_104.out; have hnc7 := NB104_102.out; have hcz8_0 : w5.cell? ⟨gb102, 0, none⟩ = some (.int .i64 a0_0) := (blk_cell BK102.out 0).trans rfl; have hcz8_1 : w5.cell? ⟨gb102, 1, none⟩ = some (.int .i64 a0_1) := (blk_cell BK102.out 1).trans rfl; have hcz8_2 : w5.cell? ⟨gb102, 2, none⟩ = some (.int .i64 a0_2) := (blk_cell BK102.out 2).trans rfl; have hcz8_3 : w5.cell? ⟨gb102, 3, none⟩ = some (.int .i64 a0_3) := (blk_cell BK102.out 3).trans rfl; have hfz8_0 := blk_frozen BK102.out 0; have hfz8_1 := blk_frozen BK102.out 1; have hfz8_2 := blk_frozen BK102.out 2; have hfz8_3 := blk_frozen BK102.out 3; have hnb9 := NB103_104.out; have hnc9 := NB104_103.out; have hcz10_0 : w5.cell? ⟨gb103, 0, none⟩ = some (.int .i64 a1_0) := (blk_cell BK103.out 0).trans rfl; have hcz10_1 : w5.cell? ⟨gb103, 1, none⟩ = some (.int .i64 a1_1) := (blk_cell BK103.out 1).trans rfl; have hcz10_2 : w5.cell? ⟨gb103, 2, none⟩ = some (.int .i64 a1_2) := (blk_cell BK103.out 2).trans rfl; have hcz10_3 : w5.cell? ⟨gb103, 3, none⟩ = some (.int .i64 a1_3) := (blk_cell BK103.out 3).trans rfl; have hfz10_0 := blk_frozen BK103.out 0; have hfz10_1 := blk_frozen BK103.out 1; have hfz10_2 := blk_frozen BK103.out 2; have hfz10_3 := blk_frozen BK103.out 3; have hcz11_0 : w5.cell? ⟨gb104, 0, none⟩ = some (.int .i64 0) := (blk_cell BK104.out 0).trans rfl; have hcz11_1 : w5.cell? ⟨gb104, 1, none⟩ = some (.int .i64 0) := (blk_cell BK104.out 1).trans rfl; have hcz11_2 : w5.cell? ⟨gb104, 2, none⟩ = some (.int .i64 0) := (blk_cell BK104.out 2).trans rfl; have hcz11_3 : w5.cell? ⟨gb104, 3, none⟩ = some (.int .i64 0) := (blk_cell BK104.out 3).trans rfl; have hfz11_0 := blk_frozen BK104.out 0; have hfz11_1 := blk_frozen BK104.out 1; have hfz11_2 := blk_frozen BK104.out 2; have hfz11_3 := blk_frozen BK104.out 3))
 refine bodyPost_ret (results_cell_row rfl _ _ gb104 37 #[.int .i64 (wrap64 (a0_0 + a1_0)), .int .i64 (wrap64 (a0_1 + a1_1)), .int .i64 (wrap64 (a0_2 + a1_2)), .int .i64 (wrap64 (a0_3 + a1_3))] (0, 0) _ rfl (by (with_reducible repeat (first | refine blk_drewN ?_ _ | refine blk_drew ?_ | refine blk_alloc ?_ _)); refine blk_put (cs := #[.int .i64 (wrap64 (a0_0 + a1_0)), .int .i64 (wrap64 (a0_1 + a1_1)), .int .i64 (wrap64 (a0_2 + a1_2)), .int .i64 0]) ?_ 3 _ rfl; (with_reducible repeat (first | refine blk_drewN ?_ _ | refine blk_drew ?_ | refine blk_alloc ?_ _)); refine blk_put (cs := #[.int .i64 (wrap64 (a0_0 + a1_0)), .int .i64 (wrap64 (a0_1 + a1_1)), .int .i64 0, .int .i64 0]) ?_ 2 _ rfl; (with_reducible repeat (first | refine blk_drewN ?_ _ | refine blk_drew ?_ | refine blk_alloc ?_ _)); refine blk_put (cs := #[.int .i64 (wrap64 (a0_0 + a1_0)), .int .i64 0, .int .i64 0, .int .i64 0]) ?_ 1 _ rfl; (with_reducible repeat (first | refine blk_drewN ?_ _ | refine blk_drew ?_ | refine blk_alloc ?_ _)); refine blk_put (cs := #[.int .i64 0, .int .i64 0, .int .i64 0, .int .i64 0]) ?_ 0 _ rfl; (with_reducible repeat (first | refine blk_drewN ?_ _ | refine blk_drew ?_ | refine blk_alloc ?_ _)); exact BK104.out) Try.underlying37 rfl (by kernel_rfl)) rfl ?_
 exact ⟨qgpre_6, by repeat (first | (with_reducible first | exact HB.out | apply below_alloc | apply pw_below_drewN | apply below_drew1 | refine below_set ?_ GE102.out | refine below_set ?_ GE103.out | refine below_set ?_ GE104.out) | exact HB.out)⟩

/-! ### estimate_grouping_1: function 62 -/
def estimate_grouping_1.f (a0_0 : Int) (a0_1 : Int) (a0_2 : Int) (a0_3 : Int) (a0_4 : Int) (a0_5 : Int) (a0_6 : ByteArray) (a0_7 : ByteArray) (a0_8 : ByteArray) (a0_9 : Int) (a0_10 : Int) (a0_11 : Bool) (l0_12 : List (S141)) (l0_13 : List (S146)) : Option (ByteArray × ByteArray × ByteArray) := some (a0_6, (⟨#[]⟩ : ByteArray), (⟨#[]⟩ : ByteArray))
set_option maxHeartbeats 8000000 in
set_option maxRecDepth 100000 in
theorem estimate_grouping_1.calls (a0_0 : Int) (a0_1 : Int) (a0_2 : Int) (a0_3 : Int) (a0_4 : Int) (a0_5 : Int) (a0_6 : ByteArray) (a0_7 : ByteArray) (a0_8 : ByteArray) (a0_9 : Int) (a0_10 : Int) (a0_11 : Bool) (A0_12 : Option Addr) (c0_12 : Nat) (l0_12 : List (S141)) (A0_13 : Option Addr) (c0_13 : Nat) (l0_13 : List (S146)) (r1 : ByteArray) (r2 : ByteArray) (r3 : ByteArray) (w : World) (hr0_12 : Kd.C k141 w A0_12 l0_12.length l0_12) (hc0_12 : l0_12.length ≤ c0_12) (hr0_13 : Kd.C k146 w A0_13 l0_13.length l0_13) (hc0_13 : l0_13.length ≤ c0_13) (h : estimate_grouping_1.f a0_0 a0_1 a0_2 a0_3 a0_4 a0_5 a0_6 a0_7 a0_8 a0_9 a0_10 a0_11 l0_12 l0_13 = some (r1, r2, r3)) :
  Calls Try.prog 62 #[.agg #[.int .i64 a0_0, .int .i64 a0_1, .int .i64 a0_2, .int .i64 a0_3, .int .i64 a0_4, .int .i64 a0_5, .string a0_6, .string a0_7, .string a0_8, .int .i64 a0_9, .int .i64 a0_10, .bool a0_11, .slice A0_12 l0_12.length c0_12, .slice A0_13 l0_13.length c0_13]] w fun e w' => e = .returned (.agg #[.string r1, .string r2, .string r3]) ∧ Below w.heap.size w w' := by
 have hu58 := Try.underlying58
 have hu39 := Try.underlying39
 have HR0_12 := Aside0.mk hr0_12
 have HC0_12 := Aside0.mk hc0_12
 clear hr0_12 hc0_12
 have HR0_13 := Aside0.mk hr0_13
 have HC0_13 := Aside0.mk hc0_13
 clear hr0_13 hc0_13
 have HB := Aside0.mk (Below.refl w.heap.size w)
 have H : (some (a0_6, (⟨#[]⟩ : ByteArray), (⟨#[]⟩ : ByteArray))) = some (r1, r2, r3) := h
 clear h
 simp only [Option.some.injEq, Prod.mk.injEq] at H
 obtain ⟨rfl, rfl, rfl⟩ := H
 go_enter Try.func62, Try.ntmps62
 go_wp2_with (first | ((with_reducible refine gate_dst (N := 1) rfl ?_); refine box_event ?hg (N := 1) ?hd (cs := #[.int .i64 a0_0, .int .i64 a0_1, .int .i64 a0_2, .int .i64 a0_3, .int .i64 a0_4, .int .i64 a0_5, .string a0_6, .string a0_7, .string a0_8, .int .i64 a0_9, .int .i64 a0_10, .bool a0_11, .slice A0_12 l0_12.length c0_12, .slice A0_13 l0_13.length c0_13]) (t := 58) ?hr ?_; (case hd => rfl); (case hg => rfl); (case hr => exact qgpre_15); intro gb105 hg w2 hbox hb; have n0_ := Aside0.mk (below_step qgpre_0 hb); have n1_ := Aside0.mk (hbox); have n2_ := Aside0.mk ((by rw [hg]; exact (below_size qgpre_0) : w.heap.size ≤ gb105)); have n3_ := Aside0.mk ((by rw [hg]; exact (below_size qgpre_0) : w.heap.size ≤ gb105)); clear HB; have HB := n0_; have BK105 := n1_; have GW105 := n2_; have GE105 := n3_; clear n0_ n1_ n2_ n3_; clear hb hbox hg) | ((with_reducible refine gate_dst (N := 2) rfl ?_); refine box_event ?hg (N := 2) ?hd (cs := #[.string (⟨#[]⟩ : ByteArray), .string (⟨#[]⟩ : ByteArray), .string (⟨#[]⟩ : ByteArray)]) (t := 39) ?hr ?_; (case hd => rfl); (case hg => rfl); (case hr => exact qgpre_15); intro gb106 hg w3 hbox hb; have n0_ := Aside0.mk (blk_below (g := gb105) (o := .cells #[.int .i64 a0_0, .int .i64 a0_1, .int .i64 a0_2, .int .i64 a0_3, .int .i64 a0_4, .int .i64 a0_5, .string a0_6, .string a0_7, .string a0_8, .int .i64 a0_9, .int .i64 a0_10, .bool a0_11, .slice A0_12 l0_12.length c0_12, .slice A0_13 l0_13.length c0_13] 58 (0, 0)) qgpre_12 hb); have n1_ := Aside0.mk (below_step qgpre_8 hb); have n2_ := Aside0.mk (hbox); have n3_ := Aside0.mk ((by rw [hg]; exact (below_size qgpre_8) : w.heap.size ≤ gb106)); have n4_ := Aside0.mk ((by rw [hg]; exact (below_size qgpre_8) : w.heap.size ≤ gb106)); have n5_ := Aside0.mk ((by rw [hg]; exact Nat.ne_of_lt (blk_lt (g := gb105) (o := .cells #[.int .i64 a0_0, .int .i64 a0_1, .int .i64 a0_2, .int .i64 a0_3, .int .i64 a0_4, .int .i64 a0_5, .string a0_6, .string a0_7, .string a0_8, .int .i64 a0_9, .int .i64 a0_10, .bool a0_11, .slice A0_12 l0_12.length c0_12, .slice A0_13 l0_13.length c0_13] 58 (0, 0)) qgpre_12) : gb105 ≠ gb106)); have n6_ := Aside0.mk ((by rw [hg]; exact Nat.ne_of_gt (blk_lt (g := gb105) (o := .cells #[.int .i64 a0_0, .int .i64 a0_1, .int .i64 a0_2, .int .i64 a0_3, .int .i64 a0_4, .int .i64 a0_5, .string a0_6, .string a0_7, .string a0_8, .int .i64 a0_9, .int .i64 a0_10, .bool a0_11, .slice A0_12 l0_12.length c0_12, .slice A0_13 l0_13.length c0_13] 58 (0, 0)) qgpre_12) : gb106 ≠ gb105)); clear BK105; clear HB; have BK105 := n0_; have HB := n1_; have BK106 := n2_; have GW106 := n3_; have GE106 := n4_; have NB105_106 := n5_; have NB106_105 := n6_; clear n0_ n1_ n2_ n3_ n4_ n5_ n6_; clear hb hbox hg; have hnb4 := NB105_106.out; have hnc4 := NB106_105.out; have hcz5_0 : w3.cell? ⟨gb105, 0, none⟩ = some (.int .i64 a0_0) := (blk_cell BK105.out 0).trans rfl; have hcz5_1 : w3.cell? ⟨gb105, 1, none⟩ = some (.int .i64 a0_1) := (blk_cell BK105.out 1).trans rfl; have hcz5_2 : w3.cell? ⟨gb105, 2, none⟩ = some (.int .i64 a0_2) := (blk_cell BK105.out 2).trans rfl; have hcz5_3 : w3.cell? ⟨gb105, 3, none⟩ = some (.int .i64 a0_3) := (blk_cell BK105.out 3).trans rfl; have hcz5_4 : w3.cell? ⟨gb105, 4, none⟩ = some (.int .i64 a0_4) := (blk_cell BK105.out 4).trans rfl; have hcz5_5 : w3.cell? ⟨gb105, 5, none⟩ = some (.int .i64 a0_5) := (blk_cell BK105.out 5).trans rfl; have hcz5_6 : w3.cell? ⟨gb105, 6, none⟩ = some (.string a0_6) := (blk_cell BK105.out 6).trans rfl; have hcz5_7 : w3.cell? ⟨gb105, 7, none⟩ = some (.string a0_7) := (blk_cell BK105.out 7).trans rfl; have hcz5_8 : w3.cell? ⟨gb105, 8, none⟩ = some (.string a0_8) := (blk_cell BK105.out 8).trans rfl; have hcz5_9 : w3.cell? ⟨gb105, 9, none⟩ = some (.int .i64 a0_9) := (blk_cell BK105.out 9).trans rfl; have hcz5_10 : w3.cell? ⟨gb105, 10, none⟩ = some (.int .i64 a0_10) := (blk_cell BK105.out 10).trans rfl; have hcz5_11 : w3.cell? ⟨gb105, 11, none⟩ = some (.bool a0_11) := (blk_cell BK105.out 11).trans rfl; have hcz5_12 : w3.cell? ⟨gb105, 12, none⟩ = some (.slice A0_12 l0_12.length c0_12) := (blk_cell BK105.out 12).trans rfl; have hcz5_13 : w3.cell? ⟨gb105, 13, none⟩ = some (.slice A0_13 l0_13.length c0_13) := (blk_cell BK105.out 13).trans rfl; have hfz5_0 := blk_frozen BK105.out 0; have hfz5_1 := blk_frozen BK105.out 1; have hfz5_2 := blk_frozen BK105.out 2; have hfz5_3 := blk_frozen BK105.out 3; have hfz5_4 := blk_frozen BK105.out 4; have hfz5_5 := blk_frozen BK105.out 5; have hfz5_6 := blk_frozen BK105.out 6; have hfz5_7 := blk_frozen BK105.out 7; have hfz5_8 := blk_frozen BK105.out 8; have hfz5_9 := blk_frozen BK105.out 9; have hfz5_10 := blk_frozen BK105.out 10; have hfz5_11 := blk_frozen BK105.out 11; have hfz5_12 := blk_frozen BK105.out 12; have hfz5_13 := blk_frozen BK105.out 13; have hcz6_0 : w3.cell? ⟨gb106, 0, none⟩ = some (.string (⟨#[]⟩ : ByteArray)) := (blk_cell BK106.out 0).trans rfl; have hcz6_1 : w3.cell? ⟨gb106, 1, none⟩ = some (.string (⟨#[]⟩ : ByteArray)) := (blk_cell BK106.out 1).trans rfl; have hcz6_2 : w3.cell? ⟨gb106, 2, none⟩ = some (.string (⟨#[]⟩ : ByteArray)) := (blk_cell BK106.out 2).trans rfl; have hfz6_0 := blk_frozen BK106.out 0; have hfz6_1 := blk_frozen BK106.out 1; have hfz6_2 := blk_frozen BK106.out 2))
 refine bodyPost_ret (results_cell_row rfl _ _ gb106 39 #[.string a0_6, .string (⟨#[]⟩ : ByteArray), .string (⟨#[]⟩ : ByteArray)] (0, 0) _ rfl (by (with_reducible repeat (first | refine blk_drewN ?_ _ | refine blk_drew ?_ | refine blk_alloc ?_ _)); refine blk_put (cs := #[.string a0_6, .string (⟨#[]⟩ : ByteArray), .string (⟨#[]⟩ : ByteArray)]) ?_ 2 _ rfl; (with_reducible repeat (first | refine blk_drewN ?_ _ | refine blk_drew ?_ | refine blk_alloc ?_ _)); refine blk_put (cs := #[.string a0_6, .string (⟨#[]⟩ : ByteArray), .string (⟨#[]⟩ : ByteArray)]) ?_ 1 _ rfl; (with_reducible repeat (first | refine blk_drewN ?_ _ | refine blk_drew ?_ | refine blk_alloc ?_ _)); refine blk_put (cs := #[.string (⟨#[]⟩ : ByteArray), .string (⟨#[]⟩ : ByteArray), .string (⟨#[]⟩ : ByteArray)]) ?_ 0 _ rfl; (with_reducible repeat (first | refine blk_drewN ?_ _ | refine blk_drew ?_ | refine blk_alloc ?_ _)); exact BK106.out) Try.underlying39 rfl (by kernel_rfl)) rfl ?_
 exact ⟨qgpre_6, by repeat (first | (with_reducible first | exact HB.out | apply below_alloc | apply pw_below_drewN | apply below_drew1 | refine below_set ?_ GE105.out | refine below_set ?_ GE106.out) | exact HB.out)⟩

/-! ### estimate_grouping_2: function 63 -/
def estimate_grouping_2.f (a0_0 : Int) (a0_1 : Int) (a0_2 : Int) (a0_3 : Int) (a0_4 : Int) (a0_5 : Int) (a0_6 : ByteArray) (a0_7 : ByteArray) (a0_8 : ByteArray) (a0_9 : Int) (a0_10 : Int) (a0_11 : Bool) (l0_12 : List (S141)) (l0_13 : List (S146)) : Option (ByteArray × ByteArray × ByteArray) := some (a0_6, a0_7, (⟨#[]⟩ : ByteArray))
set_option maxHeartbeats 8000000 in
set_option maxRecDepth 100000 in
theorem estimate_grouping_2.calls (a0_0 : Int) (a0_1 : Int) (a0_2 : Int) (a0_3 : Int) (a0_4 : Int) (a0_5 : Int) (a0_6 : ByteArray) (a0_7 : ByteArray) (a0_8 : ByteArray) (a0_9 : Int) (a0_10 : Int) (a0_11 : Bool) (A0_12 : Option Addr) (c0_12 : Nat) (l0_12 : List (S141)) (A0_13 : Option Addr) (c0_13 : Nat) (l0_13 : List (S146)) (r1 : ByteArray) (r2 : ByteArray) (r3 : ByteArray) (w : World) (hr0_12 : Kd.C k141 w A0_12 l0_12.length l0_12) (hc0_12 : l0_12.length ≤ c0_12) (hr0_13 : Kd.C k146 w A0_13 l0_13.length l0_13) (hc0_13 : l0_13.length ≤ c0_13) (h : estimate_grouping_2.f a0_0 a0_1 a0_2 a0_3 a0_4 a0_5 a0_6 a0_7 a0_8 a0_9 a0_10 a0_11 l0_12 l0_13 = some (r1, r2, r3)) :
  Calls Try.prog 63 #[.agg #[.int .i64 a0_0, .int .i64 a0_1, .int .i64 a0_2, .int .i64 a0_3, .int .i64 a0_4, .int .i64 a0_5, .string a0_6, .string a0_7, .string a0_8, .int .i64 a0_9, .int .i64 a0_10, .bool a0_11, .slice A0_12 l0_12.length c0_12, .slice A0_13 l0_13.length c0_13]] w fun e w' => e = .returned (.agg #[.string r1, .string r2, .string r3]) ∧ Below w.heap.size w w' := by
 have hu58 := Try.underlying58
 have hu39 := Try.underlying39
 have HR0_12 := Aside0.mk hr0_12
 have HC0_12 := Aside0.mk hc0_12
 clear hr0_12 hc0_12
 have HR0_13 := Aside0.mk hr0_13
 have HC0_13 := Aside0.mk hc0_13
 clear hr0_13 hc0_13
 have HB := Aside0.mk (Below.refl w.heap.size w)
 have H : (some (a0_6, a0_7, (⟨#[]⟩ : ByteArray))) = some (r1, r2, r3) := h
 clear h
 simp only [Option.some.injEq, Prod.mk.injEq] at H
 obtain ⟨rfl, rfl, rfl⟩ := H
 go_enter Try.func63, Try.ntmps63
 go_wp2_with (first | ((with_reducible refine gate_dst (N := 1) rfl ?_); refine box_event ?hg (N := 1) ?hd (cs := #[.int .i64 a0_0, .int .i64 a0_1, .int .i64 a0_2, .int .i64 a0_3, .int .i64 a0_4, .int .i64 a0_5, .string a0_6, .string a0_7, .string a0_8, .int .i64 a0_9, .int .i64 a0_10, .bool a0_11, .slice A0_12 l0_12.length c0_12, .slice A0_13 l0_13.length c0_13]) (t := 58) ?hr ?_; (case hd => rfl); (case hg => rfl); (case hr => exact qgpre_15); intro gb107 hg w2 hbox hb; have n0_ := Aside0.mk (below_step qgpre_0 hb); have n1_ := Aside0.mk (hbox); have n2_ := Aside0.mk ((by rw [hg]; exact (below_size qgpre_0) : w.heap.size ≤ gb107)); have n3_ := Aside0.mk ((by rw [hg]; exact (below_size qgpre_0) : w.heap.size ≤ gb107)); clear HB; have HB := n0_; have BK107 := n1_; have GW107 := n2_; have GE107 := n3_; clear n0_ n1_ n2_ n3_; clear hb hbox hg) | ((with_reducible refine gate_dst (N := 2) rfl ?_); refine box_event ?hg (N := 2) ?hd (cs := #[.string (⟨#[]⟩ : ByteArray), .string (⟨#[]⟩ : ByteArray), .string (⟨#[]⟩ : ByteArray)]) (t := 39) ?hr ?_; (case hd => rfl); (case hg => rfl); (case hr => exact qgpre_15); intro gb108 hg w3 hbox hb; have n0_ := Aside0.mk (blk_below (g := gb107) (o := .cells #[.int .i64 a0_0, .int .i64 a0_1, .int .i64 a0_2, .int .i64 a0_3, .int .i64 a0_4, .int .i64 a0_5, .string a0_6, .string a0_7, .string a0_8, .int .i64 a0_9, .int .i64 a0_10, .bool a0_11, .slice A0_12 l0_12.length c0_12, .slice A0_13 l0_13.length c0_13] 58 (0, 0)) qgpre_13 hb); have n1_ := Aside0.mk (below_step qgpre_9 hb); have n2_ := Aside0.mk (hbox); have n3_ := Aside0.mk ((by rw [hg]; exact (below_size qgpre_9) : w.heap.size ≤ gb108)); have n4_ := Aside0.mk ((by rw [hg]; exact (below_size qgpre_9) : w.heap.size ≤ gb108)); have n5_ := Aside0.mk ((by rw [hg]; exact Nat.ne_of_lt (blk_lt (g := gb107) (o := .cells #[.int .i64 a0_0, .int .i64 a0_1, .int .i64 a0_2, .int .i64 a0_3, .int .i64 a0_4, .int .i64 a0_5, .string a0_6, .string a0_7, .string a0_8, .int .i64 a0_9, .int .i64 a0_10, .bool a0_11, .slice A0_12 l0_12.length c0_12, .slice A0_13 l0_13.length c0_13] 58 (0, 0)) qgpre_13) : gb107 ≠ gb108)); have n6_ := Aside0.mk ((by rw [hg]; exact Nat.ne_of_gt (blk_lt (g := gb107) (o := .cells #[.int .i64 a0_0, .int .i64 a0_1, .int .i64 a0_2, .int .i64 a0_3, .int .i64 a0_4, .int .i64 a0_5, .string a0_6, .string a0_7, .string a0_8, .int .i64 a0_9, .int .i64 a0_10, .bool a0_11, .slice A0_12 l0_12.length c0_12, .slice A0_13 l0_13.length c0_13] 58 (0, 0)) qgpre_13) : gb108 ≠ gb107)); clear BK107; clear HB; have BK107 := n0_; have HB := n1_; have BK108 := n2_; have GW108 := n3_; have GE108 := n4_; have NB107_108 := n5_; have NB108_107 := n6_; clear n0_ n1_ n2_ n3_ n4_ n5_ n6_; clear hb hbox hg; have hnb4 := NB107_108.out; have hnc4 := NB108_107.out; have hcz5_0 : w3.cell? ⟨gb107, 0, none⟩ = some (.int .i64 a0_0) := (blk_cell BK107.out 0).trans rfl; have hcz5_1 : w3.cell? ⟨gb107, 1, none⟩ = some (.int .i64 a0_1) := (blk_cell BK107.out 1).trans rfl; have hcz5_2 : w3.cell? ⟨gb107, 2, none⟩ = some (.int .i64 a0_2) := (blk_cell BK107.out 2).trans rfl; have hcz5_3 : w3.cell? ⟨gb107, 3, none⟩ = some (.int .i64 a0_3) := (blk_cell BK107.out 3).trans rfl; have hcz5_4 : w3.cell? ⟨gb107, 4, none⟩ = some (.int .i64 a0_4) := (blk_cell BK107.out 4).trans rfl; have hcz5_5 : w3.cell? ⟨gb107, 5, none⟩ = some (.int .i64 a0_5) := (blk_cell BK107.out 5).trans rfl; have hcz5_6 : w3.cell? ⟨gb107, 6, none⟩ = some (.string a0_6) := (blk_cell BK107.out 6).trans rfl; have hcz5_7 : w3.cell? ⟨gb107, 7, none⟩ = some (.string a0_7) := (blk_cell BK107.out 7).trans rfl; have hcz5_8 : w3.cell? ⟨gb107, 8, none⟩ = some (.string a0_8) := (blk_cell BK107.out 8).trans rfl; have hcz5_9 : w3.cell? ⟨gb107, 9, none⟩ = some (.int .i64 a0_9) := (blk_cell BK107.out 9).trans rfl; have hcz5_10 : w3.cell? ⟨gb107, 10, none⟩ = some (.int .i64 a0_10) := (blk_cell BK107.out 10).trans rfl; have hcz5_11 : w3.cell? ⟨gb107, 11, none⟩ = some (.bool a0_11) := (blk_cell BK107.out 11).trans rfl; have hcz5_12 : w3.cell? ⟨gb107, 12, none⟩ = some (.slice A0_12 l0_12.length c0_12) := (blk_cell BK107.out 12).trans rfl; have hcz5_13 : w3.cell? ⟨gb107, 13, none⟩ = some (.slice A0_13 l0_13.length c0_13) := (blk_cell BK107.out 13).trans rfl; have hfz5_0 := blk_frozen BK107.out 0; have hfz5_1 := blk_frozen BK107.out 1; have hfz5_2 := blk_frozen BK107.out 2; have hfz5_3 := blk_frozen BK107.out 3; have hfz5_4 := blk_frozen BK107.out 4; have hfz5_5 := blk_frozen BK107.out 5; have hfz5_6 := blk_frozen BK107.out 6; have hfz5_7 := blk_frozen BK107.out 7; have hfz5_8 := blk_frozen BK107.out 8; have hfz5_9 := blk_frozen BK107.out 9; have hfz5_10 := blk_frozen BK107.out 10; have hfz5_11 := blk_frozen BK107.out 11; have hfz5_12 := blk_frozen BK107.out 12; have hfz5_13 := blk_frozen BK107.out 13; have hcz6_0 : w3.cell? ⟨gb108, 0, none⟩ = some (.string (⟨#[]⟩ : ByteArray)) := (blk_cell BK108.out 0).trans rfl; have hcz6_1 : w3.cell? ⟨gb108, 1, none⟩ = some (.string (⟨#[]⟩ : ByteArray)) := (blk_cell BK108.out 1).trans rfl; have hcz6_2 : w3.cell? ⟨gb108, 2, none⟩ = some (.string (⟨#[]⟩ : ByteArray)) := (blk_cell BK108.out 2).trans rfl; have hfz6_0 := blk_frozen BK108.out 0; have hfz6_1 := blk_frozen BK108.out 1; have hfz6_2 := blk_frozen BK108.out 2))
 refine bodyPost_ret (results_cell_row rfl _ _ gb108 39 #[.string a0_6, .string a0_7, .string (⟨#[]⟩ : ByteArray)] (0, 0) _ rfl (by (with_reducible repeat (first | refine blk_drewN ?_ _ | refine blk_drew ?_ | refine blk_alloc ?_ _)); refine blk_put (cs := #[.string a0_6, .string a0_7, .string (⟨#[]⟩ : ByteArray)]) ?_ 2 _ rfl; (with_reducible repeat (first | refine blk_drewN ?_ _ | refine blk_drew ?_ | refine blk_alloc ?_ _)); refine blk_put (cs := #[.string a0_6, .string (⟨#[]⟩ : ByteArray), .string (⟨#[]⟩ : ByteArray)]) ?_ 1 _ rfl; (with_reducible repeat (first | refine blk_drewN ?_ _ | refine blk_drew ?_ | refine blk_alloc ?_ _)); refine blk_put (cs := #[.string (⟨#[]⟩ : ByteArray), .string (⟨#[]⟩ : ByteArray), .string (⟨#[]⟩ : ByteArray)]) ?_ 0 _ rfl; (with_reducible repeat (first | refine blk_drewN ?_ _ | refine blk_drew ?_ | refine blk_alloc ?_ _)); exact BK108.out) Try.underlying39 rfl (by kernel_rfl)) rfl ?_
 exact ⟨qgpre_6, by repeat (first | (with_reducible first | exact HB.out | apply below_alloc | apply pw_below_drewN | apply below_drew1 | refine below_set ?_ GE107.out | refine below_set ?_ GE108.out) | exact HB.out)⟩

/-! ### estimate_grouping_3: function 64 -/
def estimate_grouping_3.f (a0_0 : Int) (a0_1 : Int) (a0_2 : Int) (a0_3 : Int) (a0_4 : Int) (a0_5 : Int) (a0_6 : ByteArray) (a0_7 : ByteArray) (a0_8 : ByteArray) (a0_9 : Int) (a0_10 : Int) (a0_11 : Bool) (l0_12 : List (S141)) (l0_13 : List (S146)) : Option (ByteArray × ByteArray × ByteArray) := some (a0_6, (⟨#[]⟩ : ByteArray), a0_8)
set_option maxHeartbeats 8000000 in
set_option maxRecDepth 100000 in
theorem estimate_grouping_3.calls (a0_0 : Int) (a0_1 : Int) (a0_2 : Int) (a0_3 : Int) (a0_4 : Int) (a0_5 : Int) (a0_6 : ByteArray) (a0_7 : ByteArray) (a0_8 : ByteArray) (a0_9 : Int) (a0_10 : Int) (a0_11 : Bool) (A0_12 : Option Addr) (c0_12 : Nat) (l0_12 : List (S141)) (A0_13 : Option Addr) (c0_13 : Nat) (l0_13 : List (S146)) (r1 : ByteArray) (r2 : ByteArray) (r3 : ByteArray) (w : World) (hr0_12 : Kd.C k141 w A0_12 l0_12.length l0_12) (hc0_12 : l0_12.length ≤ c0_12) (hr0_13 : Kd.C k146 w A0_13 l0_13.length l0_13) (hc0_13 : l0_13.length ≤ c0_13) (h : estimate_grouping_3.f a0_0 a0_1 a0_2 a0_3 a0_4 a0_5 a0_6 a0_7 a0_8 a0_9 a0_10 a0_11 l0_12 l0_13 = some (r1, r2, r3)) :
  Calls Try.prog 64 #[.agg #[.int .i64 a0_0, .int .i64 a0_1, .int .i64 a0_2, .int .i64 a0_3, .int .i64 a0_4, .int .i64 a0_5, .string a0_6, .string a0_7, .string a0_8, .int .i64 a0_9, .int .i64 a0_10, .bool a0_11, .slice A0_12 l0_12.length c0_12, .slice A0_13 l0_13.length c0_13]] w fun e w' => e = .returned (.agg #[.string r1, .string r2, .string r3]) ∧ Below w.heap.size w w' := by
 have hu58 := Try.underlying58
 have hu39 := Try.underlying39
 have HR0_12 := Aside0.mk hr0_12
 have HC0_12 := Aside0.mk hc0_12
 clear hr0_12 hc0_12
 have HR0_13 := Aside0.mk hr0_13
 have HC0_13 := Aside0.mk hc0_13
 clear hr0_13 hc0_13
 have HB := Aside0.mk (Below.refl w.heap.size w)
 have H : (some (a0_6, (⟨#[]⟩ : ByteArray), a0_8)) = some (r1, r2, r3) := h
 clear h
 simp only [Option.some.injEq, Prod.mk.injEq] at H
 obtain ⟨rfl, rfl, rfl⟩ := H
 go_enter Try.func64, Try.ntmps64
 go_wp2_with (first | ((with_reducible refine gate_dst (N := 1) rfl ?_); refine box_event ?hg (N := 1) ?hd (cs := #[.int .i64 a0_0, .int .i64 a0_1, .int .i64 a0_2, .int .i64 a0_3, .int .i64 a0_4, .int .i64 a0_5, .string a0_6, .string a0_7, .string a0_8, .int .i64 a0_9, .int .i64 a0_10, .bool a0_11, .slice A0_12 l0_12.length c0_12, .slice A0_13 l0_13.length c0_13]) (t := 58) ?hr ?_; (case hd => rfl); (case hg => rfl); (case hr => exact qgpre_15); intro gb109 hg w2 hbox hb; have n0_ := Aside0.mk (below_step qgpre_0 hb); have n1_ := Aside0.mk (hbox); have n2_ := Aside0.mk ((by rw [hg]; exact (below_size qgpre_0) : w.heap.size ≤ gb109)); have n3_ := Aside0.mk ((by rw [hg]; exact (below_size qgpre_0) : w.heap.size ≤ gb109)); clear HB; have HB := n0_; have BK109 := n1_; have GW109 := n2_; have GE109 := n3_; clear n0_ n1_ n2_ n3_; clear hb hbox hg) | ((with_reducible refine gate_dst (N := 2) rfl ?_); refine box_event ?hg (N := 2) ?hd (cs := #[.string (⟨#[]⟩ : ByteArray), .string (⟨#[]⟩ : ByteArray), .string (⟨#[]⟩ : ByteArray)]) (t := 39) ?hr ?_; (case hd => rfl); (case hg => rfl); (case hr => exact qgpre_15); intro gb110 hg w3 hbox hb; have n0_ := Aside0.mk (blk_below (g := gb109) (o := .cells #[.int .i64 a0_0, .int .i64 a0_1, .int .i64 a0_2, .int .i64 a0_3, .int .i64 a0_4, .int .i64 a0_5, .string a0_6, .string a0_7, .string a0_8, .int .i64 a0_9, .int .i64 a0_10, .bool a0_11, .slice A0_12 l0_12.length c0_12, .slice A0_13 l0_13.length c0_13] 58 (0, 0)) qgpre_14 hb); have n1_ := Aside0.mk (below_step qgpre_10 hb); have n2_ := Aside0.mk (hbox); have n3_ := Aside0.mk ((by rw [hg]; exact (below_size qgpre_10) : w.heap.size ≤ gb110)); have n4_ := Aside0.mk ((by rw [hg]; exact (below_size qgpre_10) : w.heap.size ≤ gb110)); have n5_ := Aside0.mk ((by rw [hg]; exact Nat.ne_of_lt (blk_lt (g := gb109) (o := .cells #[.int .i64 a0_0, .int .i64 a0_1, .int .i64 a0_2, .int .i64 a0_3, .int .i64 a0_4, .int .i64 a0_5, .string a0_6, .string a0_7, .string a0_8, .int .i64 a0_9, .int .i64 a0_10, .bool a0_11, .slice A0_12 l0_12.length c0_12, .slice A0_13 l0_13.length c0_13] 58 (0, 0)) qgpre_14) : gb109 ≠ gb110)); have n6_ := Aside0.mk ((by rw [hg]; exact Nat.ne_of_gt (blk_lt (g := gb109) (o := .cells #[.int .i64 a0_0, .int .i64 a0_1, .int .i64 a0_2, .int .i64 a0_3, .int .i64 a0_4, .int .i64 a0_5, .string a0_6, .string a0_7, .string a0_8, .int .i64 a0_9, .int .i64 a0_10, .bool a0_11, .slice A0_12 l0_12.length c0_12, .slice A0_13 l0_13.length c0_13] 58 (0, 0)) qgpre_14) : gb110 ≠ gb109)); clear BK109; clear HB; have BK109 := n0_; have HB := n1_; have BK110 := n2_; have GW110 := n3_; have GE110 := n4_; have NB109_110 := n5_; have NB110_109 := n6_; clear n0_ n1_ n2_ n3_ n4_ n5_ n6_; clear hb hbox hg; have hnb4 := NB109_110.out; have hnc4 := NB110_109.out; have hcz5_0 : w3.cell? ⟨gb109, 0, none⟩ = some (.int .i64 a0_0) := (blk_cell BK109.out 0).trans rfl; have hcz5_1 : w3.cell? ⟨gb109, 1, none⟩ = some (.int .i64 a0_1) := (blk_cell BK109.out 1).trans rfl; have hcz5_2 : w3.cell? ⟨gb109, 2, none⟩ = some (.int .i64 a0_2) := (blk_cell BK109.out 2).trans rfl; have hcz5_3 : w3.cell? ⟨gb109, 3, none⟩ = some (.int .i64 a0_3) := (blk_cell BK109.out 3).trans rfl; have hcz5_4 : w3.cell? ⟨gb109, 4, none⟩ = some (.int .i64 a0_4) := (blk_cell BK109.out 4).trans rfl; have hcz5_5 : w3.cell? ⟨gb109, 5, none⟩ = some (.int .i64 a0_5) := (blk_cell BK109.out 5).trans rfl; have hcz5_6 : w3.cell? ⟨gb109, 6, none⟩ = some (.string a0_6) := (blk_cell BK109.out 6).trans rfl; have hcz5_7 : w3.cell? ⟨gb109, 7, none⟩ = some (.string a0_7) := (blk_cell BK109.out 7).trans rfl; have hcz5_8 : w3.cell? ⟨gb109, 8, none⟩ = some (.string a0_8) := (blk_cell BK109.out 8).trans rfl; have hcz5_9 : w3.cell? ⟨gb109, 9, none⟩ = some (.int .i64 a0_9) := (blk_cell BK109.out 9).trans rfl; have hcz5_10 : w3.cell? ⟨gb109, 10, none⟩ = some (.int .i64 a0_10) := (blk_cell BK109.out 10).trans rfl; have hcz5_11 : w3.cell? ⟨gb109, 11, none⟩ = some (.bool a0_11) := (blk_cell BK109.out 11).trans rfl; have hcz5_12 : w3.cell? ⟨gb109, 12, none⟩ = some (.slice A0_12 l0_12.length c0_12) := (blk_cell BK109.out 12).trans rfl; have hcz5_13 : w3.cell? ⟨gb109, 13, none⟩ = some (.slice A0_13 l0_13.length c0_13) := (blk_cell BK109.out 13).trans rfl; have hfz5_0 := blk_frozen BK109.out 0; have hfz5_1 := blk_frozen BK109.out 1; have hfz5_2 := blk_frozen BK109.out 2; have hfz5_3 := blk_frozen BK109.out 3; have hfz5_4 := blk_frozen BK109.out 4; have hfz5_5 := blk_frozen BK109.out 5; have hfz5_6 := blk_frozen BK109.out 6; have hfz5_7 := blk_frozen BK109.out 7; have hfz5_8 := blk_frozen BK109.out 8; have hfz5_9 := blk_frozen BK109.out 9; have hfz5_10 := blk_frozen BK109.out 10; have hfz5_11 := blk_frozen BK109.out 11; have hfz5_12 := blk_frozen BK109.out 12; have hfz5_13 := blk_frozen BK109.out 13; have hcz6_0 : w3.cell? ⟨gb110, 0, none⟩ = some (.string (⟨#[]⟩ : ByteArray)) := (blk_cell BK110.out 0).trans rfl; have hcz6_1 : w3.cell? ⟨gb110, 1, none⟩ = some (.string (⟨#[]⟩ : ByteArray)) := (blk_cell BK110.out 1).trans rfl; have hcz6_2 : w3.cell? ⟨gb110, 2, none⟩ = some (.string (⟨#[]⟩ : ByteArray)) := (blk_cell BK110.out 2).trans rfl; have hfz6_0 := blk_frozen BK110.out 0; have hfz6_1 := blk_frozen BK110.out 1; have hfz6_2 := blk_frozen BK110.out 2))
 refine bodyPost_ret (results_cell_row rfl _ _ gb110 39 #[.string a0_6, .string (⟨#[]⟩ : ByteArray), .string a0_8] (0, 0) _ rfl (by (with_reducible repeat (first | refine blk_drewN ?_ _ | refine blk_drew ?_ | refine blk_alloc ?_ _)); refine blk_put (cs := #[.string a0_6, .string (⟨#[]⟩ : ByteArray), .string (⟨#[]⟩ : ByteArray)]) ?_ 2 _ rfl; (with_reducible repeat (first | refine blk_drewN ?_ _ | refine blk_drew ?_ | refine blk_alloc ?_ _)); refine blk_put (cs := #[.string a0_6, .string (⟨#[]⟩ : ByteArray), .string (⟨#[]⟩ : ByteArray)]) ?_ 1 _ rfl; (with_reducible repeat (first | refine blk_drewN ?_ _ | refine blk_drew ?_ | refine blk_alloc ?_ _)); refine blk_put (cs := #[.string (⟨#[]⟩ : ByteArray), .string (⟨#[]⟩ : ByteArray), .string (⟨#[]⟩ : ByteArray)]) ?_ 0 _ rfl; (with_reducible repeat (first | refine blk_drewN ?_ _ | refine blk_drew ?_ | refine blk_alloc ?_ _)); exact BK110.out) Try.underlying39 rfl (by kernel_rfl)) rfl ?_
 exact ⟨qgpre_6, by repeat (first | (with_reducible first | exact HB.out | apply below_alloc | apply pw_below_drewN | apply below_drew1 | refine below_set ?_ GE109.out | refine below_set ?_ GE110.out) | exact HB.out)⟩

/-! ### cmp_Or_int: function 81 -/
def cmp_Or_int.l0 : Nat → Int → List Int → Int → Int → Option (Int)
 | 0, _, _, _, _ => none
 | k + 1, x3, x6, x7, x8 => if x8 < x7 then (if 0 ≤ x8 then (if x8 < (x6.length : Int) then (if (rd x6 x8) = x3 then (cmp_Or_int.l0 k x3 x6 x7 (wrap64 (x8 + 1))) else (some (rd x6 x8))) else (none)) else (none)) else (some x3)
def cmp_Or_int.f (k : Nat) (l0 : List Int) : Option (Int) := cmp_Or_int.l0 k 0 l0 (l0.length : Int) 0
theorem cmp_Or_int.mono_l : ∀ k, (∀ y0 y1 y2 y3, LeO (cmp_Or_int.l0 k y0 y1 y2 y3) (cmp_Or_int.l0 (k + 1) y0 y1 y2 y3))
 | 0 => fun _ _ _ _ r h => by simp [cmp_Or_int.l0] at h
 | k + 1 => by
  have ih0 := cmp_Or_int.mono_l k
  ·intro y0 y1 y2 y3
   unfold cmp_Or_int.l0
   repeat' first
   | (with_reducible exact ih0 _ _ _ _)
   | (with_reducible exact LeO.refl _)
   | (with_reducible exact LeO.none _)
   | (with_reducible refine LeO.ite ?_ ?_)
   | (with_reducible refine LeO.bind ?_ (fun _ => ?_))
   | exact ih0 _ _ _ _
   | exact LeO.none _
   | refine LeO.ite ?_ ?_
   | refine LeO.bind ?_ (fun _ => ?_)
theorem cmp_Or_int.mono : ∀ a0 k, LeO (cmp_Or_int.f k a0) (cmp_Or_int.f (k + 1) a0) := by
 intro a0 k
 have ih0 := cmp_Or_int.mono_l k
 unfold cmp_Or_int.f
 repeat' first
   | (with_reducible exact ih0 _ _ _ _)
   | (with_reducible exact LeO.refl _)
   | (with_reducible exact LeO.none _)
   | (with_reducible refine LeO.ite ?_ ?_)
   | (with_reducible refine LeO.bind ?_ (fun _ => ?_))
   | exact ih0 _ _ _ _
   | exact LeO.none _
   | refine LeO.ite ?_ ?_
   | refine LeO.bind ?_ (fun _ => ?_)
set_option maxHeartbeats 8000000 in
set_option maxRecDepth 100000 in
theorem cmp_Or_int.calls (k : Nat) (A0 : Option Addr) (c0 : Nat) (l0 : List Int) (r : Int) (w : World) (hr0 : Kd.C (Kd.int .i64) w A0 l0.length l0) (hc0 : l0.length ≤ c0) (h : cmp_Or_int.f k l0 = some r) :
  Calls Try.prog 81 #[.slice A0 l0.length c0] w fun e w' => e = .returned (.int .i64 r) ∧ Drawn0 w w' := by
 have HR0 := Aside0.mk hr0
 have HC0 := Aside0.mk hc0
 clear hr0 hc0
 have H : (cmp_Or_int.l0 k 0 l0 (l0.length : Int) 0) = some r := h
 clear h
 have H' := Aside0.mk H
 clear H
 go_enter Try.func81, Try.ntmps81
 go_wp2
 go_loopg [8] k (fun kq v8 w' => ∃ (x8_1 : Int), v8 = .int .i64 x8_1 ∧ Aside0 (cmp_Or_int.l0 kq 0 l0 (l0.length : Int) x8_1 = some r) ∧ Aside0 (kq ≤ k) ∧ Drawn0 w w')
 case atStart => exact ⟨(0), qgpre_4, H', ⟨Nat.le_refl _⟩, qgpre_3⟩
 clear H'
 obtain ⟨x8_1, rfl, HA, HK1, ⟨m1, rfl⟩⟩ := hrel
 cases gk with
 | zero => exact absurd HA.out (by simp [cmp_Or_int.l0])
 | succ k1 =>
  have H := HA.out
  clear HA
  simp only [cmp_Or_int.l0] at H
  by_cases c2 : x8_1 < (l0.length : Int)
  rotate_left
  ·rw [if_neg c2] at H
   have c2b0 : decide (x8_1 < (l0.length : Int)) = false := decide_eq_false c2
   clear c2
   obtain rfl := Option.some.inj H
   go_wp2
   go_ret
   exact ⟨qgpre_4, qgpre_3⟩
  rw [if_pos c2] at H
  have c2b0 : decide (x8_1 < (l0.length : Int)) = true := decide_eq_true c2
  clear c2
  by_cases c3 : 0 ≤ x8_1
  rotate_left
  ·rw [if_neg c3] at H
   exact absurd H (by simp)
  rw [if_pos c3] at H
  have c3b0 : decide (0 ≤ x8_1) = true := decide_eq_true c3
  clear c3
  by_cases c4 : x8_1 < (l0.length : Int)
  rotate_left
  ·rw [if_neg c4] at H
   exact absurd H (by simp)
  rw [if_pos c4] at H
  have c4b0 : decide (x8_1 < (l0.length : Int)) = true := decide_eq_true c4
  clear c4
  by_cases c5 : (rd l0 x8_1) = 0
  rotate_left
  ·rw [if_neg c5] at H
   have c5b0 : ((rd l0 x8_1) == 0) = false := beq_eq_false_iff_ne.mpr c5
   have c5b1 : ((rd l0 x8_1) != 0) = true := bne_iff_ne.mpr c5
   obtain rfl := Option.some.inj H
   have p111 : 0 ≤ (x8_1 : Int) := of_decide_eq_true qgpre_16
   have q111 : x8_1 < (l0.length : Int) := of_decide_eq_true qgpre_16
   obtain ⟨ad111, e111, hx111_0⟩ := Kd.at_int HR0.out x8_1 p111 q111
   cases e111
   replace p111 := eq_true p111
   replace q111 := eq_true q111
   go_wp2
   go_ret
   exact ⟨qgpre_4, qgpre_3⟩
  rw [if_pos c5] at H
  have c5b0 : ((rd l0 x8_1) == 0) = true := beq_iff_eq.mpr c5
  have c5b1 : ((rd l0 x8_1) != 0) = false := bne_eq_false_iff_eq.mpr c5
  clear c5
  have H' := Aside0.mk H
  clear H
  have p111 : 0 ≤ (x8_1 : Int) := of_decide_eq_true qgpre_16
  have q111 : x8_1 < (l0.length : Int) := of_decide_eq_true qgpre_16
  obtain ⟨ad111, e111, hx111_0⟩ := Kd.at_int HR0.out x8_1 p111 q111
  cases e111
  replace p111 := eq_true p111
  replace q111 := eq_true q111
  go_wp2
  go_roundg k1
  case measure => have := HK1.out; omega
  case rel => exact ⟨(wrap64 (x8_1 + 1)), qgpre_4, H', ⟨by have := HK1.out; omega⟩, qgpre_3⟩

/-! ### cmp_isNaN_string: function 97 -/
def cmp_isNaN_string.f (a0 : ByteArray) : Option (Bool) := some (a0.toList != a0.toList)
set_option maxHeartbeats 8000000 in
set_option maxRecDepth 100000 in
theorem cmp_isNaN_string.calls (a0 : ByteArray) (r : Bool) (w : World) (h : cmp_isNaN_string.f a0 = some r) :
  Calls Try.prog 97 #[.string a0] w fun e w' => e = .returned (.bool r) ∧ Drawn0 w w' := by
 have H : (some (a0.toList != a0.toList)) = some r := h
 clear h
 obtain rfl := Option.some.inj H
 go_enter Try.func97, Try.ntmps97
 go_wp2
 go_ret
 exact ⟨qgpre_4, qgpre_3⟩

/-! ### cmp_Compare_string: function 82 -/
def cmp_Compare_string.f (a0 : ByteArray) (a1 : ByteArray) : Option (Int) := (cmp_isNaN_string.f a0).bind fun t112 => ((cmp_isNaN_string.f a1).bind fun t113 => (if t112 = true then (if t113 = true then (some 0) else (some (-1))) else (if t113 = true then (some 1) else (if (Op.bytesLess a0.toList a1.toList) = true then (some (-1)) else (if (Op.bytesLess a1.toList a0.toList) = true then (some 1) else (some 0))))))
set_option maxHeartbeats 8000000 in
set_option maxRecDepth 100000 in
theorem cmp_Compare_string.calls (a0 : ByteArray) (a1 : ByteArray) (r : Int) (w : World) (h : cmp_Compare_string.f a0 a1 = some r) :
  Calls Try.prog 82 #[.string a0, .string a1] w fun e w' => e = .returned (.int .i64 r) ∧ Drawn0 w w' := by
 have H : ((cmp_isNaN_string.f a0).bind fun t112 => ((cmp_isNaN_string.f a1).bind fun t113 => (if t112 = true then (if t113 = true then (some 0) else (some (-1))) else (if t113 = true then (some 1) else (if (Op.bytesLess a0.toList a1.toList) = true then (some (-1)) else (if (Op.bytesLess a1.toList a0.toList) = true then (some 1) else (some 0))))))) = some r := h
 clear h
 replace H := Option.bind_eq_some_iff.mp H
 obtain ⟨t112, A30, H⟩ := H
 replace H : ((cmp_isNaN_string.f a1).bind fun t113 => (if t112 = true then (if t113 = true then (some 0) else (some (-1))) else (if t113 = true then (some 1) else (if (Op.bytesLess a0.toList a1.toList) = true then (some (-1)) else (if (Op.bytesLess a1.toList a0.toList) = true then (some 1) else (some 0)))))) = some r := H
 have A3 := Aside0.mk A30
 clear A30
 replace H := Option.bind_eq_some_iff.mp H
 obtain ⟨t113, A40, H⟩ := H
 replace H : (if t112 = true then (if t113 = true then (some 0) else (some (-1))) else (if t113 = true then (some 1) else (if (Op.bytesLess a0.toList a1.toList) = true then (some (-1)) else (if (Op.bytesLess a1.toList a0.toList) = true then (some 1) else (some 0))))) = some r := H
 have A4 := Aside0.mk A40
 clear A40
 by_cases c5 : t112 = true
 ·subst c5
  have H1 : (if t113 = true then (some 0) else (some (-1))) = some r := by rw [if_pos rfl] at H; exact H
  clear H
  have H := H1
  clear H1
  by_cases c6 : t113 = true
  ·subst c6
   have H1 : (some 0) = some r := by rw [if_pos rfl] at H; exact H
   clear H
   have H := H1
   clear H1
   obtain rfl := Option.some.inj H
   go_enter Try.func82, Try.ntmps82
   go_wp2_with (first | ((with_reducible refine gate_callee (f := 97) rfl ?_); refine goesL_ (some 8) rfl rfl Try.func97 (by kernel_rfl) rfl #[.string a0] rfl qgpre_1 ?_; (with_reducible refine (cmp_isNaN_string.calls a0 true _ A3.out).mono ?_); rintro e w' ⟨rfl, ⟨nd, rfl⟩⟩; refine ⟨_, rfl, ?_⟩) | ((with_reducible refine gate_callee (f := 97) rfl ?_); refine goesL_ (some 10) rfl rfl Try.func97 (by kernel_rfl) rfl #[.string a1] rfl qgpre_1 ?_; (with_reducible refine (cmp_isNaN_string.calls a1 true _ A4.out).mono ?_); rintro e w' ⟨rfl, ⟨nd, rfl⟩⟩; refine ⟨_, rfl, ?_⟩))
   go_ret
   exact ⟨qgpre_4, qgpre_3⟩
  replace c6 := Bool.eq_false_iff.mpr c6
  subst c6
  have H1 : (some (-1)) = some r := by rw [if_neg (show ¬ (false = true) by decide)] at H; exact H
  clear H
  have H := H1
  clear H1
  obtain rfl := Option.some.inj H
  go_enter Try.func82, Try.ntmps82
  go_wp2_with (first | ((with_reducible refine gate_callee (f := 97) rfl ?_); refine goesL_ (some 8) rfl rfl Try.func97 (by kernel_rfl) rfl #[.string a0] rfl qgpre_1 ?_; (with_reducible refine (cmp_isNaN_string.calls a0 true _ A3.out).mono ?_); rintro e w' ⟨rfl, ⟨nd, rfl⟩⟩; refine ⟨_, rfl, ?_⟩) | ((with_reducible refine gate_callee (f := 97) rfl ?_); refine goesL_ (some 10) rfl rfl Try.func97 (by kernel_rfl) rfl #[.string a1] rfl qgpre_1 ?_; (with_reducible refine (cmp_isNaN_string.calls a1 false _ A4.out).mono ?_); rintro e w' ⟨rfl, ⟨nd, rfl⟩⟩; refine ⟨_, rfl, ?_⟩))
  go_ret
  exact ⟨qgpre_4, qgpre_3⟩
 replace c5 := Bool.eq_false_iff.mpr c5
 subst c5
 have H1 : (if t113 = true then (some 1) else (if (Op.bytesLess a0.toList a1.toList) = true then (some (-1)) else (if (Op.bytesLess a1.toList a0.toList) = true then (some 1) else (some 0)))) = some r := by rw [if_neg (show ¬ (false = true) by decide)] at H; exact H
 clear H
 have H := H1
 clear H1
 by_cases c7 : t113 = true
 ·subst c7
  have H1 : (some 1) = some r := by rw [if_pos rfl] at H; exact H
  clear H
  have H := H1
  clear H1
  obtain rfl := Option.some.inj H
  go_enter Try.func82, Try.ntmps82
  go_wp2_with (first | ((with_reducible refine gate_callee (f := 97) rfl ?_); refine goesL_ (some 8) rfl rfl Try.func97 (by kernel_rfl) rfl #[.string a0] rfl qgpre_1 ?_; (with_reducible refine (cmp_isNaN_string.calls a0 false _ A3.out).mono ?_); rintro e w' ⟨rfl, ⟨nd, rfl⟩⟩; refine ⟨_, rfl, ?_⟩) | ((with_reducible refine gate_callee (f := 97) rfl ?_); refine goesL_ (some 10) rfl rfl Try.func97 (by kernel_rfl) rfl #[.string a1] rfl qgpre_1 ?_; (with_reducible refine (cmp_isNaN_string.calls a1 true _ A4.out).mono ?_); rintro e w' ⟨rfl, ⟨nd, rfl⟩⟩; refine ⟨_, rfl, ?_⟩))
  go_ret
  exact ⟨qgpre_4, qgpre_3⟩
 replace c7 := Bool.eq_false_iff.mpr c7
 subst c7
 have H1 : (if (Op.bytesLess a0.toList a1.toList) = true then (some (-1)) else (if (Op.bytesLess a1.toList a0.toList) = true then (some 1) else (some 0))) = some r := by rw [if_neg (show ¬ (false = true) by decide)] at H; exact H
 clear H
 have H := H1
 clear H1
 by_cases c8 : (Op.bytesLess a0.toList a1.toList) = true
 ·rw [if_pos c8] at H
  have c8b0 : (Op.bytesLess a0.toList a1.toList) = true := c8
  clear c8
  obtain rfl := Option.some.inj H
  go_enter Try.func82, Try.ntmps82
  go_wp2_with (first | ((with_reducible refine gate_callee (f := 97) rfl ?_); refine goesL_ (some 8) rfl rfl Try.func97 (by kernel_rfl) rfl #[.string a0] rfl qgpre_1 ?_; (with_reducible refine (cmp_isNaN_string.calls a0 false _ A3.out).mono ?_); rintro e w' ⟨rfl, ⟨nd, rfl⟩⟩; refine ⟨_, rfl, ?_⟩) | ((with_reducible refine gate_callee (f := 97) rfl ?_); refine goesL_ (some 10) rfl rfl Try.func97 (by kernel_rfl) rfl #[.string a1] rfl qgpre_1 ?_; (with_reducible refine (cmp_isNaN_string.calls a1 false _ A4.out).mono ?_); rintro e w' ⟨rfl, ⟨nd, rfl⟩⟩; refine ⟨_, rfl, ?_⟩))
  go_ret
  exact ⟨qgpre_4, qgpre_3⟩
 rw [if_neg c8] at H
 have c8b0 : (Op.bytesLess a0.toList a1.toList) = false := by simpa using c8
 clear c8
 by_cases c9 : (Op.bytesLess a1.toList a0.toList) = true
 ·rw [if_pos c9] at H
  have c9b0 : (Op.bytesLess a1.toList a0.toList) = true := c9
  clear c9
  obtain rfl := Option.some.inj H
  go_enter Try.func82, Try.ntmps82
  go_wp2_with (first | ((with_reducible refine gate_callee (f := 97) rfl ?_); refine goesL_ (some 8) rfl rfl Try.func97 (by kernel_rfl) rfl #[.string a0] rfl qgpre_1 ?_; (with_reducible refine (cmp_isNaN_string.calls a0 false _ A3.out).mono ?_); rintro e w' ⟨rfl, ⟨nd, rfl⟩⟩; refine ⟨_, rfl, ?_⟩) | ((with_reducible refine gate_callee (f := 97) rfl ?_); refine goesL_ (some 10) rfl rfl Try.func97 (by kernel_rfl) rfl #[.string a1] rfl qgpre_1 ?_; (with_reducible refine (cmp_isNaN_string.calls a1 false _ A4.out).mono ?_); rintro e w' ⟨rfl, ⟨nd, rfl⟩⟩; refine ⟨_, rfl, ?_⟩))
  go_ret
  exact ⟨qgpre_4, qgpre_3⟩
 rw [if_neg c9] at H
 have c9b0 : (Op.bytesLess a1.toList a0.toList) = false := by simpa using c9
 clear c9
 obtain rfl := Option.some.inj H
 go_enter Try.func82, Try.ntmps82
 go_wp2_with (first | ((with_reducible refine gate_callee (f := 97) rfl ?_); refine goesL_ (some 8) rfl rfl Try.func97 (by kernel_rfl) rfl #[.string a0] rfl qgpre_1 ?_; (with_reducible refine (cmp_isNaN_string.calls a0 false _ A3.out).mono ?_); rintro e w' ⟨rfl, ⟨nd, rfl⟩⟩; refine ⟨_, rfl, ?_⟩) | ((with_reducible refine gate_callee (f := 97) rfl ?_); refine goesL_ (some 10) rfl rfl Try.func97 (by kernel_rfl) rfl #[.string a1] rfl qgpre_1 ?_; (with_reducible refine (cmp_isNaN_string.calls a1 false _ A4.out).mono ?_); rintro e w' ⟨rfl, ⟨nd, rfl⟩⟩; refine ⟨_, rfl, ?_⟩))
 go_ret
 exact ⟨qgpre_4, qgpre_3⟩

end Go.Proofs.Ythdifdnjodbdnaa.Q
