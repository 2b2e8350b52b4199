-- Laid by myprint.py (a program of this session's, over the kit's printer and with functions proved by hand)
import Derived.Test.YtcjgmofgfblmnaaTy
import Derived.Test.YtcjgmofgfblmnaaPw
namespace Go.Proofs.Ytcjgmofgfblmnaa.Q
open Go.RowKit Go.Proofs.YtcjgmofgfblmnaaW.PrintWords Go.Proofs.YtcjgmofgfblmnaaW.PrintLast Go.Proofs.YtcjgmofgfblmnaaW.PrintMore
attribute [local go_sem] max2_int min2_int max_two min_two max_three min_three max_four min_four   -- for this text's walks alone
set_option linter.unusedVariables false
set_option linter.unusedSimpArgs false

abbrev T3947 : Bool := true
abbrev F3947 : Bool := false
abbrev A3947_0 : Array Bool := #[F3947, F3947, F3947, F3947, F3947, F3947, F3947, F3947, F3947, F3947, F3947]
abbrev A3947_1 : Array Bool := #[T3947, F3947, F3947, F3947, F3947, F3947, F3947, F3947, F3947, F3947, F3947]
abbrev A3947_2 : Array Bool := #[T3947, F3947, T3947, F3947, F3947, F3947, F3947, F3947, F3947, F3947, F3947]
abbrev A3947_3 : Array Bool := #[T3947, F3947, T3947, T3947, F3947, F3947, F3947, F3947, F3947, F3947, F3947]
abbrev A3947_4 : Array Bool := #[T3947, F3947, T3947, T3947, T3947, F3947, F3947, F3947, F3947, F3947, F3947]
abbrev A3947_5 : Array Bool := #[T3947, T3947, T3947, T3947, T3947, F3947, F3947, F3947, F3947, F3947, F3947]
abbrev A3947_6 : Array Bool := #[T3947, T3947, T3947, T3947, T3947, T3947, F3947, F3947, F3947, F3947, F3947]
abbrev A3947_7 : Array Bool := #[T3947, T3947, T3947, T3947, T3947, T3947, T3947, F3947, F3947, F3947, F3947]
abbrev A3947_8 : Array Bool := #[T3947, T3947, T3947, T3947, T3947, T3947, T3947, T3947, F3947, F3947, F3947]
abbrev A3947_9 : Array Bool := #[T3947, T3947, T3947, T3947, T3947, T3947, T3947, T3947, T3947, F3947, F3947]
abbrev A3947_10 : Array Bool := #[T3947, T3947, T3947, T3947, T3947, T3947, T3947, T3947, T3947, T3947, F3947]
abbrev A3947_11 : Array Bool := #[T3947, T3947, T3947, T3947, T3947, T3947, T3947, T3947, T3947, T3947, T3947]
theorem qgbase_0 {p : Prop} (h : p := by (with_reducible repeat (first | refine blk_drewN ?_ _ | refine blk_drew ?_ | refine blk_alloc ?_ _)); refine blk_put (cs := #[.string (⟨#[97, 112, 105]⟩ : ByteArray), .string (⟨#[]⟩ : ByteArray), .int .i64 1, .int .i64 0, .int .i64 0, .int .i64 (wrap64 (a0)), .slice none 0 0]) ?_ 6 _ rfl; (with_reducible repeat (first | refine blk_drewN ?_ _ | refine blk_drew ?_ | refine blk_alloc ?_ _)); refine blk_put (cs := #[.string (⟨#[97, 112, 105]⟩ : ByteArray), .string (⟨#[]⟩ : ByteArray), .int .i64 1, .int .i64 0, .int .i64 0, .int .i64 0, .slice none 0 0]) ?_ 5 _ rfl; (with_reducible repeat (first | refine blk_drewN ?_ _ | refine blk_drew ?_ | refine blk_alloc ?_ _)); refine blk_put (cs := #[.string (⟨#[97, 112, 105]⟩ : ByteArray), .string (⟨#[]⟩ : ByteArray), .int .i64 1, .int .i64 0, .int .i64 0, .int .i64 0, .slice none 0 0]) ?_ 4 _ rfl; (with_reducible repeat (first | refine blk_drewN ?_ _ | refine blk_drew ?_ | refine blk_alloc ?_ _)); refine blk_put (cs := #[.string (⟨#[97, 112, 105]⟩ : ByteArray), .string (⟨#[]⟩ : ByteArray), .int .i64 1, .int .i64 0, .int .i64 0, .int .i64 0, .slice none 0 0]) ?_ 3 _ rfl; (with_reducible repeat (first | refine blk_drewN ?_ _ | refine blk_drew ?_ | refine blk_alloc ?_ _)); refine blk_put (cs := #[.string (⟨#[97, 112, 105]⟩ : ByteArray), .string (⟨#[]⟩ : ByteArray), .int .i64 0, .int .i64 0, .int .i64 0, .int .i64 0, .slice none 0 0]) ?_ 2 _ rfl; (with_reducible repeat (first | refine blk_drewN ?_ _ | refine blk_drew ?_ | refine blk_alloc ?_ _)); refine blk_put (cs := #[.string (⟨#[97, 112, 105]⟩ : ByteArray), .string (⟨#[]⟩ : ByteArray), .int .i64 0, .int .i64 0, .int .i64 0, .int .i64 0, .slice none 0 0]) ?_ 1 _ rfl; (with_reducible repeat (first | refine blk_drewN ?_ _ | refine blk_drew ?_ | refine blk_alloc ?_ _)); refine blk_put (cs := #[.string (⟨#[]⟩ : ByteArray), .string (⟨#[]⟩ : ByteArray), .int .i64 0, .int .i64 0, .int .i64 0, .int .i64 0, .slice none 0 0]) ?_ 0 _ rfl; (with_reducible repeat (first | refine blk_drewN ?_ _ | refine blk_drew ?_ | refine blk_alloc ?_ _)); exact BK101.out) : p := h
theorem qgbase_1 {p : Prop} (h : p := by (try simp only [List.map_toArray, List.map_cons, List.map_nil]); first | done | rfl | (simp only [List.length_drop, List.length_take]; rfl)) : p := h
theorem qgbase_2 {p : Prop} (h : p := by repeat (first | exact Drawn0.refl _ | apply Drawn0.step)) : p := h
theorem qgbase_3 {p : Prop} (h : p := by first | rfl | (simp; done) | (simp [*]; done)) : p := h
theorem qgbase_4 {p : Prop} (h : p := by repeat (first | (with_reducible first | exact HB.out | apply below_alloc | apply pw_below_drewN | apply below_drew1 | refine below_set ?_ GE101.out | refine below_set ?_ GE102.out) | exact HB.out)) : p := h
theorem qgbase_5 {p : Prop} (h : p := by first | (with_reducible assumption) | assumption) : p := h
theorem qgbase_6 {p : Prop} (h : p := by (with_reducible repeat (first | refine blk_drewN ?_ _ | refine blk_drew ?_ | refine blk_alloc ?_ _)); exact BK101.out) : p := h
theorem qgbase_7 {p : Prop} (h : p := by repeat (first | (with_reducible first | exact HB.out | apply below_alloc | apply pw_below_drewN | apply below_drew1 | refine below_set ?_ GE101.out) | exact HB.out)) : p := h
theorem qgbase_8 {p : Prop} (h : p := by repeat (first | (with_reducible first | exact HB.out | apply below_alloc | apply pw_below_drewN | apply below_drew1) | exact HB.out)) : p := h
theorem qgbase_9 {p : Prop} (h : p := by (try simp only [List.map_toArray, List.map_cons, List.map_nil]); first | done | (simp only [hji4]; rfl) | rfl | (simp only [List.length_drop, List.length_take]; rfl)) : p := h
/-! ### sleuthlaw45_points: function 14 -/
def sleuthlaw45_points.l0 : Nat → List Int → Int → ByteArray → ByteArray → Int → Int → Int → Int → List Int → Option (ByteArray × ByteArray × Int × Int × Int × Int × List Int)
 | 0, _, _, _, _, _, _, _, _, _ => none
 | k + 1, x1, x6, x103000, x103001, x103002, x103003, x103004, x103005, x103006 => if x6 < (x1.length : Int) then (if x6 < 14 then (if 0 ≤ x6 then (if x103006.length < 17592186044416 then (sleuthlaw45_points.l0 k x1 (wrap64 (x6 + 1)) x103000 x103001 x103002 x103003 x103004 x103005 (x103006 ++ [wrap64 (rd x1 x6)])) else (none)) else (none)) else (some (x103000, x103001, x103002, x103003, x103004, x103005, x103006))) else (some (x103000, x103001, x103002, x103003, x103004, x103005, x103006))
def sleuthlaw45_points.f (k : Nat) (a0 : Int) (l1 : List Int) : Option (ByteArray × ByteArray × Int × Int × Int × Int × List Int) := sleuthlaw45_points.l0 k l1 0 (⟨#[97, 112, 105]⟩ : ByteArray) (⟨#[]⟩ : ByteArray) 1 0 0 (wrap64 (a0)) ([] : List Int)
theorem sleuthlaw45_points.mono_l : ∀ k, (∀ y0 y1 y2 y3 y4 y5 y6 y7 y8, LeO (sleuthlaw45_points.l0 k y0 y1 y2 y3 y4 y5 y6 y7 y8) (sleuthlaw45_points.l0 (k + 1) y0 y1 y2 y3 y4 y5 y6 y7 y8))
 | 0 => fun _ _ _ _ _ _ _ _ _ r h => by simp [sleuthlaw45_points.l0] at h
 | k + 1 => by
  have ih0 := sleuthlaw45_points.mono_l k
  ·intro y0 y1 y2 y3 y4 y5 y6 y7 y8
   unfold sleuthlaw45_points.l0
   repeat' first
   | (with_reducible exact ih0 _ _ _ _ _ _ _ _ _)
   | (with_reducible exact LeO.refl _)
   | (with_reducible exact LeO.none _)
   | (with_reducible refine LeO.ite ?_ ?_)
   | (with_reducible refine LeO.bind ?_ (fun _ => ?_))
   | exact ih0 _ _ _ _ _ _ _ _ _
   | exact LeO.none _
   | refine LeO.ite ?_ ?_
   | refine LeO.bind ?_ (fun _ => ?_)
theorem sleuthlaw45_points.mono : ∀ a0 a1 k, LeO (sleuthlaw45_points.f k a0 a1) (sleuthlaw45_points.f (k + 1) a0 a1) := by
 intro a0 a1 k
 have ih0 := sleuthlaw45_points.mono_l k
 unfold sleuthlaw45_points.f
 repeat' first
   | (with_reducible exact ih0 _ _ _ _ _ _ _ _ _)
   | (with_reducible exact LeO.refl _)
   | (with_reducible exact LeO.none _)
   | (with_reducible refine LeO.ite ?_ ?_)
   | (with_reducible refine LeO.bind ?_ (fun _ => ?_))
   | exact ih0 _ _ _ _ _ _ _ _ _
   | exact LeO.none _
   | refine LeO.ite ?_ ?_
   | refine LeO.bind ?_ (fun _ => ?_)
def sleuthlaw45_points.T5 : Bool × List (List Nat × List Nat) := (true, [([], []), ([0], [0]), ([], []), ([], []), ([2, 3], [2, 3]), ([4], [4]), ([5], [5]), ([6], [6]), ([1, 7], [1, 7]), ([0, 1, 2, 3, 4, 5, 6, 7, 8], []), ([9, 8, 8, 0, 1, 2, 3, 4, 5, 6, 7, 8], [8, 9])])
def sleuthlaw45_points.B5 : List Nat := [0, 1, 0, 0, 12, 28, 60, 124, 255, 511, 1023]
theorem sleuthlaw45_points.tab5 : rtab .any (opsOf Try.f14 5) = sleuthlaw45_points.T5 := by kernel_rfl
theorem sleuthlaw45_points.bits5 : waitsOk sleuthlaw45_points.T5.2 sleuthlaw45_points.B5 = true := by kernel_rfl
set_option maxHeartbeats 8000000 in
set_option maxRecDepth 100000 in
theorem sleuthlaw45_points.calls (k : Nat) (a0 : Int) (A1 : Option Addr) (c1 : Nat) (l1 : List Int) (r1 : ByteArray) (r2 : ByteArray) (r3 : Int) (r4 : Int) (r5 : Int) (r6 : Int) (r7 : List Int) (w : World) (hr1 : Kd.C (Kd.int .u8) w A1 l1.length l1) (hc1 : l1.length ≤ c1) (h : sleuthlaw45_points.f k a0 l1 = some (r1, r2, r3, r4, r5, r6, r7)) :
  Calls Try.prog 14 #[.int .u8 a0, .slice A1 l1.length c1] w fun e w' => ∃ v6_ : Value, e = .returned (.agg #[.string r1, .string r2, .int .i64 r3, .int .i64 r4, .int .i64 r5, .int .i64 r6, v6_]) ∧ Kd.R (Kd.int .i64) 3 w' w.heap.size (fun _ => True) v6_ r7 ∧ Below w.heap.size w w' := by
 have hu28 := Try.underlying28
 have HR1 := Aside0.mk hr1
 have HC1 := Aside0.mk hc1
 clear hr1 hc1
 have HB := Aside0.mk (Below.refl w.heap.size w)
 have H : (sleuthlaw45_points.l0 k l1 0 (⟨#[97, 112, 105]⟩ : ByteArray) (⟨#[]⟩ : ByteArray) 1 0 0 (wrap64 (a0)) ([] : List Int)) = some (r1, r2, r3, r4, r5, r6, r7) := h
 clear h
 have H' := Aside0.mk H
 clear H
 go_enter Try.func14, Try.ntmps14
 go_wp2_with (first | ((with_reducible refine gate_dst (N := 4) rfl ?_); refine box_event ?hg (N := 4) ?hd (cs := #[.string (⟨#[]⟩ : ByteArray), .string (⟨#[]⟩ : ByteArray), .int .i64 0, .int .i64 0, .int .i64 0, .int .i64 0, .slice none 0 0]) (t := 28) ?hr ?_; (case hd => rfl); (case hg => rfl); (case hr => first | (go_simp; done) | (go_simp; rfl)); intro gb101 hg w3 hbox hb; have n0_ := Aside0.mk (below_step qgbase_8 hb); have n1_ := Aside0.mk (hbox); have n2_ := Aside0.mk ((by rw [hg]; exact (below_size qgbase_8) : w.heap.size ≤ gb101)); have n3_ := Aside0.mk ((by rw [hg]; exact (below_size qgbase_8) : w.heap.size ≤ gb101)); clear HB; have HB := n0_; have BK101 := n1_; have GW101 := n2_; have GE101 := n3_; clear n0_ n1_ n2_ n3_; clear hb hbox hg) | ((with_reducible refine gate_dst (N := 5) rfl ?_); refine box_event ?hg (N := 5) ?hd (cs := #[.string (⟨#[]⟩ : ByteArray), .string (⟨#[]⟩ : ByteArray), .int .i64 0, .int .i64 0, .int .i64 0, .int .i64 0, .slice none 0 0]) (t := 28) ?hr ?_; (case hd => rfl); (case hg => rfl); (case hr => first | (go_simp; done) | (go_simp; rfl)); intro gb102 hg w4 hbox hb; have n0_ := Aside0.mk (blk_below (g := gb101) (o := .cells #[.string (⟨#[]⟩ : ByteArray), .string (⟨#[]⟩ : ByteArray), .int .i64 0, .int .i64 0, .int .i64 0, .int .i64 0, .slice none 0 0] 28 (0, 0)) qgbase_6 hb); have n1_ := Aside0.mk (below_step qgbase_7 hb); have n2_ := Aside0.mk (hbox); have n3_ := Aside0.mk ((by rw [hg]; exact (below_size qgbase_7) : w.heap.size ≤ gb102)); have n4_ := Aside0.mk ((by rw [hg]; exact (below_size qgbase_7) : w.heap.size ≤ gb102)); have n5_ := Aside0.mk ((by rw [hg]; exact Nat.ne_of_lt (blk_lt (g := gb101) (o := .cells #[.string (⟨#[]⟩ : ByteArray), .string (⟨#[]⟩ : ByteArray), .int .i64 0, .int .i64 0, .int .i64 0, .int .i64 0, .slice none 0 0] 28 (0, 0)) qgbase_6) : gb101 ≠ gb102)); have n6_ := Aside0.mk ((by rw [hg]; exact Nat.ne_of_gt (blk_lt (g := gb101) (o := .cells #[.string (⟨#[]⟩ : ByteArray), .string (⟨#[]⟩ : ByteArray), .int .i64 0, .int .i64 0, .int .i64 0, .int .i64 0, .slice none 0 0] 28 (0, 0)) qgbase_6) : gb102 ≠ gb101)); clear BK101; clear HB; have BK101 := n0_; have HB := n1_; have BK102 := n2_; have GW102 := n3_; have GE102 := n4_; have NB101_102 := n5_; have NB102_101 := n6_; clear n0_ n1_ n2_ n3_ n4_ n5_ n6_; clear hb hbox hg; have hnb5 := NB102_101.out; have hnc5 := NB101_102.out; have hcz6_0 : w4.cell? ⟨gb102, 0, none⟩ = some (.string (⟨#[]⟩ : ByteArray)) := (blk_cell BK102.out 0).trans rfl; have hcz6_1 : w4.cell? ⟨gb102, 1, none⟩ = some (.string (⟨#[]⟩ : ByteArray)) := (blk_cell BK102.out 1).trans rfl; have hcz6_2 : w4.cell? ⟨gb102, 2, none⟩ = some (.int .i64 0) := (blk_cell BK102.out 2).trans rfl; have hcz6_3 : w4.cell? ⟨gb102, 3, none⟩ = some (.int .i64 0) := (blk_cell BK102.out 3).trans rfl; have hcz6_4 : w4.cell? ⟨gb102, 4, none⟩ = some (.int .i64 0) := (blk_cell BK102.out 4).trans rfl; have hcz6_5 : w4.cell? ⟨gb102, 5, none⟩ = some (.int .i64 0) := (blk_cell BK102.out 5).trans rfl; have hcz6_6 : w4.cell? ⟨gb102, 6, none⟩ = some (.slice none 0 0) := (blk_cell BK102.out 6).trans rfl; have hfz6_0 := blk_frozen BK102.out 0; have hfz6_1 := blk_frozen BK102.out 1; have hfz6_2 := blk_frozen BK102.out 2; have hfz6_3 := blk_frozen BK102.out 3; have hfz6_4 := blk_frozen BK102.out 4; have hfz6_5 := blk_frozen BK102.out 5; have hfz6_6 := blk_frozen BK102.out 6))
 go_loopg [6] k (fun kq v6 w' => ∃ (x6_1 : Int) (x103006_1 : List Int) (u103006 : Value), v6 = .int .i64 x6_1 ∧ Aside0 (sleuthlaw45_points.l0 kq l1 x6_1 (⟨#[97, 112, 105]⟩ : ByteArray) (⟨#[]⟩ : ByteArray) 1 0 0 (wrap64 (a0)) x103006_1 = some (r1, r2, r3, r4, r5, r6, r7)) ∧ Aside0 (kq ≤ k) ∧ Aside0 (Kd.R (Kd.int .i64) 3 w' w.heap.size (fun _ => True) u103006 x103006_1) ∧ Aside0 (w'.heap[gb101]? = some (.cells #[.string (⟨#[]⟩ : ByteArray), .string (⟨#[]⟩ : ByteArray), .int .i64 0, .int .i64 0, .int .i64 0, .int .i64 0, (.slice none 0 0)] 28 (0, 0))) ∧ Aside0 (w'.heap[gb102]? = some (.cells #[.string (⟨#[97, 112, 105]⟩ : ByteArray), .string (⟨#[]⟩ : ByteArray), .int .i64 1, .int .i64 0, .int .i64 0, .int .i64 (wrap64 (a0)), u103006] 28 (0, 0))) ∧ Aside0 (Below w.heap.size w w'))
 case atStart => exact ⟨(0), (([] : List Int)), (.slice none 0 0), qgbase_3, H', ⟨Nat.le_refl _⟩, ⟨by first | exact Kd.R_nil _ _ _ _ _ | exact Kd.N_nil _ _ _ _ _ | exact Kd.V_nil _ _ _ _ _ | exact Kd.Q_nil _ _ _ _ _ | exact Kd.S_nil _ _ _ _ _⟩, ⟨by (with_reducible repeat (first | refine blk_drewN ?_ _ | refine blk_drew ?_ | refine blk_alloc ?_ _)); refine blk_far ?_ NB101_102.out _; (with_reducible repeat (first | refine blk_drewN ?_ _ | refine blk_drew ?_ | refine blk_alloc ?_ _)); refine blk_far ?_ NB101_102.out _; (with_reducible repeat (first | refine blk_drewN ?_ _ | refine blk_drew ?_ | refine blk_alloc ?_ _)); refine blk_far ?_ NB101_102.out _; (with_reducible repeat (first | refine blk_drewN ?_ _ | refine blk_drew ?_ | refine blk_alloc ?_ _)); refine blk_far ?_ NB101_102.out _; (with_reducible repeat (first | refine blk_drewN ?_ _ | refine blk_drew ?_ | refine blk_alloc ?_ _)); refine blk_far ?_ NB101_102.out _; (with_reducible repeat (first | refine blk_drewN ?_ _ | refine blk_drew ?_ | refine blk_alloc ?_ _)); refine blk_far ?_ NB101_102.out _; (with_reducible repeat (first | refine blk_drewN ?_ _ | refine blk_drew ?_ | refine blk_alloc ?_ _)); refine blk_far ?_ NB101_102.out _; (with_reducible repeat (first | refine blk_drewN ?_ _ | refine blk_drew ?_ | refine blk_alloc ?_ _)); exact BK101.out⟩, ⟨by (with_reducible repeat (first | refine blk_drewN ?_ _ | refine blk_drew ?_ | refine blk_alloc ?_ _)); refine blk_put (cs := #[.string (⟨#[97, 112, 105]⟩ : ByteArray), .string (⟨#[]⟩ : ByteArray), .int .i64 1, .int .i64 0, .int .i64 0, .int .i64 (wrap64 (a0)), .slice none 0 0]) ?_ 6 _ rfl; (with_reducible repeat (first | refine blk_drewN ?_ _ | refine blk_drew ?_ | refine blk_alloc ?_ _)); refine blk_put (cs := #[.string (⟨#[97, 112, 105]⟩ : ByteArray), .string (⟨#[]⟩ : ByteArray), .int .i64 1, .int .i64 0, .int .i64 0, .int .i64 0, .slice none 0 0]) ?_ 5 _ rfl; (with_reducible repeat (first | refine blk_drewN ?_ _ | refine blk_drew ?_ | refine blk_alloc ?_ _)); refine blk_put (cs := #[.string (⟨#[97, 112, 105]⟩ : ByteArray), .string (⟨#[]⟩ : ByteArray), .int .i64 1, .int .i64 0, .int .i64 0, .int .i64 0, .slice none 0 0]) ?_ 4 _ rfl; (with_reducible repeat (first | refine blk_drewN ?_ _ | refine blk_drew ?_ | refine blk_alloc ?_ _)); refine blk_put (cs := #[.string (⟨#[97, 112, 105]⟩ : ByteArray), .string (⟨#[]⟩ : ByteArray), .int .i64 1, .int .i64 0, .int .i64 0, .int .i64 0, .slice none 0 0]) ?_ 3 _ rfl; (with_reducible repeat (first | refine blk_drewN ?_ _ | refine blk_drew ?_ | refine blk_alloc ?_ _)); refine blk_put (cs := #[.string (⟨#[97, 112, 105]⟩ : ByteArray), .string (⟨#[]⟩ : ByteArray), .int .i64 0, .int .i64 0, .int .i64 0, .int .i64 0, .slice none 0 0]) ?_ 2 _ rfl; (with_reducible repeat (first | refine blk_drewN ?_ _ | refine blk_drew ?_ | refine blk_alloc ?_ _)); refine blk_put (cs := #[.string (⟨#[97, 112, 105]⟩ : ByteArray), .string (⟨#[]⟩ : ByteArray), .int .i64 0, .int .i64 0, .int .i64 0, .int .i64 0, .slice none 0 0]) ?_ 1 _ rfl; (with_reducible repeat (first | refine blk_drewN ?_ _ | refine blk_drew ?_ | refine blk_alloc ?_ _)); refine blk_put (cs := #[.string (⟨#[]⟩ : ByteArray), .string (⟨#[]⟩ : ByteArray), .int .i64 0, .int .i64 0, .int .i64 0, .int .i64 0, .slice none 0 0]) ?_ 0 _ rfl; (with_reducible repeat (first | refine blk_drewN ?_ _ | refine blk_drew ?_ | refine blk_alloc ?_ _)); exact BK102.out⟩, ⟨qgbase_4⟩⟩
 clear H'
 try clear c1
 try clear p2
 try clear c5
 try clear p6
 try clear hcz6_0
 try clear hcz6_1
 try clear hcz6_2
 try clear hcz6_3
 try clear hcz6_4
 try clear hcz6_5
 try clear hcz6_6
 try clear hfz6_0
 try clear hfz6_1
 try clear hfz6_2
 try clear hfz6_3
 try clear hfz6_4
 try clear hfz6_5
 try clear hfz6_6
 obtain ⟨x6_1, x103006_1, u103006, rfl, HA, HK1, HO_103006, BK101, BK102, HB⟩ := hrel
 cases gk with
 | zero => exact absurd HA.out (by simp [sleuthlaw45_points.l0])
 | succ k1 =>
  have H := HA.out
  clear HA
  simp only [sleuthlaw45_points.l0] at H
  by_cases c7 : x6_1 < (l1.length : Int)
  rotate_left
  ·rw [if_neg c7] at H
   have c7b0 : decide (x6_1 < (l1.length : Int)) = false := decide_eq_false c7
   clear c7
   simp only [Option.some.injEq, Prod.mk.injEq] at H
   obtain ⟨rfl, rfl, rfl, rfl, rfl, rfl, rfl⟩ := H
   have hnb19 := NB102_101.out
   have hnc19 := NB101_102.out
   have hcz20_0 : wr.cell? ⟨gb102, 0, none⟩ = some (.string (⟨#[97, 112, 105]⟩ : ByteArray)) := (blk_cell BK102.out 0).trans rfl
   have hcz20_1 : wr.cell? ⟨gb102, 1, none⟩ = some (.string (⟨#[]⟩ : ByteArray)) := (blk_cell BK102.out 1).trans rfl
   have hcz20_2 : wr.cell? ⟨gb102, 2, none⟩ = some (.int .i64 1) := (blk_cell BK102.out 2).trans rfl
   have hcz20_3 : wr.cell? ⟨gb102, 3, none⟩ = some (.int .i64 0) := (blk_cell BK102.out 3).trans rfl
   have hcz20_4 : wr.cell? ⟨gb102, 4, none⟩ = some (.int .i64 0) := (blk_cell BK102.out 4).trans rfl
   have hcz20_5 : wr.cell? ⟨gb102, 5, none⟩ = some (.int .i64 (wrap64 (a0))) := (blk_cell BK102.out 5).trans rfl
   have hcz20_6 : wr.cell? ⟨gb102, 6, none⟩ = some (u103006) := (blk_cell BK102.out 6).trans rfl
   have hfz20_0 := blk_frozen BK102.out 0
   have hfz20_1 := blk_frozen BK102.out 1
   have hfz20_2 := blk_frozen BK102.out 2
   have hfz20_3 := blk_frozen BK102.out 3
   have hfz20_4 := blk_frozen BK102.out 4
   have hfz20_5 := blk_frozen BK102.out 5
   have hfz20_6 := blk_frozen BK102.out 6
   have hcz21_0 : wr.cell? ⟨gb101, 0, none⟩ = some (.string (⟨#[]⟩ : ByteArray)) := (blk_cell BK101.out 0).trans rfl
   have hcz21_1 : wr.cell? ⟨gb101, 1, none⟩ = some (.string (⟨#[]⟩ : ByteArray)) := (blk_cell BK101.out 1).trans rfl
   have hcz21_2 : wr.cell? ⟨gb101, 2, none⟩ = some (.int .i64 0) := (blk_cell BK101.out 2).trans rfl
   have hcz21_3 : wr.cell? ⟨gb101, 3, none⟩ = some (.int .i64 0) := (blk_cell BK101.out 3).trans rfl
   have hcz21_4 : wr.cell? ⟨gb101, 4, none⟩ = some (.int .i64 0) := (blk_cell BK101.out 4).trans rfl
   have hcz21_5 : wr.cell? ⟨gb101, 5, none⟩ = some (.int .i64 0) := (blk_cell BK101.out 5).trans rfl
   have hcz21_6 : wr.cell? ⟨gb101, 6, none⟩ = some (.slice none 0 0) := (blk_cell BK101.out 6).trans rfl
   have hfz21_0 := blk_frozen BK101.out 0
   have hfz21_1 := blk_frozen BK101.out 1
   have hfz21_2 := blk_frozen BK101.out 2
   have hfz21_3 := blk_frozen BK101.out 3
   have hfz21_4 := blk_frozen BK101.out 4
   have hfz21_5 := blk_frozen BK101.out 5
   have hfz21_6 := blk_frozen BK101.out 6
   obtain ⟨Ao22, co22, eo22⟩ := Kd.R_slice HO_103006.out
   subst eo22
   go_wp2
   refine bodyPost_ret (results_cell_row rfl _ _ gb101 28 #[.string (⟨#[97, 112, 105]⟩ : ByteArray), .string (⟨#[]⟩ : ByteArray), .int .i64 1, .int .i64 0, .int .i64 0, .int .i64 (wrap64 (a0)), .slice Ao22 x103006_1.length co22] (0, 0) _ rfl qgbase_0 Try.underlying28 rfl (by kernel_rfl)) rfl ?_
   exact ⟨_, by first | rfl | (simp [errW_none, errW_some] <;> rfl) | (simp [*, errW_none, errW_some] <;> rfl), by (with_reducible repeat (first | apply Kd.R_alloc | apply Kd.R_drewN | apply Kd.R_drew)); exact Kd.R_mono (Kd.R_far (p := ⟨gb101, 6, none⟩) (Kd.R_far (p := ⟨gb101, 5, none⟩) (Kd.R_far (p := ⟨gb101, 4, none⟩) (Kd.R_far (p := ⟨gb101, 3, none⟩) (Kd.R_far (p := ⟨gb101, 2, none⟩) (Kd.R_far (p := ⟨gb101, 1, none⟩) (Kd.R_far (p := ⟨gb101, 0, none⟩) (Kd.R_types HO_103006.out BK101.out (by decide)) (fun _ hk => hk.2) (.string (⟨#[97, 112, 105]⟩ : ByteArray))) (fun _ hk => hk.2) (.string (⟨#[]⟩ : ByteArray))) (fun _ hk => hk.2) (.int .i64 1)) (fun _ hk => hk.2) (.int .i64 0)) (fun _ hk => hk.2) (.int .i64 0)) (fun _ hk => hk.2) (.int .i64 (wrap64 (a0)))) (fun _ hk => hk.2) (.slice Ao22 x103006_1.length co22)) (fun _ hk => trivial), qgbase_4⟩
  rw [if_pos c7] at H
  have c7b0 : decide (x6_1 < (l1.length : Int)) = true := decide_eq_true c7
  clear c7
  by_cases c8 : x6_1 < 14
  rotate_left
  ·rw [if_neg c8] at H
   have c8b0 : decide (x6_1 < 14) = false := decide_eq_false c8
   clear c8
   simp only [Option.some.injEq, Prod.mk.injEq] at H
   obtain ⟨rfl, rfl, rfl, rfl, rfl, rfl, rfl⟩ := H
   have hnb15 := NB102_101.out
   have hnc15 := NB101_102.out
   have hcz16_0 : wr.cell? ⟨gb102, 0, none⟩ = some (.string (⟨#[97, 112, 105]⟩ : ByteArray)) := (blk_cell BK102.out 0).trans rfl
   have hcz16_1 : wr.cell? ⟨gb102, 1, none⟩ = some (.string (⟨#[]⟩ : ByteArray)) := (blk_cell BK102.out 1).trans rfl
   have hcz16_2 : wr.cell? ⟨gb102, 2, none⟩ = some (.int .i64 1) := (blk_cell BK102.out 2).trans rfl
   have hcz16_3 : wr.cell? ⟨gb102, 3, none⟩ = some (.int .i64 0) := (blk_cell BK102.out 3).trans rfl
   have hcz16_4 : wr.cell? ⟨gb102, 4, none⟩ = some (.int .i64 0) := (blk_cell BK102.out 4).trans rfl
   have hcz16_5 : wr.cell? ⟨gb102, 5, none⟩ = some (.int .i64 (wrap64 (a0))) := (blk_cell BK102.out 5).trans rfl
   have hcz16_6 : wr.cell? ⟨gb102, 6, none⟩ = some (u103006) := (blk_cell BK102.out 6).trans rfl
   have hfz16_0 := blk_frozen BK102.out 0
   have hfz16_1 := blk_frozen BK102.out 1
   have hfz16_2 := blk_frozen BK102.out 2
   have hfz16_3 := blk_frozen BK102.out 3
   have hfz16_4 := blk_frozen BK102.out 4
   have hfz16_5 := blk_frozen BK102.out 5
   have hfz16_6 := blk_frozen BK102.out 6
   have hcz17_0 : wr.cell? ⟨gb101, 0, none⟩ = some (.string (⟨#[]⟩ : ByteArray)) := (blk_cell BK101.out 0).trans rfl
   have hcz17_1 : wr.cell? ⟨gb101, 1, none⟩ = some (.string (⟨#[]⟩ : ByteArray)) := (blk_cell BK101.out 1).trans rfl
   have hcz17_2 : wr.cell? ⟨gb101, 2, none⟩ = some (.int .i64 0) := (blk_cell BK101.out 2).trans rfl
   have hcz17_3 : wr.cell? ⟨gb101, 3, none⟩ = some (.int .i64 0) := (blk_cell BK101.out 3).trans rfl
   have hcz17_4 : wr.cell? ⟨gb101, 4, none⟩ = some (.int .i64 0) := (blk_cell BK101.out 4).trans rfl
   have hcz17_5 : wr.cell? ⟨gb101, 5, none⟩ = some (.int .i64 0) := (blk_cell BK101.out 5).trans rfl
   have hcz17_6 : wr.cell? ⟨gb101, 6, none⟩ = some (.slice none 0 0) := (blk_cell BK101.out 6).trans rfl
   have hfz17_0 := blk_frozen BK101.out 0
   have hfz17_1 := blk_frozen BK101.out 1
   have hfz17_2 := blk_frozen BK101.out 2
   have hfz17_3 := blk_frozen BK101.out 3
   have hfz17_4 := blk_frozen BK101.out 4
   have hfz17_5 := blk_frozen BK101.out 5
   have hfz17_6 := blk_frozen BK101.out 6
   obtain ⟨Ao18, co18, eo18⟩ := Kd.R_slice HO_103006.out
   subst eo18
   go_wp2
   refine bodyPost_ret (results_cell_row rfl _ _ gb101 28 #[.string (⟨#[97, 112, 105]⟩ : ByteArray), .string (⟨#[]⟩ : ByteArray), .int .i64 1, .int .i64 0, .int .i64 0, .int .i64 (wrap64 (a0)), .slice Ao18 x103006_1.length co18] (0, 0) _ rfl qgbase_0 Try.underlying28 rfl (by kernel_rfl)) rfl ?_
   exact ⟨_, by first | rfl | (simp [errW_none, errW_some] <;> rfl) | (simp [*, errW_none, errW_some] <;> rfl), by (with_reducible repeat (first | apply Kd.R_alloc | apply Kd.R_drewN | apply Kd.R_drew)); exact Kd.R_mono (Kd.R_far (p := ⟨gb101, 6, none⟩) (Kd.R_far (p := ⟨gb101, 5, none⟩) (Kd.R_far (p := ⟨gb101, 4, none⟩) (Kd.R_far (p := ⟨gb101, 3, none⟩) (Kd.R_far (p := ⟨gb101, 2, none⟩) (Kd.R_far (p := ⟨gb101, 1, none⟩) (Kd.R_far (p := ⟨gb101, 0, none⟩) (Kd.R_types HO_103006.out BK101.out (by decide)) (fun _ hk => hk.2) (.string (⟨#[97, 112, 105]⟩ : ByteArray))) (fun _ hk => hk.2) (.string (⟨#[]⟩ : ByteArray))) (fun _ hk => hk.2) (.int .i64 1)) (fun _ hk => hk.2) (.int .i64 0)) (fun _ hk => hk.2) (.int .i64 0)) (fun _ hk => hk.2) (.int .i64 (wrap64 (a0)))) (fun _ hk => hk.2) (.slice Ao18 x103006_1.length co18)) (fun _ hk => trivial), qgbase_4⟩
  rw [if_pos c8] at H
  have c8b0 : decide (x6_1 < 14) = true := decide_eq_true c8
  clear c8
  by_cases c9 : 0 ≤ x6_1
  rotate_left
  ·rw [if_neg c9] at H
   exact absurd H (by simp)
  rw [if_pos c9] at H
  have c9b0 : decide (0 ≤ x6_1) = true := decide_eq_true c9
  clear c9
  by_cases c10 : x103006_1.length < 17592186044416
  rotate_left
  ·rw [if_neg c10] at H
   exact absurd H (by simp)
  rw [if_pos c10] at H
  have LMc10 := Aside0.mk c10
  clear c10
  obtain ⟨y104, hy104⟩ : ∃ y_ : List Int, y_ = (x103006_1 ++ [wrap64 (rd l1 x6_1)]) := ⟨_, rfl⟩
  replace H : (sleuthlaw45_points.l0 k1 l1 (wrap64 (x6_1 + 1)) (⟨#[97, 112, 105]⟩ : ByteArray) (⟨#[]⟩ : ByteArray) 1 0 0 (wrap64 (a0)) y104) = some (r1, r2, r3, r4, r5, r6, r7) := by first | (rw [hy104]; with_reducible exact H) | (have H2_ := (Option.bind_some _ _).symm.trans H; rw [hy104]; with_reducible exact H2_) | (have H2_ := (Option.bind_some _ _).symm.trans H; with_reducible exact H2_) | with_reducible exact H | (rw [hy104]; exact H) | exact H
  have Ny104 := Aside0.mk hy104
  clear hy104
  have H' := Aside0.mk H
  clear H
  try go_wp2
  have n0_ := Aside0.mk (Kd.R_drew HO_103006.out)
  have n1_ := Aside0.mk (blk_drew BK101.out)
  have n2_ := Aside0.mk (blk_drew BK102.out)
  have n3_ := Aside0.mk (below_drew1 HB.out)
  clear HO_103006
  clear BK101
  clear BK102
  clear HB
  have HO_103006 := n0_
  have BK101 := n1_
  have BK102 := n2_
  have HB := n3_
  clear n0_ n1_ n2_ n3_
  have p103 : 0 ≤ (x6_1 : Int) := of_decide_eq_true qgbase_5
  have q103 : x6_1 < (l1.length : Int) := of_decide_eq_true qgbase_5
  obtain ⟨ad103, e103, hx103_0⟩ := Kd.at_int HR1.out x6_1 p103 q103
  have hw103_0 := hx103_0
  cases e103
  replace hx103_0 := (HB.out.cell (World.block_lt_of_cell? w _ hx103_0)).trans hx103_0
  replace p103 := eq_true p103
  replace q103 := eq_true q103
  refine start_ (n := 11) (S := fun w' => w'.cell? ⟨gb102, 0, none⟩ = some (.string (⟨#[97, 112, 105]⟩ : ByteArray)) ∧ w'.cell? ⟨gb102, 1, none⟩ = some (.string (⟨#[]⟩ : ByteArray)) ∧ w'.cell? ⟨gb102, 2, none⟩ = some (.int .i64 1) ∧ w'.cell? ⟨gb102, 3, none⟩ = some (.int .i64 0) ∧ w'.cell? ⟨gb102, 4, none⟩ = some (.int .i64 0) ∧ w'.cell? ⟨gb102, 5, none⟩ = some (.int .i64 (wrap64 (a0))) ∧ w'.cell? ⟨gb102, 6, none⟩ = some (u103006) ∧ w'.cell? (ad103.add (x6_1).toNat) = some (.int .u8 (rd l1 x6_1))) (ds := [10]) A3947_0 (by kernel_rfl) rfl rfl ⟨(blk_cell BK102.out 0).trans rfl, (blk_cell BK102.out 1).trans rfl, (blk_cell BK102.out 2).trans rfl, (blk_cell BK102.out 3).trans rfl, (blk_cell BK102.out 4).trans rfl, (blk_cell BK102.out 5).trans rfl, (blk_cell BK102.out 6).trans rfl, ((HB.out.cell (World.block_lt_of_cell? w _ hw103_0)).trans hw103_0)⟩ (fun hHeld => ?_); refine with_tabW sleuthlaw45_points.tab5 sleuthlaw45_points.bits5 (fun HT_ HW_ => ?_)
  generalize wr.drew = w11 at HO_103006 BK101 BK102 HB hx103_0 hHeld ⊢
  refine pA_ 0 20 A3947_1 HT_ ?_
  refine pA_ 2 22 A3947_2 HT_ ?_
  refine pA_ 3 23 A3947_3 HT_ ?_
  refine pA_ 4 24 A3947_4 HT_ ?_
  refine take_ (i := 1) (N := some 21) (v := ?_) (a' := ?_) A3947_5 rfl rfl (take_ofW HT_.out HW_.out (by kernel_rfl)) (fun _ _ _ h => h) (Or.inl ⟨by rfl, ?_⟩) hHeld ?_ ?_
  rotate_left
  ·rintro w' ⟨s0, s1, s2, s3, s4, s5, s6, s7⟩
   go_simp
   with_reducible rfl
  rotate_left
  ·simp only [Act.put, List.setIfInBounds_toArray, List.set_cons_zero, List.set_cons_succ, i64_w, i32_w]
   rfl
  refine take_ (i := 5) (N := some 25) (v := ?_) (a' := ?_) A3947_6 rfl rfl (take_ofW HT_.out HW_.out (by kernel_rfl)) (fun _ _ _ h => h) (Or.inl ⟨by rfl, ?_⟩) hHeld ?_ ?_
  rotate_left
  ·rintro w' ⟨s0, s1, s2, s3, s4, s5, s6, s7⟩
   go_simp
   with_reducible rfl
  rotate_left
  ·simp only [Act.put, List.setIfInBounds_toArray, List.set_cons_zero, List.set_cons_succ, i64_w, i32_w]
   rfl
  refine pA_ 6 26 A3947_7 HT_ ?_
  refine one_ (i := 7) (N := some 27) A3947_8 rfl rfl (one_of HT_.out (by kernel_rfl)) (by decide) (fun K hK => ?_)
  refine value_ (w1 := ?_) (v := ?_) (by rfl) rfl ?_ ?_
  rotate_left 2
  ·go_simp
   constructor
   ·rfl
   ·rfl
  refine hK.out _ _ ⟨(blk_cell (blk_alloc BK102.out _) 0).trans rfl, (blk_cell (blk_alloc BK102.out _) 1).trans rfl, (blk_cell (blk_alloc BK102.out _) 2).trans rfl, (blk_cell (blk_alloc BK102.out _) 3).trans rfl, (blk_cell (blk_alloc BK102.out _) 4).trans rfl, (blk_cell (blk_alloc BK102.out _) 5).trans rfl, (blk_cell (blk_alloc BK102.out _) 6).trans rfl, (World.cell?_alloc_lt _ _ _ (World.block_lt_of_cell? _ _ (((HB.out.cell (World.block_lt_of_cell? w _ hw103_0)).trans hw103_0)))).trans (((HB.out.cell (World.block_lt_of_cell? w _ hw103_0)).trans hw103_0))⟩ (fun hHeld => ?_)
  clear hK K
  refine norm_ (a' := ?_) ?_ ?_
  rotate_left
  ·show Act.put _ (some 27) _ = _
   simp only [Act.put, List.setIfInBounds_toArray, List.set_cons_zero, List.set_cons_succ, i64_w, i32_w]
   rfl
  refine one_ (i := 8) (N := some 28) A3947_9 rfl rfl (one_of HT_.out (by kernel_rfl)) (by decide) (fun K hK => ?_)
  refine Kd.R_append_step (Kd.int .i64) (w0 := w) w.heap.size (by rfl) (.tmp 21) (.tmp 27) 26 3 (.int .i64 0) 8 rfl Try.underlying26 info3 rfl (by decide) (by omega) u103006 x103006_1 (wrap64 (rd l1 x6_1)) [.int .i64 (wrap64 (rd l1 x6_1))] (fun _ => True) (fun _ => False) rfl rfl ?aP (fun _ hk => hk.elim) ?aF ?aO ?aB ?aS ?aL ?_
  (case aP => exact rfl)
  (case aB => exact qgbase_4)
  (case aF => exact (fun _ _ => trivial))
  (case aO => exact (by (with_reducible repeat (first | apply Kd.R_alloc | apply Kd.R_drewN | apply Kd.R_drew)); exact HO_103006.out))
  (case aS => exact (below_size qgbase_4))
  (case aL => have := LMc10.out; omega)
  intro v105 w12 ho hb hg hat
  rw [← Ny104.out] at ho
  have n0_ := Aside0.mk (blk_grown (g := gb101) (o := .cells #[.string (⟨#[]⟩ : ByteArray), .string (⟨#[]⟩ : ByteArray), .int .i64 0, .int .i64 0, .int .i64 0, .int .i64 0, .slice none 0 0] 28 (0, 0)) qgbase_6 hg (Kd.R_ne HO_103006.out BK101.out (by decide)))
  have n1_ := Aside0.mk (blk_grown (g := gb102) (o := .cells #[.string (⟨#[97, 112, 105]⟩ : ByteArray), .string (⟨#[]⟩ : ByteArray), .int .i64 1, .int .i64 0, .int .i64 0, .int .i64 (wrap64 (a0)), u103006] 28 (0, 0)) (by (with_reducible repeat (first | refine blk_drewN ?_ _ | refine blk_drew ?_ | refine blk_alloc ?_ _)); exact BK102.out) hg (Kd.R_ne HO_103006.out BK102.out (by decide)))
  have n2_ := Aside0.mk (hb)
  have n3_ := Aside0.mk (ho)
  clear BK101
  clear BK102
  clear HB
  clear HO_103006
  have BK101 := n0_
  have BK102 := n1_
  have HB := n2_
  have HO106 := n3_
  clear n0_ n1_ n2_ n3_
  clear ho hb hg hat
  obtain ⟨Ao13, co13, eo13⟩ := Kd.R_slice HO106.out
  (first | subst eo13 | (injection eo13 with f1_ f2_ f3_; have f4_ := f1_.symm; have f5_ := f3_.symm; clear f1_ f2_ f3_; subst f4_; subst f5_))
  refine hK.out _ _ ⟨(blk_cell BK102.out 0).trans rfl, (blk_cell BK102.out 1).trans rfl, (blk_cell BK102.out 2).trans rfl, (blk_cell BK102.out 3).trans rfl, (blk_cell BK102.out 4).trans rfl, (blk_cell BK102.out 5).trans rfl, (blk_cell BK102.out 6).trans rfl, ((HB.out.cell (World.block_lt_of_cell? w _ hw103_0)).trans hw103_0)⟩ (fun hHeld => ?_)
  clear hK K
  refine norm_ (a' := ?_) ?_ ?_
  rotate_left
  ·show Act.put _ (some 28) _ = _
   simp only [Act.put, List.setIfInBounds_toArray, List.set_cons_zero, List.set_cons_succ, i64_w, i32_w]
   rfl
  refine pA_ 9 29 A3947_10 HT_ ?_
  refine last_ (i := 10) (N := none) A3947_11 rfl rfl (one_of HT_.out (by kernel_rfl)) (by decide) (fun K hK => ?_)
  have hs14 : w12.cell? ⟨gb102, 6, none⟩ = some (u103006) := (blk_cell BK102.out 6).trans rfl
  have hfs14 := blk_frozen BK102.out 6
  have hns14_0 := NB101_102.out
  have hms14_0 := NB102_101.out
  refine skip_ (w1 := ?_) (by rfl) rfl ?_ ?_
  rotate_left
  ·go_simp
   rfl
  refine hK.out _ _ ?_
  clear hK K
  refine done_ (done_of HT_.out (by kernel_rfl)) ?_
  try go_wp2
  go_roundg k1
  case measure => have := HK1.out; omega
  case rel => exact ⟨(wrap64 (x6_1 + 1)), (y104), (.slice Ao13 y104.length co13), qgbase_3, H', ⟨by have := HK1.out; omega⟩, ⟨by (with_reducible repeat (first | apply Kd.R_alloc | apply Kd.R_drewN | apply Kd.R_drew)); exact Kd.R_mono (Kd.R_far (p := ⟨gb102, 6, none⟩) (Kd.R_types HO106.out BK102.out (by decide)) (fun _ hk => hk.2) (.slice Ao13 y104.length co13)) (fun _ hk => trivial)⟩, ⟨by (with_reducible repeat (first | refine blk_drewN ?_ _ | refine blk_drew ?_ | refine blk_alloc ?_ _)); refine blk_far ?_ NB101_102.out _; (with_reducible repeat (first | refine blk_drewN ?_ _ | refine blk_drew ?_ | refine blk_alloc ?_ _)); exact BK101.out⟩, ⟨by (with_reducible repeat (first | refine blk_drewN ?_ _ | refine blk_drew ?_ | refine blk_alloc ?_ _)); refine blk_put (cs := #[.string (⟨#[97, 112, 105]⟩ : ByteArray), .string (⟨#[]⟩ : ByteArray), .int .i64 1, .int .i64 0, .int .i64 0, .int .i64 (wrap64 (a0)), u103006]) ?_ 6 _ rfl; (with_reducible repeat (first | refine blk_drewN ?_ _ | refine blk_drew ?_ | refine blk_alloc ?_ _)); exact BK102.out⟩, ⟨qgbase_4⟩⟩

/-! ### segmentation_Check: function 19 -/
def segmentation_Check.l0 : Nat → Int → List Int → Int → Int → Option (Int)
 | 0, _, _, _, _ => none
 | k + 1, x1, x15, x16, x17 => if x17 < x16 then (if 0 ≤ x17 then (if x17 < (x15.length : Int) then (if (rd x15 x17) < (-1099511627776) then (some 2) else (if (rd x15 x17) > 1099511627776 then (some 2) else (segmentation_Check.l0 k x1 x15 x16 (wrap64 (x17 + 1))))) else (none)) else (none)) else (if x1 < 0 then (some 2) else (if x1 > 1099511627776 then (some 2) else (some 0)))
def segmentation_Check.f (k : Nat) (l0 : List Int) (a1 : Int) : Option (Int) := if (l0.length : Int) = 0 then (some 7) else (if (l0.length : Int) > 1024 then (some 6) else (segmentation_Check.l0 k a1 l0 (l0.length : Int) 0))
theorem segmentation_Check.mono_l : ∀ k, (∀ y0 y1 y2 y3, LeO (segmentation_Check.l0 k y0 y1 y2 y3) (segmentation_Check.l0 (k + 1) y0 y1 y2 y3))
 | 0 => fun _ _ _ _ r h => by simp [segmentation_Check.l0] at h
 | k + 1 => by
  have ih0 := segmentation_Check.mono_l k
  ·intro y0 y1 y2 y3
   unfold segmentation_Check.l0
   repeat' first
   | (with_reducible exact ih0 _ _ _ _)
   | (with_reducible exact LeO.refl _)
   | (with_reducible exact LeO.none _)
   | (with_reducible refine LeO.ite ?_ ?_)
   | (with_reducible refine LeO.bind ?_ (fun _ => ?_))
   | exact ih0 _ _ _ _
   | exact LeO.none _
   | refine LeO.ite ?_ ?_
   | refine LeO.bind ?_ (fun _ => ?_)
theorem segmentation_Check.mono : ∀ a0 a1 k, LeO (segmentation_Check.f k a0 a1) (segmentation_Check.f (k + 1) a0 a1) := by
 intro a0 a1 k
 have ih0 := segmentation_Check.mono_l k
 unfold segmentation_Check.f
 repeat' first
   | (with_reducible exact ih0 _ _ _ _)
   | (with_reducible exact LeO.refl _)
   | (with_reducible exact LeO.none _)
   | (with_reducible refine LeO.ite ?_ ?_)
   | (with_reducible refine LeO.bind ?_ (fun _ => ?_))
   | exact ih0 _ _ _ _
   | exact LeO.none _
   | refine LeO.ite ?_ ?_
   | refine LeO.bind ?_ (fun _ => ?_)
set_option maxHeartbeats 8000000 in
set_option maxRecDepth 100000 in
theorem segmentation_Check.calls (k : Nat) (A0 : Option Addr) (c0 : Nat) (l0 : List Int) (a1 : Int) (r : Int) (w : World) (hr0 : Kd.C (Kd.int .i64) w A0 l0.length l0) (hc0 : l0.length ≤ c0) (h : segmentation_Check.f k l0 a1 = some r) :
  Calls Try.prog 19 #[.slice A0 l0.length c0, .int .i64 a1] w fun e w' => e = .returned (.int .i64 r) ∧ Drawn0 w w' := by
 have HR0 := Aside0.mk hr0
 have HC0 := Aside0.mk hc0
 clear hr0 hc0
 have H : (if (l0.length : Int) = 0 then (some 7) else (if (l0.length : Int) > 1024 then (some 6) else (segmentation_Check.l0 k a1 l0 (l0.length : Int) 0))) = some r := h
 clear h
 by_cases c3 : (l0.length : Int) = 0
 ·rw [if_pos c3] at H
  have c3b0 : ((l0.length : Int) == 0) = true := beq_iff_eq.mpr c3
  have c3b1 : ((l0.length : Int) != 0) = false := bne_eq_false_iff_eq.mpr c3
  clear c3
  obtain rfl := Option.some.inj H
  go_enter Try.func19, Try.ntmps19
  go_wp2
  go_ret
  exact ⟨qgbase_3, qgbase_2⟩
 rw [if_neg c3] at H
 have c3b0 : ((l0.length : Int) == 0) = false := beq_eq_false_iff_ne.mpr c3
 have c3b1 : ((l0.length : Int) != 0) = true := bne_iff_ne.mpr c3
 have c3b2 : ¬ (l0 = []) := fun h_ => c3 (by rw [h_]; rfl)
 by_cases c4 : (l0.length : Int) > 1024
 ·rw [if_pos c4] at H
  have c4b0 : decide (1024 < (l0.length : Int)) = true := decide_eq_true c4
  have c4b1 : decide (1024 < l0.length) = true := decide_eq_true (by omega)
  clear c4
  obtain rfl := Option.some.inj H
  go_enter Try.func19, Try.ntmps19
  go_wp2
  go_ret
  exact ⟨qgbase_3, qgbase_2⟩
 rw [if_neg c4] at H
 have c4b0 : decide (1024 < (l0.length : Int)) = false := decide_eq_false c4
 have c4b1 : decide (1024 < l0.length) = false := decide_eq_false (by omega)
 clear c4
 have H' := Aside0.mk H
 clear H
 go_enter Try.func19, Try.ntmps19
 go_wp2
 go_loopg [17] k (fun kq v17 w' => ∃ (x17_1 : Int), v17 = .int .i64 x17_1 ∧ Aside0 (segmentation_Check.l0 kq a1 l0 (l0.length : Int) x17_1 = some r) ∧ Aside0 (kq ≤ k) ∧ Drawn0 w w')
 case atStart => exact ⟨(0), qgbase_3, H', ⟨Nat.le_refl _⟩, qgbase_2⟩
 clear H'
 try clear c1
 try clear p2
 try clear c3
 try clear c3b0
 try clear c3b1
 try clear c3b2
 try clear c4
 try clear c4b0
 try clear c4b1
 obtain ⟨x17_1, rfl, HA, HK1, ⟨m1, rfl⟩⟩ := hrel
 cases gk with
 | zero => exact absurd HA.out (by simp [segmentation_Check.l0])
 | succ k1 =>
  have H := HA.out
  clear HA
  simp only [segmentation_Check.l0] at H
  by_cases c5 : x17_1 < (l0.length : Int)
  rotate_left
  ·rw [if_neg c5] at H
   have c5b0 : decide (x17_1 < (l0.length : Int)) = false := decide_eq_false c5
   clear c5
   by_cases c10 : a1 < 0
   ·rw [if_pos c10] at H
    have c10b0 : decide (a1 < 0) = true := decide_eq_true c10
    clear c10
    obtain rfl := Option.some.inj H
    go_wp2
    go_ret
    exact ⟨qgbase_3, qgbase_2⟩
   rw [if_neg c10] at H
   have c10b0 : decide (a1 < 0) = false := decide_eq_false c10
   clear c10
   by_cases c11 : a1 > 1099511627776
   ·rw [if_pos c11] at H
    have c11b0 : decide (1099511627776 < a1) = true := decide_eq_true c11
    clear c11
    obtain rfl := Option.some.inj H
    go_wp2
    go_ret
    exact ⟨qgbase_3, qgbase_2⟩
   rw [if_neg c11] at H
   have c11b0 : decide (1099511627776 < a1) = false := decide_eq_false c11
   clear c11
   obtain rfl := Option.some.inj H
   go_wp2
   go_ret
   exact ⟨qgbase_3, qgbase_2⟩
  rw [if_pos c5] at H
  have c5b0 : decide (x17_1 < (l0.length : Int)) = true := decide_eq_true c5
  clear c5
  by_cases c6 : 0 ≤ x17_1
  rotate_left
  ·rw [if_neg c6] at H
   exact absurd H (by simp)
  rw [if_pos c6] at H
  have c6b0 : decide (0 ≤ x17_1) = true := decide_eq_true c6
  clear c6
  by_cases c7 : x17_1 < (l0.length : Int)
  rotate_left
  ·rw [if_neg c7] at H
   exact absurd H (by simp)
  rw [if_pos c7] at H
  have c7b0 : decide (x17_1 < (l0.length : Int)) = true := decide_eq_true c7
  clear c7
  by_cases c8 : (rd l0 x17_1) < (-1099511627776)
  ·rw [if_pos c8] at H
   have c8b0 : decide ((rd l0 x17_1) < (-1099511627776)) = true := decide_eq_true c8
   clear c8
   obtain rfl := Option.some.inj H
   have p107 : 0 ≤ (x17_1 : Int) := of_decide_eq_true qgbase_5
   have q107 : x17_1 < (l0.length : Int) := of_decide_eq_true qgbase_5
   obtain ⟨ad107, e107, hx107_0⟩ := Kd.at_int HR0.out x17_1 p107 q107
   cases e107
   replace p107 := eq_true p107
   replace q107 := eq_true q107
   go_wp2
   go_ret
   exact ⟨qgbase_3, qgbase_2⟩
  rw [if_neg c8] at H
  have c8b0 : decide ((rd l0 x17_1) < (-1099511627776)) = false := decide_eq_false c8
  clear c8
  by_cases c9 : (rd l0 x17_1) > 1099511627776
  ·rw [if_pos c9] at H
   have c9b0 : decide (1099511627776 < (rd l0 x17_1)) = true := decide_eq_true c9
   clear c9
   obtain rfl := Option.some.inj H
   have p107 : 0 ≤ (x17_1 : Int) := of_decide_eq_true qgbase_5
   have q107 : x17_1 < (l0.length : Int) := of_decide_eq_true qgbase_5
   obtain ⟨ad107, e107, hx107_0⟩ := Kd.at_int HR0.out x17_1 p107 q107
   cases e107
   replace p107 := eq_true p107
   replace q107 := eq_true q107
   go_wp2
   go_ret
   exact ⟨qgbase_3, qgbase_2⟩
  rw [if_neg c9] at H
  have c9b0 : decide (1099511627776 < (rd l0 x17_1)) = false := decide_eq_false c9
  clear c9
  have H' := Aside0.mk H
  clear H
  have p107 : 0 ≤ (x17_1 : Int) := of_decide_eq_true qgbase_5
  have q107 : x17_1 < (l0.length : Int) := of_decide_eq_true qgbase_5
  obtain ⟨ad107, e107, hx107_0⟩ := Kd.at_int HR0.out x17_1 p107 q107
  cases e107
  replace p107 := eq_true p107
  replace q107 := eq_true q107
  go_wp2
  go_roundg k1
  case measure => have := HK1.out; omega
  case rel => exact ⟨(wrap64 (x17_1 + 1)), qgbase_3, H', ⟨by have := HK1.out; omega⟩, qgbase_2⟩

/-! ### cmp_isNaN_int: function 73 -/
def cmp_isNaN_int.f (a0 : Int) : Option (Bool) := some (a0 != a0)
set_option maxHeartbeats 8000000 in
set_option maxRecDepth 100000 in
theorem cmp_isNaN_int.calls (a0 : Int) (r : Bool) (w : World) (h : cmp_isNaN_int.f a0 = some r) :
  Calls Try.prog 73 #[.int .i64 a0] w fun e w' => e = .returned (.bool r) ∧ Drawn0 w w' := by
 have H : (some (a0 != a0)) = some r := h
 clear h
 obtain rfl := Option.some.inj H
 go_enter Try.func73, Try.ntmps73
 go_wp2
 go_ret
 exact ⟨qgbase_3, qgbase_2⟩

/-! ### cmp_Less_int: function 87 -/
def cmp_Less_int.f (a0 : Int) (a1 : Int) : Option (Bool) := (cmp_isNaN_int.f a0).bind fun t108 => (if t108 = true then ((cmp_isNaN_int.f a1).bind fun t109 => (if t109 = true then (some (decide (a0 < a1))) else (some true))) else (some (decide (a0 < a1))))
set_option maxHeartbeats 8000000 in
set_option maxRecDepth 100000 in
theorem cmp_Less_int.calls (a0 : Int) (a1 : Int) (r : Bool) (w : World) (h : cmp_Less_int.f a0 a1 = some r) :
  Calls Try.prog 87 #[.int .i64 a0, .int .i64 a1] w fun e w' => e = .returned (.bool r) ∧ Drawn0 w w' := by
 have H : ((cmp_isNaN_int.f a0).bind fun t108 => (if t108 = true then ((cmp_isNaN_int.f a1).bind fun t109 => (if t109 = true then (some (decide (a0 < a1))) else (some true))) else (some (decide (a0 < a1))))) = some r := h
 clear h
 replace H := Option.bind_eq_some_iff.mp H
 obtain ⟨t108, A30, H⟩ := H
 replace H : (if t108 = true then ((cmp_isNaN_int.f a1).bind fun t109 => (if t109 = true then (some (decide (a0 < a1))) else (some true))) else (some (decide (a0 < a1)))) = some r := H
 have A3 := Aside0.mk A30
 clear A30
 by_cases c4 : t108 = true
 rotate_left
 ·replace c4 := Bool.eq_false_iff.mpr c4
  subst c4
  have H1 : (some (decide (a0 < a1))) = some r := by rw [if_neg (show ¬ (false = true) by decide)] at H; exact H
  clear H
  have H := H1
  clear H1
  obtain rfl := Option.some.inj H
  go_enter Try.func87, Try.ntmps87
  go_wp2_with (first | ((with_reducible refine gate_callee (f := 73) rfl ?_); refine goesL_ (some 6) rfl rfl Try.func73 (by kernel_rfl) rfl #[.int .i64 a0] rfl qgbase_1 ?_; (with_reducible refine (cmp_isNaN_int.calls a0 false _ A3.out).mono ?_); rintro e w' ⟨rfl, ⟨nd, rfl⟩⟩; refine ⟨_, rfl, ?_⟩))
  go_ret
  exact ⟨qgbase_3, qgbase_2⟩
 subst c4
 have H1 : ((cmp_isNaN_int.f a1).bind fun t109 => (if t109 = true then (some (decide (a0 < a1))) else (some true))) = some r := by rw [if_pos rfl] at H; exact H
 clear H
 have H := H1
 clear H1
 replace H := Option.bind_eq_some_iff.mp H
 obtain ⟨t109, A50, H⟩ := H
 replace H : (if t109 = true then (some (decide (a0 < a1))) else (some true)) = some r := H
 have A5 := Aside0.mk A50
 clear A50
 by_cases c6 : t109 = true
 ·subst c6
  have H1 : (some (decide (a0 < a1))) = some r := by rw [if_pos rfl] at H; exact H
  clear H
  have H := H1
  clear H1
  obtain rfl := Option.some.inj H
  go_enter Try.func87, Try.ntmps87
  go_wp2_with (first | ((with_reducible refine gate_callee (f := 73) rfl ?_); refine goesL_ (some 6) rfl rfl Try.func73 (by kernel_rfl) rfl #[.int .i64 a0] rfl qgbase_1 ?_; (with_reducible refine (cmp_isNaN_int.calls a0 true _ A3.out).mono ?_); rintro e w' ⟨rfl, ⟨nd, rfl⟩⟩; refine ⟨_, rfl, ?_⟩) | (go_at_call 73; (with_reducible refine (cmp_isNaN_int.calls a1 true _ A5.out).mono ?_); rintro e w' ⟨rfl, ⟨nd, rfl⟩⟩))
  go_ret
  exact ⟨qgbase_3, qgbase_2⟩
 replace c6 := Bool.eq_false_iff.mpr c6
 subst c6
 have H1 : (some true) = some r := by rw [if_neg (show ¬ (false = true) by decide)] at H; exact H
 clear H
 have H := H1
 clear H1
 obtain rfl := Option.some.inj H
 go_enter Try.func87, Try.ntmps87
 go_wp2_with (first | ((with_reducible refine gate_callee (f := 73) rfl ?_); refine goesL_ (some 6) rfl rfl Try.func73 (by kernel_rfl) rfl #[.int .i64 a0] rfl qgbase_1 ?_; (with_reducible refine (cmp_isNaN_int.calls a0 true _ A3.out).mono ?_); rintro e w' ⟨rfl, ⟨nd, rfl⟩⟩; refine ⟨_, rfl, ?_⟩) | (go_at_call 73; (with_reducible refine (cmp_isNaN_int.calls a1 false _ A5.out).mono ?_); rintro e w' ⟨rfl, ⟨nd, rfl⟩⟩))
 go_ret
 exact ⟨qgbase_3, qgbase_2⟩

/-! ### slices_isNaN_int: function 101 -/
def slices_isNaN_int.f (a0 : Int) : Option (Bool) := some (a0 != a0)
set_option maxHeartbeats 8000000 in
set_option maxRecDepth 100000 in
theorem slices_isNaN_int.calls (a0 : Int) (r : Bool) (w : World) (h : slices_isNaN_int.f a0 = some r) :
  Calls Try.prog 101 #[.int .i64 a0] w fun e w' => e = .returned (.bool r) ∧ Drawn0 w w' := by
 have H : (some (a0 != a0)) = some r := h
 clear h
 obtain rfl := Option.some.inj H
 go_enter Try.func101, Try.ntmps101
 go_wp2
 go_ret
 exact ⟨qgbase_3, qgbase_2⟩

/-! ### slices_BinarySearch_int_int: function 77 -/
def slices_BinarySearch_int_int.l0 : Nat → List Int → Int → Int → Int → Int → Option (Int × Bool)
 | 0, _, _, _, _, _ => none
 | k + 1, x0, x1, x6, x7, x8 => if x7 < x8 then (if 0 ≤ (wrap64 ((IntKind.u64.wrap (wrap64 (x7 + x8))) / 2)) then (if (wrap64 ((IntKind.u64.wrap (wrap64 (x7 + x8))) / 2)) < (x0.length : Int) then ((cmp_Less_int.f (rd x0 (wrap64 ((IntKind.u64.wrap (wrap64 (x7 + x8))) / 2))) x1).bind fun t111 => (if t111 = true then (slices_BinarySearch_int_int.l0 k x0 x1 x6 (wrap64 ((wrap64 ((IntKind.u64.wrap (wrap64 (x7 + x8))) / 2)) + 1)) x8) else (slices_BinarySearch_int_int.l0 k x0 x1 x6 x7 (wrap64 ((IntKind.u64.wrap (wrap64 (x7 + x8))) / 2))))) else (none)) else (none)) else (if x7 < x6 then (if 0 ≤ x7 then (if x7 < (x0.length : Int) then (if (rd x0 x7) = x1 then (some (x7, true)) else ((slices_isNaN_int.f (rd x0 x7)).bind fun t114 => (if t114 = true then ((slices_isNaN_int.f x1).bind fun t115 => (some (x7, t115))) else (some (x7, false))))) else (none)) else (none)) else (some (x7, false)))
def slices_BinarySearch_int_int.f (k : Nat) (l0 : List Int) (a1 : Int) : Option (Int × Bool) := slices_BinarySearch_int_int.l0 k l0 a1 (l0.length : Int) 0 (l0.length : Int)
theorem slices_BinarySearch_int_int.mono_l : ∀ k, (∀ y0 y1 y2 y3 y4, LeO (slices_BinarySearch_int_int.l0 k y0 y1 y2 y3 y4) (slices_BinarySearch_int_int.l0 (k + 1) y0 y1 y2 y3 y4))
 | 0 => fun _ _ _ _ _ r h => by simp [slices_BinarySearch_int_int.l0] at h
 | k + 1 => by
  have ih0 := slices_BinarySearch_int_int.mono_l k
  ·intro y0 y1 y2 y3 y4
   unfold slices_BinarySearch_int_int.l0
   repeat' first
   | (with_reducible exact ih0 _ _ _ _ _)
   | (with_reducible exact LeO.refl _)
   | (with_reducible exact LeO.none _)
   | (with_reducible refine LeO.ite ?_ ?_)
   | (with_reducible refine LeO.bind ?_ (fun _ => ?_))
   | exact ih0 _ _ _ _ _
   | exact LeO.none _
   | refine LeO.ite ?_ ?_
   | refine LeO.bind ?_ (fun _ => ?_)
theorem slices_BinarySearch_int_int.mono : ∀ a0 a1 k, LeO (slices_BinarySearch_int_int.f k a0 a1) (slices_BinarySearch_int_int.f (k + 1) a0 a1) := by
 intro a0 a1 k
 have ih0 := slices_BinarySearch_int_int.mono_l k
 unfold slices_BinarySearch_int_int.f
 repeat' first
   | (with_reducible exact ih0 _ _ _ _ _)
   | (with_reducible exact LeO.refl _)
   | (with_reducible exact LeO.none _)
   | (with_reducible refine LeO.ite ?_ ?_)
   | (with_reducible refine LeO.bind ?_ (fun _ => ?_))
   | exact ih0 _ _ _ _ _
   | exact LeO.none _
   | refine LeO.ite ?_ ?_
   | refine LeO.bind ?_ (fun _ => ?_)
set_option maxHeartbeats 8000000 in
set_option maxRecDepth 100000 in
theorem slices_BinarySearch_int_int.calls (k : Nat) (A0 : Option Addr) (c0 : Nat) (l0 : List Int) (a1 : Int) (r1 : Int) (r2 : Bool) (w : World) (hr0 : Kd.C (Kd.int .i64) w A0 l0.length l0) (hc0 : l0.length ≤ c0) (h : slices_BinarySearch_int_int.f k l0 a1 = some (r1, r2)) :
  Calls Try.prog 77 #[.slice A0 l0.length c0, .int .i64 a1] w fun e w' => e = .returned (.tuple #[.int .i64 r1, .bool r2]) ∧ Drawn0 w w' := by
 have HR0 := Aside0.mk hr0
 have HC0 := Aside0.mk hc0
 clear hr0 hc0
 have H : (slices_BinarySearch_int_int.l0 k l0 a1 (l0.length : Int) 0 (l0.length : Int)) = some (r1, r2) := h
 clear h
 have H' := Aside0.mk H
 clear H
 go_enter Try.func77, Try.ntmps77
 go_wp2
 go_loopg [7, 8] k (fun kq v7 v8 w' => ∃ (x7_1 : Int) (x8_1 : Int), v7 = .int .i64 x7_1 ∧ v8 = .int .i64 x8_1 ∧ Aside0 (slices_BinarySearch_int_int.l0 kq l0 a1 (l0.length : Int) x7_1 x8_1 = some (r1, r2)) ∧ Aside0 (kq ≤ k) ∧ Drawn0 w w')
 case atStart => exact ⟨(0), ((l0.length : Int)), qgbase_3, qgbase_3, H', ⟨Nat.le_refl _⟩, qgbase_2⟩
 clear H'
 try clear p2
 obtain ⟨x7_1, x8_1, rfl, rfl, HA, HK1, ⟨m1, rfl⟩⟩ := hrel
 cases gk with
 | zero => exact absurd HA.out (by simp [slices_BinarySearch_int_int.l0])
 | succ k1 =>
  have H := HA.out
  clear HA
  simp only [slices_BinarySearch_int_int.l0] at H
  by_cases c3 : x7_1 < x8_1
  ·rw [if_pos c3] at H
   have c3b0 : decide (x7_1 < x8_1) = true := decide_eq_true c3
   clear c3
   obtain ⟨ji4, hji4⟩ : ∃ j_ : Int, (wrap64 ((IntKind.u64.wrap (wrap64 (x7_1 + x8_1))) / 2)) = j_ := ⟨_, rfl⟩
   replace H : (if 0 ≤ (ji4) then (if (ji4) < (l0.length : Int) then ((cmp_Less_int.f (rd l0 (ji4)) a1).bind fun t111 => (if t111 = true then (slices_BinarySearch_int_int.l0 k1 l0 a1 (l0.length : Int) (wrap64 ((ji4) + 1)) x8_1) else (slices_BinarySearch_int_int.l0 k1 l0 a1 (l0.length : Int) x7_1 ji4))) else (none)) else (none)) = some (r1, r2) := by first | (rw [hji4] at H; exact H) | (simp only [hji4] at H ⊢; exact H)
   have hji4w : (IntKind.i64.wrap ((IntKind.u64.wrap (wrap64 (x7_1 + x8_1))) / 2)) = ji4 := (i64_w _).trans hji4
   by_cases c5 : 0 ≤ (ji4)
   rotate_left
   ·rw [if_neg c5] at H
    exact absurd H (by simp)
   rw [if_pos c5] at H
   have c5b0 : decide (0 ≤ (ji4)) = true := decide_eq_true c5
   clear c5
   by_cases c6 : (ji4) < (l0.length : Int)
   rotate_left
   ·rw [if_neg c6] at H
    exact absurd H (by simp)
   rw [if_pos c6] at H
   have c6b0 : decide ((ji4) < (l0.length : Int)) = true := decide_eq_true c6
   clear c6
   replace H := Option.bind_eq_some_iff.mp H
   obtain ⟨t111, A70, H⟩ := H
   replace H : (if t111 = true then (slices_BinarySearch_int_int.l0 k1 l0 a1 (l0.length : Int) (wrap64 ((ji4) + 1)) x8_1) else (slices_BinarySearch_int_int.l0 k1 l0 a1 (l0.length : Int) x7_1 ji4)) = some (r1, r2) := H
   have A7 := Aside0.mk A70
   clear A70
   by_cases c8 : t111 = true
   ·subst c8
    have H1 : (slices_BinarySearch_int_int.l0 k1 l0 a1 (l0.length : Int) (wrap64 ((ji4) + 1)) x8_1) = some (r1, r2) := by rw [if_pos rfl] at H; exact H
    clear H
    have H := H1
    clear H1
    have H' := Aside0.mk H
    clear H
    have p110 : 0 ≤ ((ji4) : Int) := of_decide_eq_true qgbase_5
    have q110 : (ji4) < (l0.length : Int) := of_decide_eq_true qgbase_5
    obtain ⟨ad110, e110, hx110_0⟩ := Kd.at_int HR0.out (ji4) p110 q110
    cases e110
    replace p110 := eq_true p110
    replace q110 := eq_true q110
    go_wp2_with (first | ((with_reducible refine gate_callee (f := 87) rfl ?_); refine goesL_ (some 27) rfl rfl Try.func87 (by kernel_rfl) rfl #[.int .i64 (rd l0 (ji4)), .int .i64 a1] rfl qgbase_9 ?_; (with_reducible refine (cmp_Less_int.calls (rd l0 (ji4)) a1 true _ A7.out).mono ?_); rintro e w' ⟨rfl, ⟨nd, rfl⟩⟩; refine ⟨_, rfl, ?_⟩))
    go_roundg k1
    case measure => have := HK1.out; omega
    case rel => exact ⟨(wrap64 ((ji4) + 1)), (x8_1), (by first | rfl | (simp; done) | (simp only [← hji4] <;> (first | rfl | simp)) | (simp [*]; done)), qgbase_3, H', ⟨by have := HK1.out; omega⟩, qgbase_2⟩
   replace c8 := Bool.eq_false_iff.mpr c8
   subst c8
   have H1 : (slices_BinarySearch_int_int.l0 k1 l0 a1 (l0.length : Int) x7_1 ji4) = some (r1, r2) := by rw [if_neg (show ¬ (false = true) by decide)] at H; exact H
   clear H
   have H := H1
   clear H1
   have H' := Aside0.mk H
   clear H
   have p110 : 0 ≤ ((ji4) : Int) := of_decide_eq_true qgbase_5
   have q110 : (ji4) < (l0.length : Int) := of_decide_eq_true qgbase_5
   obtain ⟨ad110, e110, hx110_0⟩ := Kd.at_int HR0.out (ji4) p110 q110
   cases e110
   replace p110 := eq_true p110
   replace q110 := eq_true q110
   go_wp2_with (first | ((with_reducible refine gate_callee (f := 87) rfl ?_); refine goesL_ (some 27) rfl rfl Try.func87 (by kernel_rfl) rfl #[.int .i64 (rd l0 (ji4)), .int .i64 a1] rfl qgbase_9 ?_; (with_reducible refine (cmp_Less_int.calls (rd l0 (ji4)) a1 false _ A7.out).mono ?_); rintro e w' ⟨rfl, ⟨nd, rfl⟩⟩; refine ⟨_, rfl, ?_⟩))
   go_roundg k1
   case measure => have := HK1.out; omega
   case rel => exact ⟨(x7_1), (ji4), qgbase_3, (by first | rfl | (simp; done) | (simp only [← hji4] <;> (first | rfl | simp)) | (simp [*]; done)), H', ⟨by have := HK1.out; omega⟩, qgbase_2⟩
  rw [if_neg c3] at H
  have c3b0 : decide (x7_1 < x8_1) = false := decide_eq_false c3
  clear c3
  by_cases c9 : x7_1 < (l0.length : Int)
  rotate_left
  ·rw [if_neg c9] at H
   have c9b0 : decide (x7_1 < (l0.length : Int)) = false := decide_eq_false c9
   clear c9
   simp only [Option.some.injEq, Prod.mk.injEq] at H
   obtain ⟨rfl, rfl⟩ := H
   go_wp2
   go_ret2
   exact ⟨qgbase_3, qgbase_2⟩
  rw [if_pos c9] at H
  have c9b0 : decide (x7_1 < (l0.length : Int)) = true := decide_eq_true c9
  clear c9
  by_cases c10 : 0 ≤ x7_1
  rotate_left
  ·rw [if_neg c10] at H
   exact absurd H (by simp)
  rw [if_pos c10] at H
  have c10b0 : decide (0 ≤ x7_1) = true := decide_eq_true c10
  clear c10
  by_cases c11 : x7_1 < (l0.length : Int)
  rotate_left
  ·rw [if_neg c11] at H
   exact absurd H (by simp)
  rw [if_pos c11] at H
  have c11b0 : decide (x7_1 < (l0.length : Int)) = true := decide_eq_true c11
  clear c11
  by_cases c12 : (rd l0 x7_1) = a1
  ·rw [if_pos c12] at H
   have c12b0 : ((rd l0 x7_1) == a1) = true := beq_iff_eq.mpr c12
   have c12b1 : ((rd l0 x7_1) != a1) = false := bne_eq_false_iff_eq.mpr c12
   clear c12
   simp only [Option.some.injEq, Prod.mk.injEq] at H
   obtain ⟨rfl, rfl⟩ := H
   have p112 : 0 ≤ (x7_1 : Int) := of_decide_eq_true qgbase_5
   have q112 : x7_1 < (l0.length : Int) := of_decide_eq_true qgbase_5
   obtain ⟨ad112, e112, hx112_0⟩ := Kd.at_int HR0.out x7_1 p112 q112
   cases e112
   replace p112 := eq_true p112
   replace q112 := eq_true q112
   go_wp2
   go_ret2
   exact ⟨qgbase_3, qgbase_2⟩
  rw [if_neg c12] at H
  have c12b0 : ((rd l0 x7_1) == a1) = false := beq_eq_false_iff_ne.mpr c12
  have c12b1 : ((rd l0 x7_1) != a1) = true := bne_iff_ne.mpr c12
  replace H := Option.bind_eq_some_iff.mp H
  obtain ⟨t114, A130, H⟩ := H
  replace H : (if t114 = true then ((slices_isNaN_int.f a1).bind fun t115 => (some (x7_1, t115))) else (some (x7_1, false))) = some (r1, r2) := H
  have A13 := Aside0.mk A130
  clear A130
  by_cases c14 : t114 = true
  rotate_left
  ·replace c14 := Bool.eq_false_iff.mpr c14
   subst c14
   have H1 : (some (x7_1, false)) = some (r1, r2) := by rw [if_neg (show ¬ (false = true) by decide)] at H; exact H
   clear H
   have H := H1
   clear H1
   simp only [Option.some.injEq, Prod.mk.injEq] at H
   obtain ⟨rfl, rfl⟩ := H
   have p112 : 0 ≤ (x7_1 : Int) := of_decide_eq_true qgbase_5
   have q112 : x7_1 < (l0.length : Int) := of_decide_eq_true qgbase_5
   obtain ⟨ad112, e112, hx112_0⟩ := Kd.at_int HR0.out x7_1 p112 q112
   cases e112
   replace p112 := eq_true p112
   replace q112 := eq_true q112
   have p113 : 0 ≤ (x7_1 : Int) := of_decide_eq_true qgbase_5
   have q113 : x7_1 < (l0.length : Int) := of_decide_eq_true qgbase_5
   obtain ⟨ad113, e113, hx113_0⟩ := Kd.at_int HR0.out x7_1 p113 q113
   obtain rfl : ad112 = ad113 := (by injection e113)
   replace p113 := eq_true p113
   replace q113 := eq_true q113
   go_wp2_with (first | (go_at_call 101; (with_reducible refine (slices_isNaN_int.calls (rd l0 x7_1) false _ A13.out).mono ?_); rintro e w' ⟨rfl, ⟨nd, rfl⟩⟩))
   go_ret2
   exact ⟨qgbase_3, qgbase_2⟩
  subst c14
  have H1 : ((slices_isNaN_int.f a1).bind fun t115 => (some (x7_1, t115))) = some (r1, r2) := by rw [if_pos rfl] at H; exact H
  clear H
  have H := H1
  clear H1
  replace H := Option.bind_eq_some_iff.mp H
  obtain ⟨t115, A150, H⟩ := H
  replace H : (some (x7_1, t115)) = some (r1, r2) := H
  have A15 := Aside0.mk A150
  clear A150
  simp only [Option.some.injEq, Prod.mk.injEq] at H
  obtain ⟨rfl, rfl⟩ := H
  have p112 : 0 ≤ (x7_1 : Int) := of_decide_eq_true qgbase_5
  have q112 : x7_1 < (l0.length : Int) := of_decide_eq_true qgbase_5
  obtain ⟨ad112, e112, hx112_0⟩ := Kd.at_int HR0.out x7_1 p112 q112
  cases e112
  replace p112 := eq_true p112
  replace q112 := eq_true q112
  have p113 : 0 ≤ (x7_1 : Int) := of_decide_eq_true qgbase_5
  have q113 : x7_1 < (l0.length : Int) := of_decide_eq_true qgbase_5
  obtain ⟨ad113, e113, hx113_0⟩ := Kd.at_int HR0.out x7_1 p113 q113
  obtain rfl : ad112 = ad113 := (by injection e113)
  replace p113 := eq_true p113
  replace q113 := eq_true q113
  go_wp2_with (first | (go_at_call 101; (with_reducible refine (slices_isNaN_int.calls (rd l0 x7_1) true _ A13.out).mono ?_); rintro e w' ⟨rfl, ⟨nd, rfl⟩⟩) | (go_at_call 101; (with_reducible refine (slices_isNaN_int.calls a1 t115 _ A15.out).mono ?_); rintro e w' ⟨rfl, ⟨nd, rfl⟩⟩))
  go_ret2
  exact ⟨qgbase_3, qgbase_2⟩

/-! ### slices_Insert_int_int: function 78 -/
def slices_Insert_int_int.f (l0 : List Int) (a1 : Int) (l2 : List Int) : Option (List Int) := if 0 ≤ a1 ∧ a1 ≤ (l0.length : Int) ∧ 0 < l2.length ∧ l0.length + l2.length < 17592186044416 then some (l0.take a1.toNat ++ l2 ++ l0.drop a1.toNat) else none
theorem slices_Insert_int_int.calls (P0_ : Nat → Prop) (u9000_ : Value) (l0 : List Int) (a1 : Int) (P2_ : Nat → Prop) (u9001_ : Value) (l2 : List Int) (r : List Int) (w0 w : World) (hB : Below w0.heap.size w0 w) (ho0 : Kd.R (Kd.int .i64) 3 w w0.heap.size P0_ u9000_ l0) (hp0_2 : ∀ k_, P0_ k_ → ¬ P2_ k_) (ho2 : Kd.R (Kd.int .i64) 3 w w0.heap.size P2_ u9001_ l2) (hp2_0 : ∀ k_, P2_ k_ → ¬ P0_ k_) (h : slices_Insert_int_int.f l0 a1 l2 = some r) :
  Calls Try.prog 78 #[u9000_, .int .i64 a1, u9001_] w fun e w' => ∃ v0_ : Value, e = .returned (v0_) ∧ Kd.R (Kd.int .i64) 3 w' w0.heap.size (fun k_ => ((P0_ k_ ∨ P2_ k_) ∨ w.heap.size ≤ k_)) v0_ r ∧ Below w0.heap.size w0 w' ∧ Kept w w' (fun k_ => P0_ k_ ∨ P2_ k_) := by
 unfold slices_Insert_int_int.f at h
 split at h
 ·rename_i hc
  obtain ⟨h0, h1, h2, h3⟩ := hc
  cases h
  obtain ⟨i, rfl⟩ := Int.eq_ofNat_of_zero_le h0
  exact Hand.insert_calls P0_ P2_ u9000_ u9001_ l0 i l2 w0 w hB ho0 hp0_2 ho2 (by omega) h2 h3
 ·cases h

/-! ### slices_Delete_int_int: function 79 -/
def slices_Delete_int_int.f (l0 : List Int) (a1 : Int) (a2 : Int) : Option (List Int) := if 0 ≤ a1 ∧ a1 ≤ a2 ∧ a2 ≤ (l0.length : Int) ∧ 0 < l0.length then some (l0.take a1.toNat ++ l0.drop a2.toNat) else none
theorem slices_Delete_int_int.calls (P0_ : Nat → Prop) (u9000_ : Value) (l0 : List Int) (a1 : Int) (a2 : Int) (r : List Int) (w0 w : World) (hB : Below w0.heap.size w0 w) (ho0 : Kd.R (Kd.int .i64) 3 w w0.heap.size P0_ u9000_ l0) (h : slices_Delete_int_int.f l0 a1 a2 = some r) :
  Calls Try.prog 79 #[u9000_, .int .i64 a1, .int .i64 a2] w fun e w' => ∃ v0_ : Value, e = .returned (v0_) ∧ Kd.R (Kd.int .i64) 3 w' w0.heap.size (fun k_ => (P0_ k_ ∨ w.heap.size ≤ k_)) v0_ r ∧ Below w0.heap.size w0 w' ∧ Kept w w' (fun k_ => P0_ k_) := by
 unfold slices_Delete_int_int.f at h
 split at h
 ·rename_i hc
  obtain ⟨h0, h1, h2, h3⟩ := hc
  cases h
  obtain ⟨i, rfl⟩ := Int.eq_ofNat_of_zero_le h0
  obtain ⟨j, rfl⟩ := Int.eq_ofNat_of_zero_le (Int.le_trans h0 h1)
  exact Hand.delete_calls P0_ u9000_ l0 i j w0 w hB ho0 (by omega) (by omega) (by intro e; rw [e] at h3; exact absurd h3 (by simp))
 ·cases h

/-! ### slices_Clone_int_int: function 50 -/
def slices_Clone_int_int.f (l0 : List Int) : Option (List Int) := if l0.length < 17592186044416 then some l0 else none
theorem slices_Clone_int_int.calls (A0 : Option Addr) (c0 : Nat) (l0 : List Int) (r : List Int) (w : World) (hr0 : Kd.C (Kd.int .i64) w A0 l0.length l0) (hc0 : l0.length ≤ c0) (h : slices_Clone_int_int.f l0 = some r) :
  Calls Try.prog 50 #[.slice A0 l0.length c0] w fun e w' => ∃ v0_ : Value, e = .returned (v0_) ∧ Kd.R (Kd.int .i64) 3 w' w.heap.size (fun _ => True) v0_ r ∧ Below w.heap.size w w' := by
 unfold slices_Clone_int_int.f at h
 split at h
 ·cases h
  exact Hand.clone_calls A0 c0 l0 w hr0 hc0 (by assumption)
 ·cases h

/-! ### cmp_Compare_int: function 53 -/
def cmp_Compare_int.f (a0 : Int) (a1 : Int) : Option (Int) := (cmp_isNaN_int.f a0).bind fun t169 => ((cmp_isNaN_int.f a1).bind fun t170 => (if t169 = true then (if t170 = true then (some 0) else (some (-1))) else (if t170 = true then (some 1) else (if a0 < a1 then (some (-1)) else (if a0 > a1 then (some 1) else (some 0))))))
set_option maxHeartbeats 8000000 in
set_option maxRecDepth 100000 in
theorem cmp_Compare_int.calls (a0 : Int) (a1 : Int) (r : Int) (w : World) (h : cmp_Compare_int.f a0 a1 = some r) :
  Calls Try.prog 53 #[.int .i64 a0, .int .i64 a1] w fun e w' => e = .returned (.int .i64 r) ∧ Drawn0 w w' := by
 have H : ((cmp_isNaN_int.f a0).bind fun t169 => ((cmp_isNaN_int.f a1).bind fun t170 => (if t169 = true then (if t170 = true then (some 0) else (some (-1))) else (if t170 = true then (some 1) else (if a0 < a1 then (some (-1)) else (if a0 > a1 then (some 1) else (some 0))))))) = some r := h
 clear h
 replace H := Option.bind_eq_some_iff.mp H
 obtain ⟨t169, A30, H⟩ := H
 replace H : ((cmp_isNaN_int.f a1).bind fun t170 => (if t169 = true then (if t170 = true then (some 0) else (some (-1))) else (if t170 = true then (some 1) else (if a0 < a1 then (some (-1)) else (if a0 > a1 then (some 1) else (some 0)))))) = some r := H
 have A3 := Aside0.mk A30
 clear A30
 replace H := Option.bind_eq_some_iff.mp H
 obtain ⟨t170, A40, H⟩ := H
 replace H : (if t169 = true then (if t170 = true then (some 0) else (some (-1))) else (if t170 = true then (some 1) else (if a0 < a1 then (some (-1)) else (if a0 > a1 then (some 1) else (some 0))))) = some r := H
 have A4 := Aside0.mk A40
 clear A40
 by_cases c5 : t169 = true
 ·subst c5
  have H1 : (if t170 = true then (some 0) else (some (-1))) = some r := by rw [if_pos rfl] at H; exact H
  clear H
  have H := H1
  clear H1
  by_cases c6 : t170 = true
  ·subst c6
   have H1 : (some 0) = some r := by rw [if_pos rfl] at H; exact H
   clear H
   have H := H1
   clear H1
   obtain rfl := Option.some.inj H
   go_enter Try.func53, Try.ntmps53
   go_wp2_with (first | ((with_reducible refine gate_callee (f := 73) rfl ?_); refine goesL_ (some 8) rfl rfl Try.func73 (by kernel_rfl) rfl #[.int .i64 a0] rfl qgbase_1 ?_; (with_reducible refine (cmp_isNaN_int.calls a0 true _ A3.out).mono ?_); rintro e w' ⟨rfl, ⟨nd, rfl⟩⟩; refine ⟨_, rfl, ?_⟩) | ((with_reducible refine gate_callee (f := 73) rfl ?_); refine goesL_ (some 10) rfl rfl Try.func73 (by kernel_rfl) rfl #[.int .i64 a1] rfl qgbase_1 ?_; (with_reducible refine (cmp_isNaN_int.calls a1 true _ A4.out).mono ?_); rintro e w' ⟨rfl, ⟨nd, rfl⟩⟩; refine ⟨_, rfl, ?_⟩))
   go_ret
   exact ⟨qgbase_3, qgbase_2⟩
  replace c6 := Bool.eq_false_iff.mpr c6
  subst c6
  have H1 : (some (-1)) = some r := by rw [if_neg (show ¬ (false = true) by decide)] at H; exact H
  clear H
  have H := H1
  clear H1
  obtain rfl := Option.some.inj H
  go_enter Try.func53, Try.ntmps53
  go_wp2_with (first | ((with_reducible refine gate_callee (f := 73) rfl ?_); refine goesL_ (some 8) rfl rfl Try.func73 (by kernel_rfl) rfl #[.int .i64 a0] rfl qgbase_1 ?_; (with_reducible refine (cmp_isNaN_int.calls a0 true _ A3.out).mono ?_); rintro e w' ⟨rfl, ⟨nd, rfl⟩⟩; refine ⟨_, rfl, ?_⟩) | ((with_reducible refine gate_callee (f := 73) rfl ?_); refine goesL_ (some 10) rfl rfl Try.func73 (by kernel_rfl) rfl #[.int .i64 a1] rfl qgbase_1 ?_; (with_reducible refine (cmp_isNaN_int.calls a1 false _ A4.out).mono ?_); rintro e w' ⟨rfl, ⟨nd, rfl⟩⟩; refine ⟨_, rfl, ?_⟩))
  go_ret
  exact ⟨qgbase_3, qgbase_2⟩
 replace c5 := Bool.eq_false_iff.mpr c5
 subst c5
 have H1 : (if t170 = true then (some 1) else (if a0 < a1 then (some (-1)) else (if a0 > a1 then (some 1) else (some 0)))) = some r := by rw [if_neg (show ¬ (false = true) by decide)] at H; exact H
 clear H
 have H := H1
 clear H1
 by_cases c7 : t170 = true
 ·subst c7
  have H1 : (some 1) = some r := by rw [if_pos rfl] at H; exact H
  clear H
  have H := H1
  clear H1
  obtain rfl := Option.some.inj H
  go_enter Try.func53, Try.ntmps53
  go_wp2_with (first | ((with_reducible refine gate_callee (f := 73) rfl ?_); refine goesL_ (some 8) rfl rfl Try.func73 (by kernel_rfl) rfl #[.int .i64 a0] rfl qgbase_1 ?_; (with_reducible refine (cmp_isNaN_int.calls a0 false _ A3.out).mono ?_); rintro e w' ⟨rfl, ⟨nd, rfl⟩⟩; refine ⟨_, rfl, ?_⟩) | ((with_reducible refine gate_callee (f := 73) rfl ?_); refine goesL_ (some 10) rfl rfl Try.func73 (by kernel_rfl) rfl #[.int .i64 a1] rfl qgbase_1 ?_; (with_reducible refine (cmp_isNaN_int.calls a1 true _ A4.out).mono ?_); rintro e w' ⟨rfl, ⟨nd, rfl⟩⟩; refine ⟨_, rfl, ?_⟩))
  go_ret
  exact ⟨qgbase_3, qgbase_2⟩
 replace c7 := Bool.eq_false_iff.mpr c7
 subst c7
 have H1 : (if a0 < a1 then (some (-1)) else (if a0 > a1 then (some 1) else (some 0))) = some r := by rw [if_neg (show ¬ (false = true) by decide)] at H; exact H
 clear H
 have H := H1
 clear H1
 by_cases c8 : a0 < a1
 ·rw [if_pos c8] at H
  have c8b0 : decide (a0 < a1) = true := decide_eq_true c8
  clear c8
  obtain rfl := Option.some.inj H
  go_enter Try.func53, Try.ntmps53
  go_wp2_with (first | ((with_reducible refine gate_callee (f := 73) rfl ?_); refine goesL_ (some 8) rfl rfl Try.func73 (by kernel_rfl) rfl #[.int .i64 a0] rfl qgbase_1 ?_; (with_reducible refine (cmp_isNaN_int.calls a0 false _ A3.out).mono ?_); rintro e w' ⟨rfl, ⟨nd, rfl⟩⟩; refine ⟨_, rfl, ?_⟩) | ((with_reducible refine gate_callee (f := 73) rfl ?_); refine goesL_ (some 10) rfl rfl Try.func73 (by kernel_rfl) rfl #[.int .i64 a1] rfl qgbase_1 ?_; (with_reducible refine (cmp_isNaN_int.calls a1 false _ A4.out).mono ?_); rintro e w' ⟨rfl, ⟨nd, rfl⟩⟩; refine ⟨_, rfl, ?_⟩))
  go_ret
  exact ⟨qgbase_3, qgbase_2⟩
 rw [if_neg c8] at H
 have c8b0 : decide (a0 < a1) = false := decide_eq_false c8
 clear c8
 by_cases c9 : a0 > a1
 ·rw [if_pos c9] at H
  have c9b0 : decide (a1 < a0) = true := decide_eq_true c9
  clear c9
  obtain rfl := Option.some.inj H
  go_enter Try.func53, Try.ntmps53
  go_wp2_with (first | ((with_reducible refine gate_callee (f := 73) rfl ?_); refine goesL_ (some 8) rfl rfl Try.func73 (by kernel_rfl) rfl #[.int .i64 a0] rfl qgbase_1 ?_; (with_reducible refine (cmp_isNaN_int.calls a0 false _ A3.out).mono ?_); rintro e w' ⟨rfl, ⟨nd, rfl⟩⟩; refine ⟨_, rfl, ?_⟩) | ((with_reducible refine gate_callee (f := 73) rfl ?_); refine goesL_ (some 10) rfl rfl Try.func73 (by kernel_rfl) rfl #[.int .i64 a1] rfl qgbase_1 ?_; (with_reducible refine (cmp_isNaN_int.calls a1 false _ A4.out).mono ?_); rintro e w' ⟨rfl, ⟨nd, rfl⟩⟩; refine ⟨_, rfl, ?_⟩))
  go_ret
  exact ⟨qgbase_3, qgbase_2⟩
 rw [if_neg c9] at H
 have c9b0 : decide (a1 < a0) = false := decide_eq_false c9
 clear c9
 obtain rfl := Option.some.inj H
 go_enter Try.func53, Try.ntmps53
 go_wp2_with (first | ((with_reducible refine gate_callee (f := 73) rfl ?_); refine goesL_ (some 8) rfl rfl Try.func73 (by kernel_rfl) rfl #[.int .i64 a0] rfl qgbase_1 ?_; (with_reducible refine (cmp_isNaN_int.calls a0 false _ A3.out).mono ?_); rintro e w' ⟨rfl, ⟨nd, rfl⟩⟩; refine ⟨_, rfl, ?_⟩) | ((with_reducible refine gate_callee (f := 73) rfl ?_); refine goesL_ (some 10) rfl rfl Try.func73 (by kernel_rfl) rfl #[.int .i64 a1] rfl qgbase_1 ?_; (with_reducible refine (cmp_isNaN_int.calls a1 false _ A4.out).mono ?_); rintro e w' ⟨rfl, ⟨nd, rfl⟩⟩; refine ⟨_, rfl, ?_⟩))
 go_ret
 exact ⟨qgbase_3, qgbase_2⟩

/-! ### slices_Sort_int_int: function 51 -/
def slices_Sort_int_int.f (l0 : List Int) : Option (List Int) := if l0.length < 4611686018427387904 then some (l0.mergeSort fun x y => decide (x ≤ y)) else none
theorem slices_Sort_int_int.calls (P0_ : Nat → Prop) (u9000_ : Value) (l0 : List Int) (r : List Int) (w0 w : World) (hB : Below w0.heap.size w0 w) (ho0 : Kd.R (Kd.int .i64) 3 w w0.heap.size P0_ u9000_ l0) (h : slices_Sort_int_int.f l0 = some r) :
  Calls Try.prog 51 #[u9000_] w fun e w' => e = .returned (.tuple #[]) ∧ Kd.R (Kd.int .i64) 3 w' w0.heap.size (fun k_ => (P0_ k_ ∨ w.heap.size ≤ k_)) u9000_ r ∧ Below w0.heap.size w0 w' ∧ Kept w w' (fun k_ => P0_ k_) := by
 unfold slices_Sort_int_int.f at h
 split at h
 ·cases h
  exact Hand.sort_calls P0_ u9000_ l0 w0 w hB ho0 (by assumption)
 ·cases h

end Go.Proofs.Ytcjgmofgfblmnaa.Q
