-- Laid by myprint.py (a program of this session's, over the kit's printer and with functions proved by hand)
import Derived.Test.YthdifdnjodbdnaaTy
namespace Go.Proofs.Ythdifdnjodbdnaa.Q
open Go.RowKit Go.Proofs.YthdifdnjodbdnaaW.PrintWords Go.Proofs.YthdifdnjodbdnaaW.PrintLast Go.Proofs.YthdifdnjodbdnaaW.PrintMore
attribute [local go_sem] max2_int min2_int max_two min_two max_three min_three max_four min_four   -- for this text's walks alone
set_option linter.unusedVariables false
set_option linter.unusedSimpArgs false

attribute [local go_sem high] eqA37 eqA41
/-! ### sleuthlaw13_Short: function 16 -/
def sleuthlaw13_Short.l0 : Nat → Int → List (S104) → Int → Int → Int → Int → List (S193) → Int → Option (Bool)
 | 0, _, _, _, _, _, _, _, _ => none
 | k + 1, x3, x179000, x179001, x179002, x179003, x179004, x179005, x179006 => if x3 < (x179000.length : Int) then (if 0 ≤ x3 then (if (((rd_T104 x179000 x3).f2).length : Int) > 8 then (some false) else (sleuthlaw13_Short.l0 k (wrap64 (x3 + 1)) x179000 x179001 x179002 x179003 x179004 x179005 x179006)) else (none)) else (if (x179000.length : Int) ≤ 3 then (some (decide ((x179005.length : Int) ≤ 6))) else (some false))
def sleuthlaw13_Short.f (k : Nat) (l0_0 : List (S104)) (a0_1 : Int) (a0_2 : Int) (a0_3 : Int) (a0_4 : Int) (l0_5 : List (S193)) (a0_6 : Int) : Option (Bool) := sleuthlaw13_Short.l0 k 0 l0_0 a0_1 a0_2 a0_3 a0_4 l0_5 a0_6
theorem sleuthlaw13_Short.mono_l : ∀ k, (∀ y0 y1 y2 y3 y4 y5 y6 y7, LeO (sleuthlaw13_Short.l0 k y0 y1 y2 y3 y4 y5 y6 y7) (sleuthlaw13_Short.l0 (k + 1) y0 y1 y2 y3 y4 y5 y6 y7))
 | 0 => fun _ _ _ _ _ _ _ _ r h => by simp [sleuthlaw13_Short.l0] at h
 | k + 1 => by
  have ih0 := sleuthlaw13_Short.mono_l k
  ·intro y0 y1 y2 y3 y4 y5 y6 y7
   unfold sleuthlaw13_Short.l0
   repeat' first
   | (with_reducible exact ih0 _ _ _ _ _ _ _ _)
   | (with_reducible exact LeO.refl _)
   | (with_reducible exact LeO.none _)
   | (with_reducible refine LeO.ite ?_ ?_)
   | (with_reducible refine LeO.bind ?_ (fun _ => ?_))
   | exact ih0 _ _ _ _ _ _ _ _
   | exact LeO.none _
   | refine LeO.ite ?_ ?_
   | refine LeO.bind ?_ (fun _ => ?_)
theorem sleuthlaw13_Short.mono : ∀ a0 a1 a2 a3 a4 a5 a6 k, LeO (sleuthlaw13_Short.f k a0 a1 a2 a3 a4 a5 a6) (sleuthlaw13_Short.f (k + 1) a0 a1 a2 a3 a4 a5 a6) := by
 intro a0 a1 a2 a3 a4 a5 a6 k
 have ih0 := sleuthlaw13_Short.mono_l k
 unfold sleuthlaw13_Short.f
 repeat' first
   | (with_reducible exact ih0 _ _ _ _ _ _ _ _)
   | (with_reducible exact LeO.refl _)
   | (with_reducible exact LeO.none _)
   | (with_reducible refine LeO.ite ?_ ?_)
   | (with_reducible refine LeO.bind ?_ (fun _ => ?_))
   | exact ih0 _ _ _ _ _ _ _ _
   | exact LeO.none _
   | refine LeO.ite ?_ ?_
   | refine LeO.bind ?_ (fun _ => ?_)
set_option maxHeartbeats 8000000 in
set_option maxRecDepth 100000 in
theorem sleuthlaw13_Short.calls (k : Nat) (A0_0 : Option Addr) (c0_0 : Nat) (l0_0 : List (S104)) (a0_1 : Int) (a0_2 : Int) (a0_3 : Int) (a0_4 : Int) (A0_5 : Option Addr) (c0_5 : Nat) (l0_5 : List (S193)) (a0_6 : Int) (r : Bool) (w : World) (hr0_0 : Kd.C k104 w A0_0 l0_0.length l0_0) (hc0_0 : l0_0.length ≤ c0_0) (hr0_5 : Kd.C k193 w A0_5 l0_5.length l0_5) (hc0_5 : l0_5.length ≤ c0_5) (h : sleuthlaw13_Short.f k l0_0 a0_1 a0_2 a0_3 a0_4 l0_5 a0_6 = some r) :
  Calls Try.prog 16 #[.agg #[.slice A0_0 l0_0.length c0_0, .int .i8 a0_1, .int .i8 a0_2, .int .i8 a0_3, .int .i8 a0_4, .slice A0_5 l0_5.length c0_5, .int .u8 a0_6]] w fun e w' => e = .returned (.bool r) ∧ Below w.heap.size w w' := by
 have hu27 := Try.underlying27
 have HR0_0 := Aside0.mk hr0_0
 have HC0_0 := Aside0.mk hc0_0
 clear hr0_0 hc0_0
 have HR0_5 := Aside0.mk hr0_5
 have HC0_5 := Aside0.mk hc0_5
 clear hr0_5 hc0_5
 have HB := Aside0.mk (Below.refl w.heap.size w)
 have H : (sleuthlaw13_Short.l0 k 0 l0_0 a0_1 a0_2 a0_3 a0_4 l0_5 a0_6) = some r := h
 clear h
 have H' := Aside0.mk H
 clear H
 go_enter Try.func16, Try.ntmps16
 go_wp2_with (first | ((with_reducible refine gate_dst (N := 1) rfl ?_); (try (refine gate_guard (by rfl) ?_; dsimp only)); refine box_event ?hg (N := 1) ?hd (cs := #[.slice A0_0 l0_0.length c0_0, .int .i8 a0_1, .int .i8 a0_2, .int .i8 a0_3, .int .i8 a0_4, .slice A0_5 l0_5.length c0_5, .int .u8 a0_6]) (t := 27) ?hr ?_; (case hd => rfl); (case hg => rfl); (case hr => first | (go_simp; done) | (go_simp; rfl)); intro gb178 hg w2 hbox hb; have n0_ := Aside0.mk (below_step (by repeat (first | (with_reducible first | exact HB.out | apply below_alloc | apply pw_below_drewN | apply below_drew1) | exact HB.out)) hb); have n1_ := Aside0.mk (hbox); have n2_ := Aside0.mk ((by rw [hg]; exact (below_size (by repeat (first | (with_reducible first | exact HB.out | apply below_alloc | apply pw_below_drewN | apply below_drew1) | exact HB.out))) : w.heap.size ≤ gb178)); have n3_ := Aside0.mk ((by rw [hg]; exact (below_size (by repeat (first | (with_reducible first | exact HB.out | apply below_alloc | apply pw_below_drewN | apply below_drew1) | exact HB.out))) : w.heap.size ≤ gb178)); clear HB; have HB := n0_; have BK178 := n1_; have GW178 := n2_; have GE178 := n3_; clear n0_ n1_ n2_ n3_; clear hb hbox hg))
 go_loopg [3] k (fun kq v3 w' => ∃ (x3_1 : Int), v3 = .int .i64 x3_1 ∧ Aside0 (sleuthlaw13_Short.l0 kq x3_1 l0_0 a0_1 a0_2 a0_3 a0_4 l0_5 a0_6 = some r) ∧ Aside0 (kq ≤ k) ∧ Aside0 (w'.heap[gb178]? = some (.cells #[(.slice A0_0 l0_0.length c0_0), .int .i8 a0_1, .int .i8 a0_2, .int .i8 a0_3, .int .i8 a0_4, (.slice A0_5 l0_5.length c0_5), .int .u8 a0_6] 27 (0, 0))) ∧ Aside0 (Below w.heap.size w w'))
 case atStart => exact ⟨(0), (by first | rfl | (simp; done) | (simp [*]; done)), H', ⟨Nat.le_refl _⟩, ⟨by (with_reducible repeat (first | refine blk_drewN ?_ _ | refine blk_drew ?_ | refine blk_alloc ?_ _)); exact BK178.out⟩, ⟨by repeat (first | (with_reducible first | exact HB.out | apply below_alloc | apply pw_below_drewN | apply below_drew1 | refine below_set ?_ GE178.out) | exact HB.out)⟩⟩
 clear H'
 try clear c1
 try clear p2
 obtain ⟨x3_1, rfl, HA, HK1, BK178, HB⟩ := hrel
 cases gk with
 | zero => exact absurd HA.out (by simp [sleuthlaw13_Short.l0])
 | succ k1 =>
  have H := HA.out
  clear HA
  simp only [sleuthlaw13_Short.l0] at H
  by_cases c3 : x3_1 < (l0_0.length : Int)
  rotate_left
  ·rw [if_neg c3] at H
   have c3b0 : decide (x3_1 < (l0_0.length : Int)) = false := decide_eq_false c3
   clear c3
   by_cases c8 : (l0_0.length : Int) ≤ 3
   ·rw [if_pos c8] at H
    have c8b0 : decide ((l0_0.length : Int) ≤ 3) = true := decide_eq_true c8
    have c8b1 : decide (l0_0.length ≤ 3) = true := decide_eq_true (by omega)
    clear c8
    obtain rfl := Option.some.inj H
    have hcz9_0 : wr.cell? ⟨gb178, 0, none⟩ = some (.slice A0_0 l0_0.length c0_0) := (blk_cell BK178.out 0).trans rfl
    have hcz9_1 : wr.cell? ⟨gb178, 1, none⟩ = some (.int .i8 a0_1) := (blk_cell BK178.out 1).trans rfl
    have hcz9_2 : wr.cell? ⟨gb178, 2, none⟩ = some (.int .i8 a0_2) := (blk_cell BK178.out 2).trans rfl
    have hcz9_3 : wr.cell? ⟨gb178, 3, none⟩ = some (.int .i8 a0_3) := (blk_cell BK178.out 3).trans rfl
    have hcz9_4 : wr.cell? ⟨gb178, 4, none⟩ = some (.int .i8 a0_4) := (blk_cell BK178.out 4).trans rfl
    have hcz9_5 : wr.cell? ⟨gb178, 5, none⟩ = some (.slice A0_5 l0_5.length c0_5) := (blk_cell BK178.out 5).trans rfl
    have hcz9_6 : wr.cell? ⟨gb178, 6, none⟩ = some (.int .u8 a0_6) := (blk_cell BK178.out 6).trans rfl
    have hfz9_0 := blk_frozen BK178.out 0
    have hfz9_1 := blk_frozen BK178.out 1
    have hfz9_2 := blk_frozen BK178.out 2
    have hfz9_3 := blk_frozen BK178.out 3
    have hfz9_4 := blk_frozen BK178.out 4
    have hfz9_5 := blk_frozen BK178.out 5
    have hfz9_6 := blk_frozen BK178.out 6
    go_wp2
    go_ret
    exact ⟨by first | rfl | (simp [errW_none, errW_some] <;> rfl) | (simp [*, errW_none, errW_some] <;> rfl), by repeat (first | (with_reducible first | exact HB.out | apply below_alloc | apply pw_below_drewN | apply below_drew1 | refine below_set ?_ GE178.out) | exact HB.out)⟩
   rw [if_neg c8] at H
   have c8b0 : decide ((l0_0.length : Int) ≤ 3) = false := decide_eq_false c8
   have c8b1 : decide (l0_0.length ≤ 3) = false := decide_eq_false (by omega)
   clear c8
   obtain rfl := Option.some.inj H
   have hcz10_0 : wr.cell? ⟨gb178, 0, none⟩ = some (.slice A0_0 l0_0.length c0_0) := (blk_cell BK178.out 0).trans rfl
   have hcz10_1 : wr.cell? ⟨gb178, 1, none⟩ = some (.int .i8 a0_1) := (blk_cell BK178.out 1).trans rfl
   have hcz10_2 : wr.cell? ⟨gb178, 2, none⟩ = some (.int .i8 a0_2) := (blk_cell BK178.out 2).trans rfl
   have hcz10_3 : wr.cell? ⟨gb178, 3, none⟩ = some (.int .i8 a0_3) := (blk_cell BK178.out 3).trans rfl
   have hcz10_4 : wr.cell? ⟨gb178, 4, none⟩ = some (.int .i8 a0_4) := (blk_cell BK178.out 4).trans rfl
   have hcz10_5 : wr.cell? ⟨gb178, 5, none⟩ = some (.slice A0_5 l0_5.length c0_5) := (blk_cell BK178.out 5).trans rfl
   have hcz10_6 : wr.cell? ⟨gb178, 6, none⟩ = some (.int .u8 a0_6) := (blk_cell BK178.out 6).trans rfl
   have hfz10_0 := blk_frozen BK178.out 0
   have hfz10_1 := blk_frozen BK178.out 1
   have hfz10_2 := blk_frozen BK178.out 2
   have hfz10_3 := blk_frozen BK178.out 3
   have hfz10_4 := blk_frozen BK178.out 4
   have hfz10_5 := blk_frozen BK178.out 5
   have hfz10_6 := blk_frozen BK178.out 6
   go_wp2
   go_ret
   exact ⟨by first | rfl | (simp [errW_none, errW_some] <;> rfl) | (simp [*, errW_none, errW_some] <;> rfl), by repeat (first | (with_reducible first | exact HB.out | apply below_alloc | apply pw_below_drewN | apply below_drew1 | refine below_set ?_ GE178.out) | exact HB.out)⟩
  rw [if_pos c3] at H
  have c3b0 : decide (x3_1 < (l0_0.length : Int)) = true := decide_eq_true c3
  clear c3
  by_cases c4 : 0 ≤ x3_1
  rotate_left
  ·rw [if_neg c4] at H
   exact absurd H (by simp)
  rw [if_pos c4] at H
  have c4b0 : decide (0 ≤ x3_1) = true := decide_eq_true c4
  clear c4
  by_cases c5 : (((rd_T104 l0_0 x3_1).f2).length : Int) > 8
  ·rw [if_pos c5] at H
   have c5b0 : decide (8 < (((rd_T104 l0_0 x3_1).f2).length : Int)) = true := decide_eq_true c5
   have c5b1 : decide (8 < ((rd_T104 l0_0 x3_1).f2).length) = true := decide_eq_true (by omega)
   clear c5
   obtain rfl := Option.some.inj H
   have hcz6_0 : wr.cell? ⟨gb178, 0, none⟩ = some (.slice A0_0 l0_0.length c0_0) := (blk_cell BK178.out 0).trans rfl
   have hcz6_1 : wr.cell? ⟨gb178, 1, none⟩ = some (.int .i8 a0_1) := (blk_cell BK178.out 1).trans rfl
   have hcz6_2 : wr.cell? ⟨gb178, 2, none⟩ = some (.int .i8 a0_2) := (blk_cell BK178.out 2).trans rfl
   have hcz6_3 : wr.cell? ⟨gb178, 3, none⟩ = some (.int .i8 a0_3) := (blk_cell BK178.out 3).trans rfl
   have hcz6_4 : wr.cell? ⟨gb178, 4, none⟩ = some (.int .i8 a0_4) := (blk_cell BK178.out 4).trans rfl
   have hcz6_5 : wr.cell? ⟨gb178, 5, none⟩ = some (.slice A0_5 l0_5.length c0_5) := (blk_cell BK178.out 5).trans rfl
   have hcz6_6 : wr.cell? ⟨gb178, 6, none⟩ = some (.int .u8 a0_6) := (blk_cell BK178.out 6).trans rfl
   have hfz6_0 := blk_frozen BK178.out 0
   have hfz6_1 := blk_frozen BK178.out 1
   have hfz6_2 := blk_frozen BK178.out 2
   have hfz6_3 := blk_frozen BK178.out 3
   have hfz6_4 := blk_frozen BK178.out 4
   have hfz6_5 := blk_frozen BK178.out 5
   have hfz6_6 := blk_frozen BK178.out 6
   have p179 : 0 ≤ (x3_1 : Int) := of_decide_eq_true (by first | (with_reducible assumption) | assumption)
   have q179 : x3_1 < (l0_0.length : Int) := of_decide_eq_true (by first | (with_reducible assumption) | assumption)
   obtain ⟨ad179, A179_2, c179_2, e179, hx179_0, hx179_1, hx179_2, hl179_2, hi179_2⟩ := at_T104 HR0_0.out x3_1 p179 q179
   cases e179
   replace hx179_0 := (HB.out.cell (World.block_lt_of_cell? w _ hx179_0)).trans hx179_0
   replace hx179_1 := (HB.out.cell (World.block_lt_of_cell? w _ hx179_1)).trans hx179_1
   replace hx179_2 := (HB.out.cell (World.block_lt_of_cell? w _ hx179_2)).trans hx179_2
   have HR179_2 := Aside0.mk hi179_2
   have HC179_2 := Aside0.mk hl179_2
   clear hi179_2 hl179_2
   replace p179 := eq_true p179
   replace q179 := eq_true q179
   go_wp2
   go_ret
   exact ⟨by first | rfl | (simp [errW_none, errW_some] <;> rfl) | (simp [*, errW_none, errW_some] <;> rfl), by repeat (first | (with_reducible first | exact HB.out | apply below_alloc | apply pw_below_drewN | apply below_drew1 | refine below_set ?_ GE178.out) | exact HB.out)⟩
  rw [if_neg c5] at H
  have c5b0 : decide (8 < (((rd_T104 l0_0 x3_1).f2).length : Int)) = false := decide_eq_false c5
  have c5b1 : decide (8 < ((rd_T104 l0_0 x3_1).f2).length) = false := decide_eq_false (by omega)
  clear c5
  have H' := Aside0.mk H
  clear H
  have hcz7_0 : wr.cell? ⟨gb178, 0, none⟩ = some (.slice A0_0 l0_0.length c0_0) := (blk_cell BK178.out 0).trans rfl
  have hcz7_1 : wr.cell? ⟨gb178, 1, none⟩ = some (.int .i8 a0_1) := (blk_cell BK178.out 1).trans rfl
  have hcz7_2 : wr.cell? ⟨gb178, 2, none⟩ = some (.int .i8 a0_2) := (blk_cell BK178.out 2).trans rfl
  have hcz7_3 : wr.cell? ⟨gb178, 3, none⟩ = some (.int .i8 a0_3) := (blk_cell BK178.out 3).trans rfl
  have hcz7_4 : wr.cell? ⟨gb178, 4, none⟩ = some (.int .i8 a0_4) := (blk_cell BK178.out 4).trans rfl
  have hcz7_5 : wr.cell? ⟨gb178, 5, none⟩ = some (.slice A0_5 l0_5.length c0_5) := (blk_cell BK178.out 5).trans rfl
  have hcz7_6 : wr.cell? ⟨gb178, 6, none⟩ = some (.int .u8 a0_6) := (blk_cell BK178.out 6).trans rfl
  have hfz7_0 := blk_frozen BK178.out 0
  have hfz7_1 := blk_frozen BK178.out 1
  have hfz7_2 := blk_frozen BK178.out 2
  have hfz7_3 := blk_frozen BK178.out 3
  have hfz7_4 := blk_frozen BK178.out 4
  have hfz7_5 := blk_frozen BK178.out 5
  have hfz7_6 := blk_frozen BK178.out 6
  have p179 : 0 ≤ (x3_1 : Int) := of_decide_eq_true (by first | (with_reducible assumption) | assumption)
  have q179 : x3_1 < (l0_0.length : Int) := of_decide_eq_true (by first | (with_reducible assumption) | assumption)
  obtain ⟨ad179, A179_2, c179_2, e179, hx179_0, hx179_1, hx179_2, hl179_2, hi179_2⟩ := at_T104 HR0_0.out x3_1 p179 q179
  cases e179
  replace hx179_0 := (HB.out.cell (World.block_lt_of_cell? w _ hx179_0)).trans hx179_0
  replace hx179_1 := (HB.out.cell (World.block_lt_of_cell? w _ hx179_1)).trans hx179_1
  replace hx179_2 := (HB.out.cell (World.block_lt_of_cell? w _ hx179_2)).trans hx179_2
  have HR179_2 := Aside0.mk hi179_2
  have HC179_2 := Aside0.mk hl179_2
  clear hi179_2 hl179_2
  replace p179 := eq_true p179
  replace q179 := eq_true q179
  go_wp2
  go_roundg k1
  case measure => have := HK1.out; omega
  case rel => exact ⟨(wrap64 (x3_1 + 1)), (by first | rfl | (simp; done) | (simp [*]; done)), H', ⟨by have := HK1.out; omega⟩, ⟨by (with_reducible repeat (first | refine blk_drewN ?_ _ | refine blk_drew ?_ | refine blk_alloc ?_ _)); exact BK178.out⟩, ⟨by repeat (first | (with_reducible first | exact HB.out | apply below_alloc | apply pw_below_drewN | apply below_drew1 | refine below_set ?_ GE178.out) | exact HB.out)⟩⟩

end Go.Proofs.Ythdifdnjodbdnaa.Q
