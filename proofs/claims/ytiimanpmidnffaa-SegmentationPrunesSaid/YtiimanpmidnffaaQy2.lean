-- Laid by myprint.py (a program of this session's, over the kit's printer and with functions proved by hand)
import Derived.Test.YtiimanpmidnffaaQx0
import Derived.Test.YtiimanpmidnffaaQx9
import Derived.Test.YtiimanpmidnffaaQy1
namespace Go.Proofs.Ytiimanpmidnffaa.Q
open Go.RowKit Go.Proofs.YtiimanpmidnffaaW.PrintWords Go.Proofs.YtiimanpmidnffaaW.PrintLast Go.Proofs.YtiimanpmidnffaaW.PrintMore
attribute [local go_sem] max2_int min2_int max_two min_two max_three min_three max_four min_four   -- for this text's walks alone
set_option linter.unusedVariables false
set_option linter.unusedSimpArgs false

theorem qy2_0 {p : Prop} (h : p := by repeat (first | (with_reducible first | exact HB.out | apply below_alloc | apply pw_below_drewN | apply below_drew1 | refine below_set ?_ GE352.out | refine below_set ?_ GE353.out) | exact HB.out)) : p := h
theorem qy2_1 {p : Prop} (h : p := by (with_reducible repeat (first | refine blk_drewN ?_ _ | refine blk_drew ?_ | refine blk_alloc ?_ _)); exact BK352.out) : p := h
theorem qy2_2 {p : Prop} (h : p := by (with_reducible repeat (first | refine blk_drewN ?_ _ | refine blk_drew ?_ | refine blk_alloc ?_ _)); exact BK353.out) : p := h
theorem qy2_3 {p : Prop} (h : p := by repeat (first | exact (Kd.R_reads' HO_10.out).2.2 | (with_reducible refine Kd.C_alloc ?_ _) | (with_reducible refine Kd.C_drewN ?_ _) | (with_reducible refine Kd.C_drew ?_))) : p := h
theorem qy2_4 {p : Prop} (h : p := by (with_reducible repeat (first | refine blk_drewN ?_ _ | refine blk_drew ?_ | refine blk_alloc ?_ _)); refine blk_far ?_ NB352_353.out _; (with_reducible repeat (first | refine blk_drewN ?_ _ | refine blk_drew ?_ | refine blk_alloc ?_ _)); refine blk_far ?_ NB352_353.out _; (with_reducible repeat (first | refine blk_drewN ?_ _ | refine blk_drew ?_ | refine blk_alloc ?_ _)); exact BK352.out) : p := h
theorem qy2_5 {p : Prop} (h : p := by (try simp only [List.map_toArray, List.map_cons, List.map_nil]); first | done | rfl | (simp only [List.length_drop, List.length_take]; rfl)) : p := h
theorem qy2_6 {p : Prop} (h : p := by (with_reducible repeat (first | apply Kd.R_alloc | apply Kd.R_drewN | apply Kd.R_drew)); exact HO_354000.out) : p := h
theorem qy2_7 {p : Prop} (h : p := by repeat (first | exact (Kd.C_below HR0.out HB.out) | (with_reducible refine Kd.C_alloc ?_ _) | (with_reducible refine Kd.C_drewN ?_ _) | (with_reducible refine Kd.C_drew ?_))) : p := h
theorem qy2_8 {p : Prop} (h : p := by first | rfl | (simp; done) | (simp [*]; done)) : p := h
theorem qy2_9 {p : Prop} (h : p := by (with_reducible repeat (first | apply Kd.R_alloc | apply Kd.R_drewN | apply Kd.R_drew)); exact HO_10.out) : p := h
theorem qy2_10 {p : Prop} (h : p := by (with_reducible repeat (first | apply Kd.R_alloc | apply Kd.R_drewN | apply Kd.R_drew)); exact Kd.R_mono HO_354000.out (fun _ hk => trivial)) : p := h
theorem qy2_11 {p : Prop} (h : p := by repeat (first | (with_reducible first | exact HB.out | apply below_alloc | apply pw_below_drewN | apply below_drew1 | refine below_set ?_ GE352.out) | exact HB.out)) : p := h
theorem qy2_12 {p : Prop} (h : p := by repeat (first | (with_reducible first | exact HB.out | apply below_alloc | apply pw_below_drewN | apply below_drew1) | exact HB.out)) : p := h
theorem qy2_13 {p : Prop} (h : p := by have := HK1.out; have := HJ10.out; omega) : p := h
theorem qy2_14 {p : Prop} (h : p := by exact (Kd.R_reads' HO_10.out).2.1) : p := h
theorem qy2_15 {p : Prop} (h : p := by repeat (first | exact (Kd.R_reads' HO_354000.out).2.2 | (with_reducible refine Kd.C_alloc ?_ _) | (with_reducible refine Kd.C_drewN ?_ _) | (with_reducible refine Kd.C_drew ?_))) : p := h
theorem qy2_16 {p : Prop} (h : p := by (with_reducible repeat (first | apply Kd.R_alloc | apply Kd.R_drewN | apply Kd.R_drew)); exact Kd.R_mono HO_354000.out (fun _ hk => hk.2)) : p := h
theorem qy2_17 {p : Prop} (h : p := by (with_reducible repeat (first | apply Kd.R_alloc | apply Kd.R_drewN | apply Kd.R_drew)); exact Kd.R_mono HO356.out (fun _ hk => hk.2)) : p := h
/-! ### sleuthlaw44_best: function 16 -/
mutual
def sleuthlaw44_best.l0 : Nat → List Int → Int → Int → Bool → Int → List Int → Int → Option (List Int × Int)
 | 0, _, _, _, _, _, _, _ => none
 | k + 1, x0, x1, x2, x8, x9, x354000, x354001 => if 0 ≤ (wrap64 ((x0.length : Int) - 1)) then (if x9 < (shl .i64 1 (wrap64 ((x0.length : Int) - 1))) then ((sleuthlaw44_cutsOf.f k x9 (x0.length : Int)).bind fun t354 => (if x2 ≥ 0 then (sleuthlaw44_best.j1 k x0 x1 x2 x8 x9 t354 ((t354.length : Int) != x2) x354000 x354001) else (sleuthlaw44_best.j1 k x0 x1 x2 x8 x9 t354 false x354000 x354001))) else (some (x354000, x354001))) else (none)
def sleuthlaw44_best.j1 : Nat → List Int → Int → Int → Bool → Int → List Int → Bool → List Int → Int → Option (List Int × Int)
 | 0, _, _, _, _, _, _, _, _, _ => none
 | k + 1, x0, x1, x2, x8, x9, x10, x32, x354000, x354001 => if x32 = true then (sleuthlaw44_best.l0 k x0 x1 x2 x8 (wrap64 (x9 + 1)) x354000 x354001) else ((sleuthlaw44_total.f k x0 x1 x10).bind fun bt357 => (if x8 = true then (if bt357.1 < x354001 then (sleuthlaw44_best.l0 k x0 x1 x2 true (wrap64 (x9 + 1)) x10 bt357.1) else (if bt357.1 = x354001 then (if (x10.length : Int) < (x354000.length : Int) then (sleuthlaw44_best.l0 k x0 x1 x2 true (wrap64 (x9 + 1)) x10 bt357.1) else (if (x10.length : Int) = (x354000.length : Int) then ((sleuthlaw44_less.f k x10 x354000).bind fun t359 => (if t359 = true then (sleuthlaw44_best.l0 k x0 x1 x2 true (wrap64 (x9 + 1)) x10 bt357.1) else (sleuthlaw44_best.l0 k x0 x1 x2 x8 (wrap64 (x9 + 1)) x354000 x354001))) else (sleuthlaw44_best.l0 k x0 x1 x2 x8 (wrap64 (x9 + 1)) x354000 x354001))) else (sleuthlaw44_best.l0 k x0 x1 x2 x8 (wrap64 (x9 + 1)) x354000 x354001))) else (sleuthlaw44_best.l0 k x0 x1 x2 true (wrap64 (x9 + 1)) x10 bt357.1)))
end
def sleuthlaw44_best.f (k : Nat) (l0 : List Int) (a1 : Int) (a2 : Int) : Option (List Int × Int) := sleuthlaw44_best.l0 k l0 a1 a2 false 0 ([] : List Int) 0
theorem sleuthlaw44_best.mono_l : ∀ k, (∀ y0 y1 y2 y3 y4 y5 y6, LeO (sleuthlaw44_best.l0 k y0 y1 y2 y3 y4 y5 y6) (sleuthlaw44_best.l0 (k + 1) y0 y1 y2 y3 y4 y5 y6)) ∧ (∀ y0 y1 y2 y3 y4 y5 y6 y7 y8, LeO (sleuthlaw44_best.j1 k y0 y1 y2 y3 y4 y5 y6 y7 y8) (sleuthlaw44_best.j1 (k + 1) y0 y1 y2 y3 y4 y5 y6 y7 y8))
 | 0 => ⟨fun _ _ _ _ _ _ _ r h => by simp [sleuthlaw44_best.l0] at h, fun _ _ _ _ _ _ _ _ _ r h => by simp [sleuthlaw44_best.j1] at h⟩
 | k + 1 => by
  obtain ⟨ih0, ih1⟩ := sleuthlaw44_best.mono_l k
  refine ⟨?_, ?_⟩
  ·intro y0 y1 y2 y3 y4 y5 y6
   unfold sleuthlaw44_best.l0
   repeat' first
   | (with_reducible exact ih0 _ _ _ _ _ _ _)
   | (with_reducible exact ih1 _ _ _ _ _ _ _ _ _)
   | (with_reducible exact sleuthlaw44_cutsOf.mono _ _ _)
   | (with_reducible exact sleuthlaw44_less.mono _ _ _)
   | (with_reducible exact sleuthlaw44_total.mono _ _ _ _)
   | (with_reducible exact LeO.refl _)
   | (with_reducible exact LeO.none _)
   | (with_reducible refine LeO.ite ?_ ?_)
   | (with_reducible refine LeO.bind ?_ (fun _ => ?_))
   | exact ih0 _ _ _ _ _ _ _
   | exact ih1 _ _ _ _ _ _ _ _ _
   | exact sleuthlaw44_cutsOf.mono _ _ _
   | exact sleuthlaw44_less.mono _ _ _
   | exact sleuthlaw44_total.mono _ _ _ _
   | exact LeO.none _
   | refine LeO.ite ?_ ?_
   | refine LeO.bind ?_ (fun _ => ?_)
  ·intro y0 y1 y2 y3 y4 y5 y6 y7 y8
   unfold sleuthlaw44_best.j1
   repeat' first
   | (with_reducible exact ih0 _ _ _ _ _ _ _)
   | (with_reducible exact ih1 _ _ _ _ _ _ _ _ _)
   | (with_reducible exact sleuthlaw44_cutsOf.mono _ _ _)
   | (with_reducible exact sleuthlaw44_less.mono _ _ _)
   | (with_reducible exact sleuthlaw44_total.mono _ _ _ _)
   | (with_reducible exact LeO.refl _)
   | (with_reducible exact LeO.none _)
   | (with_reducible refine LeO.ite ?_ ?_)
   | (with_reducible refine LeO.bind ?_ (fun _ => ?_))
   | exact ih0 _ _ _ _ _ _ _
   | exact ih1 _ _ _ _ _ _ _ _ _
   | exact sleuthlaw44_cutsOf.mono _ _ _
   | exact sleuthlaw44_less.mono _ _ _
   | exact sleuthlaw44_total.mono _ _ _ _
   | exact LeO.none _
   | refine LeO.ite ?_ ?_
   | refine LeO.bind ?_ (fun _ => ?_)
theorem sleuthlaw44_best.mono : ∀ a0 a1 a2 k, LeO (sleuthlaw44_best.f k a0 a1 a2) (sleuthlaw44_best.f (k + 1) a0 a1 a2) := by
 intro a0 a1 a2 k
 obtain ⟨ih0, ih1⟩ := sleuthlaw44_best.mono_l k
 unfold sleuthlaw44_best.f
 repeat' first
   | (with_reducible exact ih0 _ _ _ _ _ _ _)
   | (with_reducible exact ih1 _ _ _ _ _ _ _ _ _)
   | (with_reducible exact sleuthlaw44_cutsOf.mono _ _ _)
   | (with_reducible exact sleuthlaw44_less.mono _ _ _)
   | (with_reducible exact sleuthlaw44_total.mono _ _ _ _)
   | (with_reducible exact LeO.refl _)
   | (with_reducible exact LeO.none _)
   | (with_reducible refine LeO.ite ?_ ?_)
   | (with_reducible refine LeO.bind ?_ (fun _ => ?_))
   | exact ih0 _ _ _ _ _ _ _
   | exact ih1 _ _ _ _ _ _ _ _ _
   | exact sleuthlaw44_cutsOf.mono _ _ _
   | exact sleuthlaw44_less.mono _ _ _
   | exact sleuthlaw44_total.mono _ _ _ _
   | exact LeO.none _
   | refine LeO.ite ?_ ?_
   | refine LeO.bind ?_ (fun _ => ?_)
set_option maxHeartbeats 8000000 in
set_option maxRecDepth 100000 in
theorem sleuthlaw44_best.calls (k : Nat) (A0 : Option Addr) (c0 : Nat) (l0 : List Int) (a1 : Int) (a2 : Int) (r1 : List Int) (r2 : Int) (w : World) (hr0 : Kd.C (Kd.int .i64) w A0 l0.length l0) (hc0 : l0.length ≤ c0) (h : sleuthlaw44_best.f k l0 a1 a2 = some (r1, r2)) :
  Calls Try.prog 16 #[.slice A0 l0.length c0, .int .i64 a1, .int .i64 a2] w fun e w' => ∃ v0_ : Value, e = .returned (.agg #[v0_, .int .i64 r2]) ∧ Kd.R (Kd.int .i64) 3 w' w.heap.size (fun _ => True) v0_ r1 ∧ Below w.heap.size w w' := by
 have hu27 := Try.underlying27
 have HR0 := Aside0.mk hr0
 have HC0 := Aside0.mk hc0
 clear hr0 hc0
 have HB := Aside0.mk (Below.refl w.heap.size w)
 have H : (sleuthlaw44_best.l0 k l0 a1 a2 false 0 ([] : List Int) 0) = some (r1, r2) := h
 clear h
 have H' := Aside0.mk H
 clear H
 go_enter Try.func16, Try.ntmps16
 go_wp2_with (first | ((with_reducible refine gate_dst (N := 6) rfl ?_); (try (refine gate_guard (by rfl) ?_; dsimp only)); refine box_event ?hg (N := 6) ?hd (cs := #[.slice none 0 0, .int .i64 0]) (t := 27) ?hr ?_; (case hd => rfl); (case hg => rfl); (case hr => first | (go_simp; done) | (go_simp; rfl)); intro gb352 hg w4 hbox hb; have n0_ := Aside0.mk (below_step qy2_12 hb); have n1_ := Aside0.mk (hbox); have n2_ := Aside0.mk ((by rw [hg]; exact (below_size qy2_12) : w.heap.size ≤ gb352)); have n3_ := Aside0.mk ((by rw [hg]; exact (below_size qy2_12) : w.heap.size ≤ gb352)); clear HB; have HB := n0_; have BK352 := n1_; have GW352 := n2_; have GE352 := n3_; clear n0_ n1_ n2_ n3_; clear hb hbox hg) | ((with_reducible refine gate_dst (N := 7) rfl ?_); (try (refine gate_guard (by rfl) ?_; dsimp only)); refine box_event ?hg (N := 7) ?hd (cs := #[.slice none 0 0, .int .i64 0]) (t := 27) ?hr ?_; (case hd => rfl); (case hg => rfl); (case hr => first | (go_simp; done) | (go_simp; rfl)); intro gb353 hg w5 hbox hb; have n0_ := Aside0.mk (blk_below (g := gb352) (o := .cells #[.slice none 0 0, .int .i64 0] 27 (0, 0)) qy2_1 hb); have n1_ := Aside0.mk (below_step qy2_11 hb); have n2_ := Aside0.mk (hbox); have n3_ := Aside0.mk ((by rw [hg]; exact (below_size qy2_11) : w.heap.size ≤ gb353)); have n4_ := Aside0.mk ((by rw [hg]; exact (below_size qy2_11) : w.heap.size ≤ gb353)); have n5_ := Aside0.mk ((by rw [hg]; exact Nat.ne_of_lt (blk_lt (g := gb352) (o := .cells #[.slice none 0 0, .int .i64 0] 27 (0, 0)) qy2_1) : gb352 ≠ gb353)); have n6_ := Aside0.mk ((by rw [hg]; exact Nat.ne_of_gt (blk_lt (g := gb352) (o := .cells #[.slice none 0 0, .int .i64 0] 27 (0, 0)) qy2_1) : gb353 ≠ gb352)); clear BK352; clear HB; have BK352 := n0_; have HB := n1_; have BK353 := n2_; have GW353 := n3_; have GE353 := n4_; have NB352_353 := n5_; have NB353_352 := n6_; clear n0_ n1_ n2_ n3_ n4_ n5_ n6_; clear hb hbox hg))
 go_loopg [8, 9] k (fun kq v8 v9 w' => ∃ (x8_1 : Bool) (x9_1 : Int) (x354000_1 : List Int) (x354001_1 : Int) (u354000 : Value), v8 = .bool x8_1 ∧ v9 = .int .i64 x9_1 ∧ Aside0 (sleuthlaw44_best.l0 kq l0 a1 a2 x8_1 x9_1 x354000_1 x354001_1 = some (r1, r2)) ∧ Aside0 (kq ≤ k) ∧ Aside0 (Kd.R (Kd.int .i64) 3 w' w.heap.size (fun _ => True) u354000 x354000_1) ∧ Aside0 (w'.heap[gb352]? = some (.cells #[(.slice none 0 0), .int .i64 0] 27 (0, 0))) ∧ Aside0 (w'.heap[gb353]? = some (.cells #[u354000, .int .i64 x354001_1] 27 (0, 0))) ∧ Aside0 (Below w.heap.size w w'))
 case atStart => exact ⟨(false), (0), (([] : List Int)), (0), (.slice none 0 0), qy2_8, qy2_8, H', ⟨Nat.le_refl _⟩, ⟨by first | exact Kd.R_nil _ _ _ _ _ | exact Kd.N_nil _ _ _ _ _ | exact Kd.V_nil _ _ _ _ _ | exact Kd.Q_nil _ _ _ _ _ | exact Kd.S_nil _ _ _ _ _⟩, ⟨qy2_1⟩, ⟨qy2_2⟩, ⟨qy2_0⟩⟩
 clear H'
 try clear c1
 try clear p2
 obtain ⟨x8_1, x9_1, x354000_1, x354001_1, u354000, rfl, rfl, HA, HK1, HO_354000, BK352, BK353, HB⟩ := hrel
 cases gk with
 | zero => exact absurd HA.out (by simp [sleuthlaw44_best.l0])
 | succ k1 =>
  have H := HA.out
  clear HA
  simp only [sleuthlaw44_best.l0] at H
  obtain ⟨ji6, hji6⟩ : ∃ j_ : Int, (wrap64 ((l0.length : Int) - 1)) = j_ := ⟨_, rfl⟩
  replace H : (if 0 ≤ (ji6) then (if x9_1 < (shl .i64 1 (ji6)) then ((sleuthlaw44_cutsOf.f k1 x9_1 (l0.length : Int)).bind fun t354 => (if a2 ≥ 0 then (sleuthlaw44_best.j1 k1 l0 a1 a2 x8_1 x9_1 t354 ((t354.length : Int) != a2) x354000_1 x354001_1) else (sleuthlaw44_best.j1 k1 l0 a1 a2 x8_1 x9_1 t354 false x354000_1 x354001_1))) else (some (x354000_1, x354001_1))) else (none)) = some (r1, r2) := by first | (rw [hji6] at H; exact H) | (simp only [hji6] at H ⊢; exact H)
  have hji6w : (IntKind.i64.wrap ((l0.length : Int) - 1)) = ji6 := (i64_w _).trans hji6
  by_cases c7 : 0 ≤ (ji6)
  rotate_left
  ·rw [if_neg c7] at H
   exact absurd H (by simp)
  rw [if_pos c7] at H
  have c7b0 := eq_true c7
  have c7b1 : decide (0 ≤ (ji6)) = true := decide_eq_true c7
  clear c7
  obtain ⟨ji8, hji8⟩ : ∃ j_ : Int, (shl .i64 1 (ji6)) = j_ := ⟨_, rfl⟩
  replace H : (if x9_1 < (ji8) then ((sleuthlaw44_cutsOf.f k1 x9_1 (l0.length : Int)).bind fun t354 => (if a2 ≥ 0 then (sleuthlaw44_best.j1 k1 l0 a1 a2 x8_1 x9_1 t354 ((t354.length : Int) != a2) x354000_1 x354001_1) else (sleuthlaw44_best.j1 k1 l0 a1 a2 x8_1 x9_1 t354 false x354000_1 x354001_1))) else (some (x354000_1, x354001_1))) = some (r1, r2) := by first | (rw [hji8] at H; exact H) | (simp only [hji8] at H ⊢; exact H)
  have hji8_ : (IntKind.i64.wrap (1 * 2 ^ min (ji6).toNat 64)) = ji8 := hji8
  have hji8z : (ji6) ≤ 64 → (IntKind.i64.wrap (1 * 2 ^ (ji6).toNat)) = ji8 := shl_small hji8
  have hji8u : (IntKind.i64.wrap (2 ^ min (ji6).toNat 64)) = ji8 := by have h_ := hji8_; rw [Int.one_mul] at h_; exact h_
  have hji8v : (ji6) ≤ 64 → (IntKind.i64.wrap (2 ^ (ji6).toNat)) = ji8 := fun hle_ => by have h_ := hji8z hle_; rw [Int.one_mul] at h_; exact h_
  have hji8y : (wrap64 (1 * 2 ^ min (ji6).toNat 64)) = ji8 := (i64_w _).symm.trans hji8_
  have hji8x : (ji6) ≤ 64 → (wrap64 (1 * 2 ^ (ji6).toNat)) = ji8 := fun h_ => (i64_w _).symm.trans (hji8z h_)
  by_cases c9 : x9_1 < (ji8)
  rotate_left
  ·rw [if_neg c9] at H
   have c9b0 : decide (x9_1 < (ji8)) = false := decide_eq_false c9
   clear c9
   simp only [Option.some.injEq, Prod.mk.injEq] at H
   obtain ⟨rfl, rfl⟩ := H
   have hnb57 := NB353_352.out
   have hnc57 := NB352_353.out
   have hcz58_0 : wr.cell? ⟨gb353, 0, none⟩ = some (u354000) := (blk_cell BK353.out 0).trans rfl
   have hcz58_1 : wr.cell? ⟨gb353, 1, none⟩ = some (.int .i64 x354001_1) := (blk_cell BK353.out 1).trans rfl
   have hfz58_0 := blk_frozen BK353.out 0
   have hfz58_1 := blk_frozen BK353.out 1
   obtain ⟨Ao59, co59, eo59⟩ := Kd.R_slice HO_354000.out
   subst eo59
   have hcz60_0 : wr.cell? ⟨gb352, 0, none⟩ = some (.slice none 0 0) := (blk_cell BK352.out 0).trans rfl
   have hcz60_1 : wr.cell? ⟨gb352, 1, none⟩ = some (.int .i64 0) := (blk_cell BK352.out 1).trans rfl
   have hfz60_0 := blk_frozen BK352.out 0
   have hfz60_1 := blk_frozen BK352.out 1
   go_wp2
   refine bodyPost_ret (results_cell_row rfl _ _ gb352 27 #[.slice Ao59 x354000_1.length co59, .int .i64 x354001_1] (0, 0) _ rfl (by (with_reducible repeat (first | refine blk_drewN ?_ _ | refine blk_drew ?_ | refine blk_alloc ?_ _)); refine blk_put (cs := #[.slice Ao59 x354000_1.length co59, .int .i64 0]) ?_ 1 _ rfl; (with_reducible repeat (first | refine blk_drewN ?_ _ | refine blk_drew ?_ | refine blk_alloc ?_ _)); refine blk_put (cs := #[.slice none 0 0, .int .i64 0]) ?_ 0 _ rfl; (with_reducible repeat (first | refine blk_drewN ?_ _ | refine blk_drew ?_ | refine blk_alloc ?_ _)); exact BK352.out) Try.underlying27 rfl (by kernel_rfl)) rfl ?_
   exact ⟨_, by first | rfl | (simp [errW_none, errW_some] <;> rfl) | (simp only [← hji6, ← hji8]; first | rfl | (simp [errW_none, errW_some] <;> rfl)) | (simp [*, errW_none, errW_some] <;> rfl), by (with_reducible repeat (first | apply Kd.R_alloc | apply Kd.R_drewN | apply Kd.R_drew)); exact Kd.R_mono (Kd.R_far (p := ⟨gb352, 1, none⟩) (Kd.R_far (p := ⟨gb352, 0, none⟩) (Kd.R_types HO_354000.out BK352.out (by decide)) (fun _ hk => hk.2) (.slice Ao59 x354000_1.length co59)) (fun _ hk => hk.2) (.int .i64 x354001_1)) (fun _ hk => trivial), qy2_0⟩
  rw [if_pos c9] at H
  have c9b0 : decide (x9_1 < (ji8)) = true := decide_eq_true c9
  clear c9
  replace H := Option.bind_eq_some_iff.mp H
  obtain ⟨t354, A100, H⟩ := H
  replace H : (if a2 ≥ 0 then (sleuthlaw44_best.j1 k1 l0 a1 a2 x8_1 x9_1 t354 ((t354.length : Int) != a2) x354000_1 x354001_1) else (sleuthlaw44_best.j1 k1 l0 a1 a2 x8_1 x9_1 t354 false x354000_1 x354001_1)) = some (r1, r2) := H
  have A10 := Aside0.mk A100
  clear A100
  have HC11 := Aside0.mk H
  clear H
  go_upto_region 7 with (first | ((with_reducible refine gate_callee (f := 24) rfl ?_); refine goesL_ (some 24) rfl rfl Try.func24 (by kernel_rfl) rfl #[.int .i64 x9_1, .int .i64 (l0.length : Int)] rfl qy2_5 ?_; (with_reducible refine (sleuthlaw44_cutsOf.calls k1 x9_1 (l0.length : Int) t354 _ A10.out).mono ?_); rintro e w12 ⟨v355, rfl, ho0, hb⟩; refine ⟨_, rfl, ?_⟩; have n0_ := Aside0.mk (Kd.R_elder' qy2_6 (Kd.R_base ho0) hb); have n1_ := Aside0.mk (Kd.R_lower (Kd.R_new' ho0 (Kd.R_lt qy2_6)) (below_size qy2_0)); have n2_ := Aside0.mk (blk_below (g := gb352) (o := .cells #[.slice none 0 0, .int .i64 0] 27 (0, 0)) qy2_1 hb); have n3_ := Aside0.mk (blk_below (g := gb353) (o := .cells #[u354000, .int .i64 x354001_1] 27 (0, 0)) qy2_2 hb); have n4_ := Aside0.mk (below_step qy2_0 hb); clear HO_354000; clear BK352; clear BK353; clear HB; have HO_354000 := n0_; have HO356 := n1_; have BK352 := n2_; have BK353 := n3_; have HB := n4_; clear n0_ n1_ n2_ n3_ n4_; (try clear hb); (try clear hb2); (try clear hk); (try clear hi); (try clear ho0)))
  (try simp only [Act.put, List.setIfInBounds_toArray, List.set_cons_zero, List.set_cons_succ])
  go_cut [32] (fun v32 wc => ∃ (kq : Nat) (x32_10 : Bool), v32 = .bool x32_10 ∧ Aside0 (sleuthlaw44_best.j1 kq l0 a1 a2 x8_1 x9_1 t354 x32_10 x354000_1 x354001_1 = some (r1, r2)) ∧ Aside0 (kq ≤ k1) ∧ Aside0 (Kd.R (Kd.int .i64) 3 wc w.heap.size (fun k_ => some k_ ≠ (u354000 : Value).ownBlock) v355 t354) ∧ Aside0 (Kd.R (Kd.int .i64) 3 wc w.heap.size (fun k_ => some k_ ≠ (v355 : Value).ownBlock) u354000 x354000_1) ∧ Aside0 (wc.heap[gb352]? = some (.cells #[(.slice none 0 0), .int .i64 0] 27 (0, 0))) ∧ Aside0 (wc.heap[gb353]? = some (.cells #[u354000, .int .i64 x354001_1] 27 (0, 0))) ∧ Aside0 (Below w.heap.size w wc))
  case first =>
   have H := HC11.out
   clear HC11
   by_cases c13 : a2 ≥ 0
   rotate_left
   ·rw [if_neg c13] at H
    have c13b0 : decide (0 ≤ a2) = false := decide_eq_false c13
    clear c13
    (first | rw [c13b0] | (simp only [i64_w, i32_w]; rw [c13b0]) | skip)
    have H' := Aside0.mk H
    clear H
    go_wp2
    go_meet
    case rel => exact ⟨_, (false), qy2_8, H', ⟨by have := HK1.out; first | omega | exact Nat.le_refl _⟩, ⟨qy2_17⟩, ⟨qy2_16⟩, ⟨qy2_1⟩, ⟨qy2_2⟩, ⟨qy2_0⟩⟩
   rw [if_pos c13] at H
   have c13b0 : decide (0 ≤ a2) = true := decide_eq_true c13
   clear c13
   (first | rw [c13b0] | (simp only [i64_w, i32_w]; rw [c13b0]) | skip)
   have H' := Aside0.mk H
   clear H
   obtain ⟨Ao14, co14, eo14⟩ := Kd.R_slice HO356.out
   subst eo14
   go_wp2
   go_meet
   case rel => exact ⟨_, (((t354.length : Int) != a2)), qy2_8, H', ⟨by have := HK1.out; first | omega | exact Nat.le_refl _⟩, ⟨qy2_17⟩, ⟨qy2_16⟩, ⟨qy2_1⟩, ⟨qy2_2⟩, ⟨qy2_0⟩⟩
  clear HC11
  try clear c1
  try clear c2
  try clear p2
  try clear p6
  try clear c7
  try clear c7b0
  try clear c7b1
  try clear c9
  try clear c9b0
  try clear c13
  try clear c13b0
  try clear p2
  obtain ⟨kq, x32_10, rfl, HA, HJ10, HO_10, HO_354000, BK352, BK353, HB⟩ := hcut
  cases kq with
  | zero => exact absurd HA.out (by simp [sleuthlaw44_best.j1])
  | succ kj10 =>
   have H := HA.out
   clear HA
   simp only [sleuthlaw44_best.j1] at H
   by_cases c15 : x32_10 = true
   ·subst c15
    have H1 : (sleuthlaw44_best.l0 kj10 l0 a1 a2 x8_1 (wrap64 (x9_1 + 1)) x354000_1 x354001_1) = some (r1, r2) := by rw [if_pos rfl] at H; exact H
    clear H
    have H := H1
    clear H1
    have H' := Aside0.mk H
    clear H
    go_wp2
    go_roundg kj10
    case measure => have := HK1.out; have := HJ10.out; omega
    case rel => exact ⟨(x8_1), (wrap64 (x9_1 + 1)), (x354000_1), (x354001_1), (u354000), qy2_8, qy2_8, H', ⟨qy2_13⟩, ⟨qy2_10⟩, ⟨qy2_1⟩, ⟨qy2_2⟩, ⟨qy2_0⟩⟩
   replace c15 := Bool.eq_false_iff.mpr c15
   subst c15
   have H1 : ((sleuthlaw44_total.f kj10 l0 a1 t354).bind fun bt357 => (if x8_1 = true then (if bt357.1 < x354001_1 then (sleuthlaw44_best.l0 kj10 l0 a1 a2 true (wrap64 (x9_1 + 1)) t354 bt357.1) else (if bt357.1 = x354001_1 then (if (t354.length : Int) < (x354000_1.length : Int) then (sleuthlaw44_best.l0 kj10 l0 a1 a2 true (wrap64 (x9_1 + 1)) t354 bt357.1) else (if (t354.length : Int) = (x354000_1.length : Int) then ((sleuthlaw44_less.f kj10 t354 x354000_1).bind fun t359 => (if t359 = true then (sleuthlaw44_best.l0 kj10 l0 a1 a2 true (wrap64 (x9_1 + 1)) t354 bt357.1) else (sleuthlaw44_best.l0 kj10 l0 a1 a2 x8_1 (wrap64 (x9_1 + 1)) x354000_1 x354001_1))) else (sleuthlaw44_best.l0 kj10 l0 a1 a2 x8_1 (wrap64 (x9_1 + 1)) x354000_1 x354001_1))) else (sleuthlaw44_best.l0 kj10 l0 a1 a2 x8_1 (wrap64 (x9_1 + 1)) x354000_1 x354001_1))) else (sleuthlaw44_best.l0 kj10 l0 a1 a2 true (wrap64 (x9_1 + 1)) t354 bt357.1))) = some (r1, r2) := by rw [if_neg (show ¬ (false = true) by decide)] at H; exact H
   clear H
   have H := H1
   clear H1
   replace H := Option.bind_eq_some_iff.mp H
   obtain ⟨⟨t357, t358⟩, A160, H⟩ := H
   replace H : (if x8_1 = true then (if t357 < x354001_1 then (sleuthlaw44_best.l0 kj10 l0 a1 a2 true (wrap64 (x9_1 + 1)) t354 t357) else (if t357 = x354001_1 then (if (t354.length : Int) < (x354000_1.length : Int) then (sleuthlaw44_best.l0 kj10 l0 a1 a2 true (wrap64 (x9_1 + 1)) t354 t357) else (if (t354.length : Int) = (x354000_1.length : Int) then ((sleuthlaw44_less.f kj10 t354 x354000_1).bind fun t359 => (if t359 = true then (sleuthlaw44_best.l0 kj10 l0 a1 a2 true (wrap64 (x9_1 + 1)) t354 t357) else (sleuthlaw44_best.l0 kj10 l0 a1 a2 x8_1 (wrap64 (x9_1 + 1)) x354000_1 x354001_1))) else (sleuthlaw44_best.l0 kj10 l0 a1 a2 x8_1 (wrap64 (x9_1 + 1)) x354000_1 x354001_1))) else (sleuthlaw44_best.l0 kj10 l0 a1 a2 x8_1 (wrap64 (x9_1 + 1)) x354000_1 x354001_1))) else (sleuthlaw44_best.l0 kj10 l0 a1 a2 true (wrap64 (x9_1 + 1)) t354 t357)) = some (r1, r2) := H
   have A16 := Aside0.mk A160
   clear A160
   by_cases c17 : x8_1 = true
   rotate_left
   ·replace c17 := Bool.eq_false_iff.mpr c17
    subst c17
    have H1 : (sleuthlaw44_best.l0 kj10 l0 a1 a2 true (wrap64 (x9_1 + 1)) t354 t357) = some (r1, r2) := by rw [if_neg (show ¬ (false = true) by decide)] at H; exact H
    clear H
    have H := H1
    clear H1
    have H' := Aside0.mk H
    clear H
    obtain ⟨Ao53, co53, eo53⟩ := Kd.R_slice HO_10.out
    subst eo53
    go_wp2_with (first | ((with_reducible refine gate_callee (f := 21) rfl ?_); refine goesL_ (some 37) rfl rfl Try.func21 (by kernel_rfl) rfl #[.slice A0 l0.length c0, .int .i64 a1, .slice Ao53 t354.length co53] rfl qy2_5 ?_; (with_reducible refine (sleuthlaw44_total.calls kj10 _ _ l0 a1 _ _ t354 t357 t358 _ ?side1 ?side2 ?side3 ?side4 A16.out).mono ?_); (case side1 => exact qy2_7); (case side2 => exact HC0.out); (case side3 => exact qy2_3); (case side4 => exact qy2_14); rintro e w54 ⟨rfl, hb⟩; refine ⟨_, rfl, ?_⟩; have n0_ := Aside0.mk (Kd.R_below qy2_9 hb); have n1_ := Aside0.mk (Kd.R_below qy2_6 hb); have n2_ := Aside0.mk (blk_below (g := gb352) (o := .cells #[.slice none 0 0, .int .i64 0] 27 (0, 0)) qy2_1 hb); have n3_ := Aside0.mk (blk_below (g := gb353) (o := .cells #[u354000, .int .i64 x354001_1] 27 (0, 0)) qy2_2 hb); have n4_ := Aside0.mk (below_step qy2_0 hb); clear HO_10; clear HO_354000; clear BK352; clear BK353; clear HB; have HO_10 := n0_; have HO_354000 := n1_; have BK352 := n2_; have BK353 := n3_; have HB := n4_; clear n0_ n1_ n2_ n3_ n4_; (try clear hb); (try clear hb2); (try clear hk); (try clear hi); have hnb55 := NB353_352.out; have hnc55 := NB352_353.out; have hcz56_0 : w54.cell? ⟨gb353, 0, none⟩ = some (u354000) := (blk_cell BK353.out 0).trans rfl; have hcz56_1 : w54.cell? ⟨gb353, 1, none⟩ = some (.int .i64 x354001_1) := (blk_cell BK353.out 1).trans rfl; have hfz56_0 := blk_frozen BK353.out 0; have hfz56_1 := blk_frozen BK353.out 1))
    go_roundg kj10
    case measure => have := HK1.out; have := HJ10.out; omega
    case rel => exact ⟨(true), (wrap64 (x9_1 + 1)), (t354), (t357), (.slice Ao53 t354.length co53), qy2_8, qy2_8, H', ⟨qy2_13⟩, ⟨by (with_reducible repeat (first | apply Kd.R_alloc | apply Kd.R_drewN | apply Kd.R_drew)); exact Kd.R_mono (Kd.R_far (p := ⟨gb353, 1, none⟩) (Kd.R_far (p := ⟨gb353, 0, none⟩) (Kd.R_types HO_10.out BK353.out (by decide)) (fun _ hk => hk.2) (.slice Ao53 t354.length co53)) (fun _ hk => hk.2) (.int .i64 t357)) (fun _ hk => trivial)⟩, ⟨qy2_4⟩, ⟨by (with_reducible repeat (first | refine blk_drewN ?_ _ | refine blk_drew ?_ | refine blk_alloc ?_ _)); refine blk_put (cs := #[.slice Ao53 t354.length co53, .int .i64 x354001_1]) ?_ 1 _ rfl; (with_reducible repeat (first | refine blk_drewN ?_ _ | refine blk_drew ?_ | refine blk_alloc ?_ _)); refine blk_put (cs := #[u354000, .int .i64 x354001_1]) ?_ 0 _ rfl; (with_reducible repeat (first | refine blk_drewN ?_ _ | refine blk_drew ?_ | refine blk_alloc ?_ _)); exact BK353.out⟩, ⟨qy2_0⟩⟩
   subst c17
   have H1 : (if t357 < x354001_1 then (sleuthlaw44_best.l0 kj10 l0 a1 a2 true (wrap64 (x9_1 + 1)) t354 t357) else (if t357 = x354001_1 then (if (t354.length : Int) < (x354000_1.length : Int) then (sleuthlaw44_best.l0 kj10 l0 a1 a2 true (wrap64 (x9_1 + 1)) t354 t357) else (if (t354.length : Int) = (x354000_1.length : Int) then ((sleuthlaw44_less.f kj10 t354 x354000_1).bind fun t359 => (if t359 = true then (sleuthlaw44_best.l0 kj10 l0 a1 a2 true (wrap64 (x9_1 + 1)) t354 t357) else (sleuthlaw44_best.l0 kj10 l0 a1 a2 true (wrap64 (x9_1 + 1)) x354000_1 x354001_1))) else (sleuthlaw44_best.l0 kj10 l0 a1 a2 true (wrap64 (x9_1 + 1)) x354000_1 x354001_1))) else (sleuthlaw44_best.l0 kj10 l0 a1 a2 true (wrap64 (x9_1 + 1)) x354000_1 x354001_1))) = some (r1, r2) := by rw [if_pos rfl] at H; exact H
   clear H
   have H := H1
   clear H1
   by_cases c18 : t357 < x354001_1
   ·rw [if_pos c18] at H
    have c18b0 : decide (t357 < x354001_1) = true := decide_eq_true c18
    clear c18
    have H' := Aside0.mk H
    clear H
    obtain ⟨Ao19, co19, eo19⟩ := Kd.R_slice HO_10.out
    subst eo19
    go_wp2_with (first | ((with_reducible refine gate_callee (f := 21) rfl ?_); refine goesL_ (some 37) rfl rfl Try.func21 (by kernel_rfl) rfl #[.slice A0 l0.length c0, .int .i64 a1, .slice Ao19 t354.length co19] rfl qy2_5 ?_; (with_reducible refine (sleuthlaw44_total.calls kj10 _ _ l0 a1 _ _ t354 t357 t358 _ ?side1 ?side2 ?side3 ?side4 A16.out).mono ?_); (case side1 => exact qy2_7); (case side2 => exact HC0.out); (case side3 => exact qy2_3); (case side4 => exact qy2_14); rintro e w20 ⟨rfl, hb⟩; refine ⟨_, rfl, ?_⟩; have n0_ := Aside0.mk (Kd.R_below qy2_9 hb); have n1_ := Aside0.mk (Kd.R_below qy2_6 hb); have n2_ := Aside0.mk (blk_below (g := gb352) (o := .cells #[.slice none 0 0, .int .i64 0] 27 (0, 0)) qy2_1 hb); have n3_ := Aside0.mk (blk_below (g := gb353) (o := .cells #[u354000, .int .i64 x354001_1] 27 (0, 0)) qy2_2 hb); have n4_ := Aside0.mk (below_step qy2_0 hb); clear HO_10; clear HO_354000; clear BK352; clear BK353; clear HB; have HO_10 := n0_; have HO_354000 := n1_; have BK352 := n2_; have BK353 := n3_; have HB := n4_; clear n0_ n1_ n2_ n3_ n4_; (try clear hb); (try clear hb2); (try clear hk); (try clear hi); have hnb21 := NB353_352.out; have hnc21 := NB352_353.out; have hcz22_0 : w20.cell? ⟨gb353, 0, none⟩ = some (u354000) := (blk_cell BK353.out 0).trans rfl; have hcz22_1 : w20.cell? ⟨gb353, 1, none⟩ = some (.int .i64 x354001_1) := (blk_cell BK353.out 1).trans rfl; have hfz22_0 := blk_frozen BK353.out 0; have hfz22_1 := blk_frozen BK353.out 1))
    go_roundg kj10
    case measure => have := HK1.out; have := HJ10.out; omega
    case rel => exact ⟨(true), (wrap64 (x9_1 + 1)), (t354), (t357), (.slice Ao19 t354.length co19), qy2_8, qy2_8, H', ⟨qy2_13⟩, ⟨by (with_reducible repeat (first | apply Kd.R_alloc | apply Kd.R_drewN | apply Kd.R_drew)); exact Kd.R_mono (Kd.R_far (p := ⟨gb353, 1, none⟩) (Kd.R_far (p := ⟨gb353, 0, none⟩) (Kd.R_types HO_10.out BK353.out (by decide)) (fun _ hk => hk.2) (.slice Ao19 t354.length co19)) (fun _ hk => hk.2) (.int .i64 t357)) (fun _ hk => trivial)⟩, ⟨qy2_4⟩, ⟨by (with_reducible repeat (first | refine blk_drewN ?_ _ | refine blk_drew ?_ | refine blk_alloc ?_ _)); refine blk_put (cs := #[.slice Ao19 t354.length co19, .int .i64 x354001_1]) ?_ 1 _ rfl; (with_reducible repeat (first | refine blk_drewN ?_ _ | refine blk_drew ?_ | refine blk_alloc ?_ _)); refine blk_put (cs := #[u354000, .int .i64 x354001_1]) ?_ 0 _ rfl; (with_reducible repeat (first | refine blk_drewN ?_ _ | refine blk_drew ?_ | refine blk_alloc ?_ _)); exact BK353.out⟩, ⟨qy2_0⟩⟩
   rw [if_neg c18] at H
   have c18b0 : decide (t357 < x354001_1) = false := decide_eq_false c18
   clear c18
   by_cases c23 : t357 = x354001_1
   rotate_left
   ·rw [if_neg c23] at H
    have c23b0 : (t357 == x354001_1) = false := beq_eq_false_iff_ne.mpr c23
    have c23b1 : (t357 != x354001_1) = true := bne_iff_ne.mpr c23
    have H' := Aside0.mk H
    clear H
    obtain ⟨Ao49, co49, eo49⟩ := Kd.R_slice HO_10.out
    subst eo49
    go_wp2_with (first | ((with_reducible refine gate_callee (f := 21) rfl ?_); refine goesL_ (some 37) rfl rfl Try.func21 (by kernel_rfl) rfl #[.slice A0 l0.length c0, .int .i64 a1, .slice Ao49 t354.length co49] rfl qy2_5 ?_; (with_reducible refine (sleuthlaw44_total.calls kj10 _ _ l0 a1 _ _ t354 t357 t358 _ ?side1 ?side2 ?side3 ?side4 A16.out).mono ?_); (case side1 => exact qy2_7); (case side2 => exact HC0.out); (case side3 => exact qy2_3); (case side4 => exact qy2_14); rintro e w50 ⟨rfl, hb⟩; refine ⟨_, rfl, ?_⟩; have n0_ := Aside0.mk (Kd.R_below qy2_9 hb); have n1_ := Aside0.mk (Kd.R_below qy2_6 hb); have n2_ := Aside0.mk (blk_below (g := gb352) (o := .cells #[.slice none 0 0, .int .i64 0] 27 (0, 0)) qy2_1 hb); have n3_ := Aside0.mk (blk_below (g := gb353) (o := .cells #[u354000, .int .i64 x354001_1] 27 (0, 0)) qy2_2 hb); have n4_ := Aside0.mk (below_step qy2_0 hb); clear HO_10; clear HO_354000; clear BK352; clear BK353; clear HB; have HO_10 := n0_; have HO_354000 := n1_; have BK352 := n2_; have BK353 := n3_; have HB := n4_; clear n0_ n1_ n2_ n3_ n4_; (try clear hb); (try clear hb2); (try clear hk); (try clear hi); have hnb51 := NB353_352.out; have hnc51 := NB352_353.out; have hcz52_0 : w50.cell? ⟨gb353, 0, none⟩ = some (u354000) := (blk_cell BK353.out 0).trans rfl; have hcz52_1 : w50.cell? ⟨gb353, 1, none⟩ = some (.int .i64 x354001_1) := (blk_cell BK353.out 1).trans rfl; have hfz52_0 := blk_frozen BK353.out 0; have hfz52_1 := blk_frozen BK353.out 1))
    go_roundg kj10
    case measure => have := HK1.out; have := HJ10.out; omega
    case rel => exact ⟨(true), (wrap64 (x9_1 + 1)), (x354000_1), (x354001_1), (u354000), qy2_8, qy2_8, H', ⟨qy2_13⟩, ⟨qy2_10⟩, ⟨qy2_1⟩, ⟨qy2_2⟩, ⟨qy2_0⟩⟩
   rw [if_pos c23] at H
   have c23b0 : (t357 == x354001_1) = true := beq_iff_eq.mpr c23
   have c23b1 : (t357 != x354001_1) = false := bne_eq_false_iff_eq.mpr c23
   clear c23
   by_cases c24 : (t354.length : Int) < (x354000_1.length : Int)
   ·rw [if_pos c24] at H
    have c24b0 : decide ((t354.length : Int) < (x354000_1.length : Int)) = true := decide_eq_true c24
    have c24b1 : decide (t354.length < x354000_1.length) = true := decide_eq_true (Int.ofNat_lt.mp c24)
    clear c24
    have H' := Aside0.mk H
    clear H
    obtain ⟨Ao25, co25, eo25⟩ := Kd.R_slice HO_10.out
    subst eo25
    go_wp2_with (first | ((with_reducible refine gate_callee (f := 21) rfl ?_); refine goesL_ (some 37) rfl rfl Try.func21 (by kernel_rfl) rfl #[.slice A0 l0.length c0, .int .i64 a1, .slice Ao25 t354.length co25] rfl qy2_5 ?_; (with_reducible refine (sleuthlaw44_total.calls kj10 _ _ l0 a1 _ _ t354 t357 t358 _ ?side1 ?side2 ?side3 ?side4 A16.out).mono ?_); (case side1 => exact qy2_7); (case side2 => exact HC0.out); (case side3 => exact qy2_3); (case side4 => exact qy2_14); rintro e w26 ⟨rfl, hb⟩; refine ⟨_, rfl, ?_⟩; have n0_ := Aside0.mk (Kd.R_below qy2_9 hb); have n1_ := Aside0.mk (Kd.R_below qy2_6 hb); have n2_ := Aside0.mk (blk_below (g := gb352) (o := .cells #[.slice none 0 0, .int .i64 0] 27 (0, 0)) qy2_1 hb); have n3_ := Aside0.mk (blk_below (g := gb353) (o := .cells #[u354000, .int .i64 x354001_1] 27 (0, 0)) qy2_2 hb); have n4_ := Aside0.mk (below_step qy2_0 hb); clear HO_10; clear HO_354000; clear BK352; clear BK353; clear HB; have HO_10 := n0_; have HO_354000 := n1_; have BK352 := n2_; have BK353 := n3_; have HB := n4_; clear n0_ n1_ n2_ n3_ n4_; (try clear hb); (try clear hb2); (try clear hk); (try clear hi); have hnb27 := NB353_352.out; have hnc27 := NB352_353.out; have hcz28_0 : w26.cell? ⟨gb353, 0, none⟩ = some (u354000) := (blk_cell BK353.out 0).trans rfl; have hcz28_1 : w26.cell? ⟨gb353, 1, none⟩ = some (.int .i64 x354001_1) := (blk_cell BK353.out 1).trans rfl; have hfz28_0 := blk_frozen BK353.out 0; have hfz28_1 := blk_frozen BK353.out 1; obtain ⟨Ao29, co29, eo29⟩ := Kd.R_slice HO_354000.out; subst eo29))
    go_roundg kj10
    case measure => have := HK1.out; have := HJ10.out; omega
    case rel => exact ⟨(true), (wrap64 (x9_1 + 1)), (t354), (t357), (.slice Ao25 t354.length co25), qy2_8, qy2_8, H', ⟨qy2_13⟩, ⟨by (with_reducible repeat (first | apply Kd.R_alloc | apply Kd.R_drewN | apply Kd.R_drew)); exact Kd.R_mono (Kd.R_far (p := ⟨gb353, 1, none⟩) (Kd.R_far (p := ⟨gb353, 0, none⟩) (Kd.R_types HO_10.out BK353.out (by decide)) (fun _ hk => hk.2) (.slice Ao25 t354.length co25)) (fun _ hk => hk.2) (.int .i64 t357)) (fun _ hk => trivial)⟩, ⟨qy2_4⟩, ⟨by (with_reducible repeat (first | refine blk_drewN ?_ _ | refine blk_drew ?_ | refine blk_alloc ?_ _)); refine blk_put (cs := #[.slice Ao25 t354.length co25, .int .i64 x354001_1]) ?_ 1 _ rfl; (with_reducible repeat (first | refine blk_drewN ?_ _ | refine blk_drew ?_ | refine blk_alloc ?_ _)); refine blk_put (cs := #[.slice Ao29 x354000_1.length co29, .int .i64 x354001_1]) ?_ 0 _ rfl; (with_reducible repeat (first | refine blk_drewN ?_ _ | refine blk_drew ?_ | refine blk_alloc ?_ _)); exact BK353.out⟩, ⟨qy2_0⟩⟩
   rw [if_neg c24] at H
   have c24b0 : decide ((t354.length : Int) < (x354000_1.length : Int)) = false := decide_eq_false c24
   have c24b1 : decide (t354.length < x354000_1.length) = false := decide_eq_false (fun h => c24 (Int.ofNat_lt.mpr h))
   clear c24
   by_cases c30 : (t354.length : Int) = (x354000_1.length : Int)
   rotate_left
   ·rw [if_neg c30] at H
    have c30b0 : ((t354.length : Int) == (x354000_1.length : Int)) = false := beq_eq_false_iff_ne.mpr c30
    have c30b1 : ((t354.length : Int) != (x354000_1.length : Int)) = true := bne_iff_ne.mpr c30
    have c30b2 : (t354.length == x354000_1.length) = false := by first | simpa using c30 | (simp at c30 ⊢; omega)
    have H' := Aside0.mk H
    clear H
    obtain ⟨Ao44, co44, eo44⟩ := Kd.R_slice HO_10.out
    subst eo44
    go_wp2_with (first | ((with_reducible refine gate_callee (f := 21) rfl ?_); refine goesL_ (some 37) rfl rfl Try.func21 (by kernel_rfl) rfl #[.slice A0 l0.length c0, .int .i64 a1, .slice Ao44 t354.length co44] rfl qy2_5 ?_; (with_reducible refine (sleuthlaw44_total.calls kj10 _ _ l0 a1 _ _ t354 t357 t358 _ ?side1 ?side2 ?side3 ?side4 A16.out).mono ?_); (case side1 => exact qy2_7); (case side2 => exact HC0.out); (case side3 => exact qy2_3); (case side4 => exact qy2_14); rintro e w45 ⟨rfl, hb⟩; refine ⟨_, rfl, ?_⟩; have n0_ := Aside0.mk (Kd.R_below qy2_9 hb); have n1_ := Aside0.mk (Kd.R_below qy2_6 hb); have n2_ := Aside0.mk (blk_below (g := gb352) (o := .cells #[.slice none 0 0, .int .i64 0] 27 (0, 0)) qy2_1 hb); have n3_ := Aside0.mk (blk_below (g := gb353) (o := .cells #[u354000, .int .i64 x354001_1] 27 (0, 0)) qy2_2 hb); have n4_ := Aside0.mk (below_step qy2_0 hb); clear HO_10; clear HO_354000; clear BK352; clear BK353; clear HB; have HO_10 := n0_; have HO_354000 := n1_; have BK352 := n2_; have BK353 := n3_; have HB := n4_; clear n0_ n1_ n2_ n3_ n4_; (try clear hb); (try clear hb2); (try clear hk); (try clear hi); have hnb46 := NB353_352.out; have hnc46 := NB352_353.out; have hcz47_0 : w45.cell? ⟨gb353, 0, none⟩ = some (u354000) := (blk_cell BK353.out 0).trans rfl; have hcz47_1 : w45.cell? ⟨gb353, 1, none⟩ = some (.int .i64 x354001_1) := (blk_cell BK353.out 1).trans rfl; have hfz47_0 := blk_frozen BK353.out 0; have hfz47_1 := blk_frozen BK353.out 1; obtain ⟨Ao48, co48, eo48⟩ := Kd.R_slice HO_354000.out; subst eo48))
    go_roundg kj10
    case measure => have := HK1.out; have := HJ10.out; omega
    case rel => exact ⟨(true), (wrap64 (x9_1 + 1)), (x354000_1), (x354001_1), (.slice Ao48 x354000_1.length co48), qy2_8, qy2_8, H', ⟨qy2_13⟩, ⟨qy2_10⟩, ⟨qy2_1⟩, ⟨qy2_2⟩, ⟨qy2_0⟩⟩
   rw [if_pos c30] at H
   have c30b0 : ((t354.length : Int) == (x354000_1.length : Int)) = true := beq_iff_eq.mpr c30
   have c30b1 : ((t354.length : Int) != (x354000_1.length : Int)) = false := bne_eq_false_iff_eq.mpr c30
   have c30b2 : (t354.length == x354000_1.length) = true := by first | simpa using c30 | (simp at c30 ⊢; omega)
   clear c30
   replace H := Option.bind_eq_some_iff.mp H
   obtain ⟨t359, A310, H⟩ := H
   replace H : (if t359 = true then (sleuthlaw44_best.l0 kj10 l0 a1 a2 true (wrap64 (x9_1 + 1)) t354 t357) else (sleuthlaw44_best.l0 kj10 l0 a1 a2 true (wrap64 (x9_1 + 1)) x354000_1 x354001_1)) = some (r1, r2) := H
   have A31 := Aside0.mk A310
   clear A310
   by_cases c32 : t359 = true
   rotate_left
   ·replace c32 := Bool.eq_false_iff.mpr c32
    subst c32
    have H1 : (sleuthlaw44_best.l0 kj10 l0 a1 a2 true (wrap64 (x9_1 + 1)) x354000_1 x354001_1) = some (r1, r2) := by rw [if_neg (show ¬ (false = true) by decide)] at H; exact H
    clear H
    have H := H1
    clear H1
    have H' := Aside0.mk H
    clear H
    obtain ⟨Ao39, co39, eo39⟩ := Kd.R_slice HO_10.out
    subst eo39
    go_wp2_with (first | ((with_reducible refine gate_callee (f := 21) rfl ?_); refine goesL_ (some 37) rfl rfl Try.func21 (by kernel_rfl) rfl #[.slice A0 l0.length c0, .int .i64 a1, .slice Ao39 t354.length co39] rfl qy2_5 ?_; (with_reducible refine (sleuthlaw44_total.calls kj10 _ _ l0 a1 _ _ t354 t357 t358 _ ?side1 ?side2 ?side3 ?side4 A16.out).mono ?_); (case side1 => exact qy2_7); (case side2 => exact HC0.out); (case side3 => exact qy2_3); (case side4 => exact qy2_14); rintro e w40 ⟨rfl, hb⟩; refine ⟨_, rfl, ?_⟩; have n0_ := Aside0.mk (Kd.R_below qy2_9 hb); have n1_ := Aside0.mk (Kd.R_below qy2_6 hb); have n2_ := Aside0.mk (blk_below (g := gb352) (o := .cells #[.slice none 0 0, .int .i64 0] 27 (0, 0)) qy2_1 hb); have n3_ := Aside0.mk (blk_below (g := gb353) (o := .cells #[u354000, .int .i64 x354001_1] 27 (0, 0)) qy2_2 hb); have n4_ := Aside0.mk (below_step qy2_0 hb); clear HO_10; clear HO_354000; clear BK352; clear BK353; clear HB; have HO_10 := n0_; have HO_354000 := n1_; have BK352 := n2_; have BK353 := n3_; have HB := n4_; clear n0_ n1_ n2_ n3_ n4_; (try clear hb); (try clear hb2); (try clear hk); (try clear hi); have hnb41 := NB353_352.out; have hnc41 := NB352_353.out; have hcz42_0 : w40.cell? ⟨gb353, 0, none⟩ = some (u354000) := (blk_cell BK353.out 0).trans rfl; have hcz42_1 : w40.cell? ⟨gb353, 1, none⟩ = some (.int .i64 x354001_1) := (blk_cell BK353.out 1).trans rfl; have hfz42_0 := blk_frozen BK353.out 0; have hfz42_1 := blk_frozen BK353.out 1; obtain ⟨Ao43, co43, eo43⟩ := Kd.R_slice HO_354000.out; subst eo43) | (go_at_call 39; (with_reducible refine (sleuthlaw44_less.calls kj10 _ _ t354 _ _ x354000_1 false _ ?side1 ?side2 ?side3 ?side4 A31.out).mono ?_); (case side1 => exact qy2_3); (case side2 => exact qy2_14); (case side3 => exact qy2_15); (case side4 => exact (Kd.R_reads' HO_354000.out).2.1); rintro e w' ⟨rfl, ⟨nd, rfl⟩⟩))
    go_roundg kj10
    case measure => have := HK1.out; have := HJ10.out; omega
    case rel => exact ⟨(true), (wrap64 (x9_1 + 1)), (x354000_1), (x354001_1), (.slice Ao43 x354000_1.length co43), qy2_8, qy2_8, H', ⟨qy2_13⟩, ⟨qy2_10⟩, ⟨qy2_1⟩, ⟨qy2_2⟩, ⟨qy2_0⟩⟩
   subst c32
   have H1 : (sleuthlaw44_best.l0 kj10 l0 a1 a2 true (wrap64 (x9_1 + 1)) t354 t357) = some (r1, r2) := by rw [if_pos rfl] at H; exact H
   clear H
   have H := H1
   clear H1
   have H' := Aside0.mk H
   clear H
   obtain ⟨Ao33, co33, eo33⟩ := Kd.R_slice HO_10.out
   subst eo33
   go_wp2_with (first | ((with_reducible refine gate_callee (f := 21) rfl ?_); refine goesL_ (some 37) rfl rfl Try.func21 (by kernel_rfl) rfl #[.slice A0 l0.length c0, .int .i64 a1, .slice Ao33 t354.length co33] rfl qy2_5 ?_; (with_reducible refine (sleuthlaw44_total.calls kj10 _ _ l0 a1 _ _ t354 t357 t358 _ ?side1 ?side2 ?side3 ?side4 A16.out).mono ?_); (case side1 => exact qy2_7); (case side2 => exact HC0.out); (case side3 => exact qy2_3); (case side4 => exact qy2_14); rintro e w34 ⟨rfl, hb⟩; refine ⟨_, rfl, ?_⟩; have n0_ := Aside0.mk (Kd.R_below qy2_9 hb); have n1_ := Aside0.mk (Kd.R_below qy2_6 hb); have n2_ := Aside0.mk (blk_below (g := gb352) (o := .cells #[.slice none 0 0, .int .i64 0] 27 (0, 0)) qy2_1 hb); have n3_ := Aside0.mk (blk_below (g := gb353) (o := .cells #[u354000, .int .i64 x354001_1] 27 (0, 0)) qy2_2 hb); have n4_ := Aside0.mk (below_step qy2_0 hb); clear HO_10; clear HO_354000; clear BK352; clear BK353; clear HB; have HO_10 := n0_; have HO_354000 := n1_; have BK352 := n2_; have BK353 := n3_; have HB := n4_; clear n0_ n1_ n2_ n3_ n4_; (try clear hb); (try clear hb2); (try clear hk); (try clear hi); have hnb35 := NB353_352.out; have hnc35 := NB352_353.out; have hcz36_0 : w34.cell? ⟨gb353, 0, none⟩ = some (u354000) := (blk_cell BK353.out 0).trans rfl; have hcz36_1 : w34.cell? ⟨gb353, 1, none⟩ = some (.int .i64 x354001_1) := (blk_cell BK353.out 1).trans rfl; have hfz36_0 := blk_frozen BK353.out 0; have hfz36_1 := blk_frozen BK353.out 1; obtain ⟨Ao37, co37, eo37⟩ := Kd.R_slice HO_354000.out; subst eo37) | (go_at_call 39; (with_reducible refine (sleuthlaw44_less.calls kj10 _ _ t354 _ _ x354000_1 true _ ?side1 ?side2 ?side3 ?side4 A31.out).mono ?_); (case side1 => exact qy2_3); (case side2 => exact qy2_14); (case side3 => exact qy2_15); (case side4 => exact (Kd.R_reads' HO_354000.out).2.1); rintro e w' ⟨rfl, ⟨nd, rfl⟩⟩; (try (rw [drewN_self w34]; generalize hq_ : World.drewN w34 _ = w34; have n0_ : Aside0 (Kd.R (Kd.int .i64) 3 w34 w.heap.size (fun k_ => some k_ ≠ (.slice Ao37 x354000_1.length co37 : Value).ownBlock) (.slice Ao33 t354.length co33) t354) := ⟨by rw [← hq_]; exact qy2_9⟩; have n1_ : Aside0 (Kd.R (Kd.int .i64) 3 w34 w.heap.size (fun k_ => some k_ ≠ (.slice Ao33 t354.length co33 : Value).ownBlock) (.slice Ao37 x354000_1.length co37) x354000_1) := ⟨by rw [← hq_]; exact qy2_6⟩; have n2_ : Aside0 (w34.heap[gb352]? = some (.cells #[.slice none 0 0, .int .i64 0] 27 (0, 0))) := ⟨by rw [← hq_]; exact qy2_1⟩; have n3_ : Aside0 (w34.heap[gb353]? = some (.cells #[.slice Ao37 x354000_1.length co37, .int .i64 x354001_1] 27 (0, 0))) := ⟨by rw [← hq_]; exact qy2_2⟩; have n4_ : Aside0 (Below w.heap.size w w34) := ⟨by rw [← hq_]; exact qy2_0⟩; clear HO_10 HO_354000 BK352 BK353 HB hq_; have HO_10 := n0_; have HO_354000 := n1_; have BK352 := n2_; have BK353 := n3_; have HB := n4_; clear n0_ n1_ n2_ n3_ n4_; have hcz38_0 : w34.cell? ⟨gb353, 0, none⟩ = some (.slice Ao37 x354000_1.length co37) := (blk_cell BK353.out 0).trans rfl; have hfz38_0 := blk_frozen BK353.out 0; have hcz38_1 : w34.cell? ⟨gb353, 1, none⟩ = some (.int .i64 x354001_1) := (blk_cell BK353.out 1).trans rfl; have hfz38_1 := blk_frozen BK353.out 1))))
   go_roundg kj10
   case measure => have := HK1.out; have := HJ10.out; omega
   case rel => exact ⟨(true), (wrap64 (x9_1 + 1)), (t354), (t357), (.slice Ao33 t354.length co33), qy2_8, qy2_8, H', ⟨qy2_13⟩, ⟨by (with_reducible repeat (first | apply Kd.R_alloc | apply Kd.R_drewN | apply Kd.R_drew)); exact Kd.R_mono (Kd.R_far (p := ⟨gb353, 1, none⟩) (Kd.R_far (p := ⟨gb353, 0, none⟩) (Kd.R_types HO_10.out BK353.out (by decide)) (fun _ hk => hk.2) (.slice Ao33 t354.length co33)) (fun _ hk => hk.2) (.int .i64 t357)) (fun _ hk => trivial)⟩, ⟨qy2_4⟩, ⟨by (with_reducible repeat (first | refine blk_drewN ?_ _ | refine blk_drew ?_ | refine blk_alloc ?_ _)); refine blk_put (cs := #[.slice Ao33 t354.length co33, .int .i64 x354001_1]) ?_ 1 _ rfl; (with_reducible repeat (first | refine blk_drewN ?_ _ | refine blk_drew ?_ | refine blk_alloc ?_ _)); refine blk_put (cs := #[.slice Ao37 x354000_1.length co37, .int .i64 x354001_1]) ?_ 0 _ rfl; (with_reducible repeat (first | refine blk_drewN ?_ _ | refine blk_drew ?_ | refine blk_alloc ?_ _)); exact BK353.out⟩, ⟨qy2_0⟩⟩
end Go.Proofs.Ytiimanpmidnffaa.Q
