/- estimate.By, walked: a fake print of it (maps as rows), turned to the program's own operations on maps. -/
import Derived.Test.YthdifdnjodbdnaaLi
namespace Go.Proofs.Ythdifdnjodbdnaa.Q
open Go.RowKit Go.Proofs.YthdifdnjodbdnaaW.PrintWords Go.Proofs.YthdifdnjodbdnaaW.PrintLast Go.Proofs.YthdifdnjodbdnaaW.PrintMore
attribute [local go_sem] max2_int min2_int max_two min_two max_three min_three max_four min_four   -- for this text's walks alone
set_option linter.unusedVariables false
set_option linter.unusedSimpArgs false

abbrev T1879 : Bool := true
abbrev F1879 : Bool := false
theorem byq_0 {p : Prop} (h : p := by repeat (first | (with_reducible first | exact HB.out | apply below_alloc | apply pw_below_drewN | apply below_drew1 | refine below_set ?_ GE114.out | refine below_set ?_ GE119.out | refine below_set ?_ GE123.out | refine below_set ?_ GE125.out) | exact HB.out)) : p := h
theorem byq_1 {p : Prop} (h : p := by (with_reducible repeat (first | refine blk_drewN ?_ _ | refine blk_drew ?_ | refine blk_alloc ?_ _)); exact BK114.out) : p := h
theorem byq_2 {p : Prop} (h : p := by (with_reducible repeat (first | refine blk_drewN ?_ _ | refine blk_drew ?_ | refine blk_alloc ?_ _)); exact BK119.out) : p := h
theorem byq_3 {p : Prop} (h : p := by (with_reducible repeat (first | refine blk_drewN ?_ _ | refine blk_drew ?_ | refine blk_alloc ?_ _)); exact BK123.out) : p := h
theorem byq_4 {p : Prop} (h : p := by (with_reducible repeat (first | apply Mr.R_alloc | apply Mr.R_drewN | apply Mr.R_drew)); exact HO_8.out) : p := h
theorem byq_5 {p : Prop} (h : p := by (with_reducible repeat (first | apply Mr.R_alloc | apply Mr.R_drewN | apply Mr.R_drew)); exact HO_11.out) : p := h
theorem byq_6 {p : Prop} (h : p := by repeat (first | (with_reducible first | exact HB.out | apply below_alloc | apply pw_below_drewN | apply below_drew1 | refine below_set ?_ GE114.out | refine below_set ?_ GE119.out | refine below_set ?_ GE123.out) | exact HB.out)) : p := h
theorem byq_7 {p : Prop} (h : p := by (with_reducible repeat (first | refine blk_drewN ?_ _ | refine blk_drew ?_ | refine blk_alloc ?_ _)); exact BK125.out) : p := h
theorem byq_8 {p : Prop} (h : p := by repeat (first | (with_reducible first | exact HB.out | apply below_alloc | apply pw_below_drewN | apply below_drew1) | exact HB.out)) : p := h
theorem byq_9 {p : Prop} (h : p := by repeat (first | (with_reducible first | exact HB.out | apply below_alloc | apply pw_below_drewN | apply below_drew1 | refine below_set ?_ GE114.out) | exact HB.out)) : p := h
theorem byq_10 {p : Prop} (h : p := by repeat (first | (with_reducible first | exact HB.out | apply below_alloc | apply pw_below_drewN | apply below_drew1 | refine below_set ?_ GE114.out | refine below_set ?_ GE119.out) | exact HB.out)) : p := h
theorem byq_11 {p : Prop} (h : p := by (try simp only [List.map_toArray, List.map_cons, List.map_nil]); first | done | rfl | (simp only [List.length_drop, List.length_take]; rfl)) : p := h
theorem byq_12 {p : Prop} (h : p := by (with_reducible repeat (first | apply Mr.R_alloc | apply Mr.R_drewN | apply Mr.R_drew)); exact (Mr.R_mono (Mr.R_far (p := ⟨gb114, 2, none⟩) (Mr.R_far (p := ⟨gb114, 1, none⟩) (Mr.R_far (p := ⟨gb114, 0, none⟩) (Mr.R_types HO_8.out BK114.out (by decide)) (fun _ hk => hk.2) (.int .i64 ((rd_T53 l0 x26_1).f0))) (fun _ hk => hk.2) (.int .i64 ((rd_T53 l0 x26_1).f1))) (fun _ hk => hk.2) (.slice A113_2 ((rd_T53 l0 x26_1).f2).length c113_2)) (fun _ h_ => h_.1))) : p := h
theorem byq_13 {p : Prop} (h : p := by first | rfl | (simp; done) | (simp [*]; done)) : p := h
theorem byq_14 {p : Prop} (h : p := by repeat (first | exact (Kd.C_below HR118_12.out HB.out) | (with_reducible refine Kd.C_alloc ?_ _) | (with_reducible refine Kd.C_drewN ?_ _) | (with_reducible refine Kd.C_drew ?_))) : p := h
theorem byq_15 {p : Prop} (h : p := by repeat (first | exact (Kd.C_below HR118_13.out HB.out) | (with_reducible refine Kd.C_alloc ?_ _) | (with_reducible refine Kd.C_drewN ?_ _) | (with_reducible refine Kd.C_drew ?_))) : p := h
theorem byq_16 {p : Prop} (h : p := by first | (with_reducible assumption) | assumption) : p := h
/-! ### estimate_By: function 14 -/
mutual
def estimate_By.l0 : Nat → Int → List (S41) → List (S53) → Int → Int → Option ((List (S41)) × Int)
 | 0, _, _, _, _, _ => none
 | k + 1, x6, x8, x24, x25, x26 => if x26 < x25 then (if 0 ≤ x26 then (if x26 < (x24.length : Int) then ((By_made.f).bind fun t115 => (estimate_By.l1 k x6 x8 t115 x24 x25 x26 ((rd_T53 x24 x26).f2) (((rd_T53 x24 x26).f2).length : Int) 0 ((rd_T53 x24 x26).f0) ((rd_T53 x24 x26).f1) ((rd_T53 x24 x26).f2))) else (none)) else (none)) else ((estimate_lines.f x8).bind fun t110 => (some (t110, 0)))
def estimate_By.l1 : Nat → Int → List (S41) → List (S41) → List (S53) → Int → Int → List (S58) → Int → Int → Int → Int → List (S58) → Option ((List (S41)) × Int)
 | 0, _, _, _, _, _, _, _, _, _, _, _, _ => none
 | k + 1, x6, x8, x11, x24, x25, x26, x32, x33, x34, x115000, x115001, x115002 => if x34 < x33 then (if 0 ≤ x34 then (if x34 < (x32.length : Int) then ((By_key.f ((rd_T58 x32 x34).f0) ((rd_T58 x32 x34).f1) ((rd_T58 x32 x34).f2) ((rd_T58 x32 x34).f3) ((rd_T58 x32 x34).f4) ((rd_T58 x32 x34).f5) ((rd_T58 x32 x34).f6) ((rd_T58 x32 x34).f7) ((rd_T58 x32 x34).f8) ((rd_T58 x32 x34).f9) ((rd_T58 x32 x34).f10) ((rd_T58 x32 x34).f11) ((rd_T58 x32 x34).f12) ((rd_T58 x32 x34).f13) x6).bind fun bt120 => ((span_Duration.f ((rd_T58 x32 x34).f0) ((rd_T58 x32 x34).f1) ((rd_T58 x32 x34).f2) ((rd_T58 x32 x34).f3) ((rd_T58 x32 x34).f4) ((rd_T58 x32 x34).f5) ((rd_T58 x32 x34).f6) ((rd_T58 x32 x34).f7) ((rd_T58 x32 x34).f8) ((rd_T58 x32 x34).f9) ((rd_T58 x32 x34).f10) ((rd_T58 x32 x34).f11) ((rd_T58 x32 x34).f12) ((rd_T58 x32 x34).f13)).bind fun t124 => (if (rd_T58 x32 x34).f11 = true then (estimate_By.j2 k x6 x8 x11 x24 x25 x26 x32 x33 x34 x115000 x115001 x115002 bt120.1 bt120.2.1 bt120.2.2 x115001 x115001 (wrap64 (x115001 * t124)) 0) else (estimate_By.j2 k x6 x8 x11 x24 x25 x26 x32 x33 x34 x115000 x115001 x115002 bt120.1 bt120.2.1 bt120.2.2 x115001 0 (wrap64 (x115001 * t124)) 0)))) else (none)) else (none)) else (estimate_By.l0 k x6 x8 x24 x25 (wrap64 (x26 + 1)))
def estimate_By.j2 : Nat → Int → List (S41) → List (S41) → List (S53) → Int → Int → List (S58) → Int → Int → Int → Int → List (S58) → ByteArray → ByteArray → ByteArray → Int → Int → Int → Int → Option ((List (S41)) × Int)
 | 0, _, _, _, _, _, _, _, _, _, _, _, _, _, _, _, _, _, _, _ => none
 | k + 1, x6, x8, x11, x24, x25, x26, x32, x33, x34, x115000, x115001, x115002, x124000, x124001, x124002, x126000, x126001, x126002, x126003 => (By_find.f x11 x124000 x124001 x124002).bind fun t126 => (if t126 = true then ((By_get.f x8 x124000 x124001 x124002).bind fun bt127 => ((estimate_Total_plus.f bt127.1 bt127.2.1 bt127.2.2.1 bt127.2.2.2 x126000 x126001 x126002 x126003).bind fun bt131 => ((By_put.f x8 x124000 x124001 x124002 bt131.1 bt131.2.1 bt131.2.2.1 bt131.2.2.2).bind fun t135 => (estimate_By.l1 k x6 t135 x11 x24 x25 x26 x32 x33 (wrap64 (x34 + 1)) x115000 x115001 x115002)))) else ((By_add.f x11 x124000 x124001 x124002).bind fun t136 => ((By_get.f x8 x124000 x124001 x124002).bind fun bt137 => ((estimate_Total_plus.f bt137.1 bt137.2.1 bt137.2.2.1 bt137.2.2.2 x126000 x126001 x126002 x115001).bind fun bt141 => ((By_put.f x8 x124000 x124001 x124002 bt141.1 bt141.2.1 bt141.2.2.1 bt141.2.2.2).bind fun t145 => (estimate_By.l1 k x6 t145 t136 x24 x25 x26 x32 x33 (wrap64 (x34 + 1)) x115000 x115001 x115002))))))
end
def estimate_By.f (k : Nat) (l0 : List (S53)) (a1 : Int) : Option ((List (S41)) × Int) := (By_grouping.f a1).bind fun bt105 => (if bt105.2 = true then ((By_made.f).bind fun t107 => (estimate_By.l0 k bt105.1 t107 l0 (l0.length : Int) 0)) else (some (([] : List (S41)), 12)))
theorem estimate_By.mono_l : ∀ k, (∀ y0 y1 y2 y3 y4, LeO (estimate_By.l0 k y0 y1 y2 y3 y4) (estimate_By.l0 (k + 1) y0 y1 y2 y3 y4)) ∧ (∀ y0 y1 y2 y3 y4 y5 y6 y7 y8 y9 y10 y11, LeO (estimate_By.l1 k y0 y1 y2 y3 y4 y5 y6 y7 y8 y9 y10 y11) (estimate_By.l1 (k + 1) y0 y1 y2 y3 y4 y5 y6 y7 y8 y9 y10 y11)) ∧ (∀ y0 y1 y2 y3 y4 y5 y6 y7 y8 y9 y10 y11 y12 y13 y14 y15 y16 y17 y18, LeO (estimate_By.j2 k y0 y1 y2 y3 y4 y5 y6 y7 y8 y9 y10 y11 y12 y13 y14 y15 y16 y17 y18) (estimate_By.j2 (k + 1) y0 y1 y2 y3 y4 y5 y6 y7 y8 y9 y10 y11 y12 y13 y14 y15 y16 y17 y18))
 | 0 => ⟨fun _ _ _ _ _ r h => by simp [estimate_By.l0] at h, fun _ _ _ _ _ _ _ _ _ _ _ _ r h => by simp [estimate_By.l1] at h, fun _ _ _ _ _ _ _ _ _ _ _ _ _ _ _ _ _ _ _ r h => by simp [estimate_By.j2] at h⟩
 | k + 1 => by
  obtain ⟨ih0, ih1, ih2⟩ := estimate_By.mono_l k
  refine ⟨?_, ?_, ?_⟩
  ·intro y0 y1 y2 y3 y4
   unfold estimate_By.l0
   repeat' first
   | (with_reducible exact ih0 _ _ _ _ _)
   | (with_reducible exact ih1 _ _ _ _ _ _ _ _ _ _ _ _)
   | (with_reducible exact ih2 _ _ _ _ _ _ _ _ _ _ _ _ _ _ _ _ _ _ _)
   | (with_reducible exact LeO.refl _)
   | (with_reducible exact LeO.none _)
   | (with_reducible refine LeO.ite ?_ ?_)
   | (with_reducible refine LeO.bind ?_ (fun _ => ?_))
   | exact ih0 _ _ _ _ _
   | exact ih1 _ _ _ _ _ _ _ _ _ _ _ _
   | exact ih2 _ _ _ _ _ _ _ _ _ _ _ _ _ _ _ _ _ _ _
   | exact LeO.none _
   | refine LeO.ite ?_ ?_
   | refine LeO.bind ?_ (fun _ => ?_)
  ·intro y0 y1 y2 y3 y4 y5 y6 y7 y8 y9 y10 y11
   unfold estimate_By.l1
   repeat' first
   | (with_reducible exact ih0 _ _ _ _ _)
   | (with_reducible exact ih1 _ _ _ _ _ _ _ _ _ _ _ _)
   | (with_reducible exact ih2 _ _ _ _ _ _ _ _ _ _ _ _ _ _ _ _ _ _ _)
   | (with_reducible exact LeO.refl _)
   | (with_reducible exact LeO.none _)
   | (with_reducible refine LeO.ite ?_ ?_)
   | (with_reducible refine LeO.bind ?_ (fun _ => ?_))
   | exact ih0 _ _ _ _ _
   | exact ih1 _ _ _ _ _ _ _ _ _ _ _ _
   | exact ih2 _ _ _ _ _ _ _ _ _ _ _ _ _ _ _ _ _ _ _
   | exact LeO.none _
   | refine LeO.ite ?_ ?_
   | refine LeO.bind ?_ (fun _ => ?_)
  ·intro y0 y1 y2 y3 y4 y5 y6 y7 y8 y9 y10 y11 y12 y13 y14 y15 y16 y17 y18
   unfold estimate_By.j2
   repeat' first
   | (with_reducible exact ih0 _ _ _ _ _)
   | (with_reducible exact ih1 _ _ _ _ _ _ _ _ _ _ _ _)
   | (with_reducible exact ih2 _ _ _ _ _ _ _ _ _ _ _ _ _ _ _ _ _ _ _)
   | (with_reducible exact LeO.refl _)
   | (with_reducible exact LeO.none _)
   | (with_reducible refine LeO.ite ?_ ?_)
   | (with_reducible refine LeO.bind ?_ (fun _ => ?_))
   | exact ih0 _ _ _ _ _
   | exact ih1 _ _ _ _ _ _ _ _ _ _ _ _
   | exact ih2 _ _ _ _ _ _ _ _ _ _ _ _ _ _ _ _ _ _ _
   | exact LeO.none _
   | refine LeO.ite ?_ ?_
   | refine LeO.bind ?_ (fun _ => ?_)
theorem estimate_By.mono : ∀ a0 a1 k, LeO (estimate_By.f k a0 a1) (estimate_By.f (k + 1) a0 a1) := by
 intro a0 a1 k
 obtain ⟨ih0, ih1, ih2⟩ := estimate_By.mono_l k
 unfold estimate_By.f
 repeat' first
   | (with_reducible exact ih0 _ _ _ _ _)
   | (with_reducible exact ih1 _ _ _ _ _ _ _ _ _ _ _ _)
   | (with_reducible exact ih2 _ _ _ _ _ _ _ _ _ _ _ _ _ _ _ _ _ _ _)
   | (with_reducible exact LeO.refl _)
   | (with_reducible exact LeO.none _)
   | (with_reducible refine LeO.ite ?_ ?_)
   | (with_reducible refine LeO.bind ?_ (fun _ => ?_))
   | exact ih0 _ _ _ _ _
   | exact ih1 _ _ _ _ _ _ _ _ _ _ _ _
   | exact ih2 _ _ _ _ _ _ _ _ _ _ _ _ _ _ _ _ _ _ _
   | exact LeO.none _
   | refine LeO.ite ?_ ?_
   | refine LeO.bind ?_ (fun _ => ?_)
def estimate_By.T13 : Bool × List (List Nat × List Nat) := (true, [([], []), ([0], [0]), ([], []), ([2], [2]), ([], []), ([4], [4]), ([3, 5], [3, 5]), ([1, 6], [1, 6]), ([], []), ([8, 7, 5, 0, 1, 2, 3, 4, 5, 6, 7, 8], [7, 8])])
def estimate_By.B13 : List Nat := [0, 1, 0, 4, 0, 16, 60, 127, 0, 511]
theorem estimate_By.tab13 : rtab .any (opsOf Try.f14 13) = estimate_By.T13 := by kernel_rfl
theorem estimate_By.bits13 : waitsOk estimate_By.T13.2 estimate_By.B13 = true := by kernel_rfl
def estimate_By.T18 : Bool × List (List Nat × List Nat) := (true, [([], []), ([], []), ([], []), ([], []), ([2, 3], [2, 3]), ([], []), ([4, 5], [4, 5]), ([0, 1, 6, 6, 0, 1, 2, 3, 4, 5, 6], [0, 1, 6])])
def estimate_By.B18 : List Nat := [0, 0, 0, 0, 12, 0, 60, 127]
theorem estimate_By.tab18 : rtab .any (opsOf Try.f14 18) = estimate_By.T18 := by kernel_rfl
theorem estimate_By.bits18 : waitsOk estimate_By.T18.2 estimate_By.B18 = true := by kernel_rfl
set_option maxHeartbeats 8000000 in
set_option maxRecDepth 100000 in
theorem estimate_By.calls (k : Nat) (A0 : Option Addr) (c0 : Nat) (l0 : List (S53)) (a1 : Int) (r1 : List (S41)) (r2 : Int) (w : World) (hr0 : Kd.C k53 w A0 l0.length l0) (hc0 : l0.length ≤ c0) (h : estimate_By.f k l0 a1 = some (r1, r2)) :
  Calls Try.prog 14 #[.slice A0 l0.length c0, .int .i64 a1] w fun e w' => ∃ v0_ : Value, e = .returned (.tuple #[v0_, .int .i64 r2]) ∧ Kd.R k41 41 w' w.heap.size (fun _ => True) v0_ r1 ∧ Below w.heap.size w w' := by
 have hu53 := Try.underlying53
 have hu58 := Try.underlying58
 have hu39 := Try.underlying39
 have hu37 := Try.underlying37
 have HR0 := Aside0.mk hr0
 have HC0 := Aside0.mk hc0
 clear hr0 hc0
 have HB := Aside0.mk (Below.refl w.heap.size w)
 have H : ((By_grouping.f a1).bind fun bt105 => (if bt105.2 = true then ((By_made.f).bind fun t107 => (estimate_By.l0 k bt105.1 t107 l0 (l0.length : Int) 0)) else (some (([] : List (S41)), 12)))) = some (r1, r2) := h
 clear h
 replace H := Option.bind_eq_some_iff.mp H
 obtain ⟨⟨t105, t106⟩, A30, H⟩ := H
 replace H : (if t106 = true then ((By_made.f).bind fun t107 => (estimate_By.l0 k t105 t107 l0 (l0.length : Int) 0)) else (some (([] : List (S41)), 12))) = some (r1, r2) := H
 have A3 := Aside0.mk A30
 clear A30
 by_cases c4 : t106 = true
 rotate_left
 ·replace c4 := Bool.eq_false_iff.mpr c4
  subst c4
  have H1 : (some (([] : List (S41)), 12)) = some (r1, r2) := by rw [if_neg (show ¬ (false = true) by decide)] at H; exact H
  clear H
  have H := H1
  clear H1
  simp only [Option.some.injEq, Prod.mk.injEq] at H
  obtain ⟨rfl, rfl⟩ := H
  go_enter Try.func14, Try.ntmps14
  go_wp2_with (first | ((with_reducible refine gate_callee (f := 37) rfl ?_); refine goesL_ (some 18) rfl rfl Try.func37 (by kernel_rfl) rfl #[.int .i64 a1] rfl byq_11 ?_; (with_reducible refine (By_grouping.calls a1 t105 false _ A3.out).mono ?_); rintro e w' ⟨rfl, ⟨nd, rfl⟩⟩; refine ⟨_, rfl, ?_⟩))
  go_ret2
  exact ⟨_, by first | rfl | (simp [errW_none, errW_some] <;> rfl) | (simp [*, errW_none, errW_some] <;> rfl), by first | exact Kd.R_nil _ _ _ _ _ | exact Kd.N_nil _ _ _ _ _ | exact Kd.V_nil _ _ _ _ _ | exact Kd.Q_nil _ _ _ _ _ | exact Kd.S_nil _ _ _ _ _, byq_8⟩
 subst c4
 have H1 : ((By_made.f).bind fun t107 => (estimate_By.l0 k t105 t107 l0 (l0.length : Int) 0)) = some (r1, r2) := by rw [if_pos rfl] at H; exact H
 clear H
 have H := H1
 clear H1
 replace H := Option.bind_eq_some_iff.mp H
 obtain ⟨t107, A50, H⟩ := H
 replace H : (estimate_By.l0 k t105 t107 l0 (l0.length : Int) 0) = some (r1, r2) := H
 have A5 := Aside0.mk A50
 clear A50
 have H' := Aside0.mk H
 clear H
 go_enter Try.func14, Try.ntmps14
 go_wp2_with (first | ((with_reducible refine gate_callee (f := 37) rfl ?_); refine goesL_ (some 18) rfl rfl Try.func37 (by kernel_rfl) rfl #[.int .i64 a1] rfl byq_11 ?_; (with_reducible refine (By_grouping.calls a1 t105 true _ A3.out).mono ?_); rintro e w' ⟨rfl, ⟨nd, rfl⟩⟩; refine ⟨_, rfl, ?_⟩) | ((with_reducible refine gate_dst (N := 23) rfl ?_); refine Mr.make_w' Mr.mT 97 A5.out rfl rfl ?_; intro v108 w6 ho0 hb; have n0_ := Aside0.mk (Mr.R_lower ho0 (below_size byq_8)); have n1_ := Aside0.mk (below_step byq_8 hb); clear HB; have HO109 := n0_; have HB := n1_; clear n0_ n1_; (try clear hb); (try clear hb2); (try clear hk); (try clear hi); (try clear ho0)))
 go_loopg [26] k (fun kq v26 w' => ∃ (x8_1 : List (S41)) (x26_1 : Int), v26 = .int .i64 x26_1 ∧ Aside0 (estimate_By.l0 kq t105 x8_1 l0 (l0.length : Int) x26_1 = some (r1, r2)) ∧ Aside0 (kq ≤ k) ∧ Aside0 (Mr.R Mr.mT w' w.heap.size (fun _ => True) v108 x8_1) ∧ Aside0 (Below w.heap.size w w'))
 case atStart => exact ⟨(t107), (0), byq_13, H', ⟨Nat.le_refl _⟩, ⟨by (with_reducible repeat (first | apply Mr.R_alloc | apply Mr.R_drewN | apply Mr.R_drew)); exact HO109.out⟩, ⟨byq_8⟩⟩
 clear H'
 try clear c1
 try clear c2
 try clear p2
 try clear c3
 try clear c4
 obtain ⟨x8_1, x26_1, rfl, HA, HK1, HO_8, HB⟩ := hrel
 cases gk with
 | zero => exact absurd HA.out (by simp [estimate_By.l0])
 | succ k1 =>
  have H := HA.out
  clear HA
  simp only [estimate_By.l0] at H
  by_cases c7 : x26_1 < (l0.length : Int)
  rotate_left
  ·rw [if_neg c7] at H
   have c7b0 : decide (x26_1 < (l0.length : Int)) = false := decide_eq_false c7
   clear c7
   replace H := Option.bind_eq_some_iff.mp H
   obtain ⟨t110, A840, H⟩ := H
   replace H : (some (t110, 0)) = some (r1, r2) := H
   have A84 := Aside0.mk A840
   clear A840
   simp only [Option.some.injEq, Prod.mk.injEq] at H
   obtain ⟨rfl, rfl⟩ := H
   obtain ⟨bo85, eo85⟩ := Mr.R_map HO_8.out
   subst eo85
   go_wp2_with (first | ((with_reducible refine gate_callee (f := 40) rfl ?_); refine goesL_ (some 73) rfl rfl Try.func40 (by kernel_rfl) rfl #[.map (some bo85)] rfl byq_11 ?_; (with_reducible refine (estimate_lines.calls _ x8_1 t110 _ ?side1 A84.out).mono ?_); (case side1 => exact ⟨_, _, byq_4⟩); rintro e w86 ⟨v111, rfl, ho0, hb⟩; refine ⟨_, rfl, ?_⟩; have n0_ := True.intro; have n1_ := Aside0.mk (Kd.R_lower ho0 (below_size byq_8)); have n2_ := Aside0.mk (below_step byq_8 hb); clear HO_8; clear HB; have HO_8 := n0_; have HO112 := n1_; have HB := n2_; clear n0_ n1_ n2_; (try clear hb); (try clear hb2); (try clear hk); (try clear hi); (try clear ho0)))
   go_ret2
   exact ⟨_, by first | rfl | (simp [errW_none, errW_some] <;> rfl) | (simp [*, errW_none, errW_some] <;> rfl), by (with_reducible repeat (first | apply Kd.R_alloc | apply Kd.R_drewN | apply Kd.R_drew)); exact Kd.R_mono HO112.out (fun _ hk => trivial), byq_8⟩
  rw [if_pos c7] at H
  have c7b0 : decide (x26_1 < (l0.length : Int)) = true := decide_eq_true c7
  clear c7
  by_cases c8 : 0 ≤ x26_1
  rotate_left
  ·rw [if_neg c8] at H
   exact absurd H (by simp)
  rw [if_pos c8] at H
  have c8b0 : decide (0 ≤ x26_1) = true := decide_eq_true c8
  clear c8
  by_cases c9 : x26_1 < (l0.length : Int)
  rotate_left
  ·rw [if_neg c9] at H
   exact absurd H (by simp)
  rw [if_pos c9] at H
  have c9b0 : decide (x26_1 < (l0.length : Int)) = true := decide_eq_true c9
  clear c9
  replace H := Option.bind_eq_some_iff.mp H
  obtain ⟨t115, A100, H⟩ := H
  replace H : (estimate_By.l1 k1 t105 x8_1 t115 l0 (l0.length : Int) x26_1 ((rd_T53 l0 x26_1).f2) (((rd_T53 l0 x26_1).f2).length : Int) 0 ((rd_T53 l0 x26_1).f0) ((rd_T53 l0 x26_1).f1) ((rd_T53 l0 x26_1).f2)) = some (r1, r2) := H
  have A10 := Aside0.mk A100
  clear A100
  have H' := Aside0.mk H
  clear H
  have p113 : 0 ≤ (x26_1 : Int) := of_decide_eq_true byq_16
  have q113 : x26_1 < (l0.length : Int) := of_decide_eq_true byq_16
  obtain ⟨ad113, A113_2, c113_2, e113, hx113_0, hx113_1, hx113_2, hl113_2, hi113_2⟩ := at_T53 HR0.out x26_1 p113 q113
  cases e113
  replace hx113_0 := (HB.out.cell (World.block_lt_of_cell? w _ hx113_0)).trans hx113_0
  replace hx113_1 := (HB.out.cell (World.block_lt_of_cell? w _ hx113_1)).trans hx113_1
  replace hx113_2 := (HB.out.cell (World.block_lt_of_cell? w _ hx113_2)).trans hx113_2
  have HR113_2 := Aside0.mk hi113_2
  have HC113_2 := Aside0.mk hl113_2
  clear hi113_2 hl113_2
  replace p113 := eq_true p113
  replace q113 := eq_true q113
  go_wp2_with (first | ((with_reducible refine gate_dst (N := 10) rfl ?_); refine box_event ?hg (N := 10) ?hd (cs := #[.int .i64 0, .int .i64 0, .slice none 0 0]) (t := 53) ?hr ?_; (case hd => rfl); (case hg => rfl); (case hr => first | (go_simp; done) | (go_simp; rfl)); intro gb114 hg w11 hbox hb; have n0_ := Aside0.mk (Mr.R_below byq_4 hb); have n1_ := Aside0.mk (below_step byq_8 hb); have n2_ := Aside0.mk (hbox); have n3_ := Aside0.mk ((by rw [hg]; exact (below_size byq_8) : w.heap.size ≤ gb114)); have n4_ := Aside0.mk ((by rw [hg]; exact (below_size byq_8) : w.heap.size ≤ gb114)); clear HO_8; clear HB; have HO_8 := n0_; have HB := n1_; have BK114 := n2_; have GW114 := n3_; have GE114 := n4_; clear n0_ n1_ n2_ n3_ n4_; clear hb hbox hg; have hcz12_0 : w11.cell? ⟨gb114, 0, none⟩ = some (.int .i64 0) := (blk_cell BK114.out 0).trans rfl; have hcz12_1 : w11.cell? ⟨gb114, 1, none⟩ = some (.int .i64 0) := (blk_cell BK114.out 1).trans rfl; have hcz12_2 : w11.cell? ⟨gb114, 2, none⟩ = some (.slice none 0 0) := (blk_cell BK114.out 2).trans rfl; have hfz12_0 := blk_frozen BK114.out 0; have hfz12_1 := blk_frozen BK114.out 1; have hfz12_2 := blk_frozen BK114.out 2) | ((with_reducible refine gate_dst (N := 30) rfl ?_); refine Mr.make_w' Mr.mS 98 A10.out rfl rfl ?_; intro v116 w13 ho0 hb; have n0_ := Aside0.mk (Mr.R_elder' byq_12 (Mr.R_base ho0) hb); have n1_ := Aside0.mk (Mr.R_lower (Mr.R_new' ho0 (Mr.R_lt byq_12)) (below_size byq_9)); have n2_ := Aside0.mk (blk_below (g := gb114) (o := .cells #[.int .i64 ((rd_T53 l0 x26_1).f0), .int .i64 ((rd_T53 l0 x26_1).f1), .slice A113_2 ((rd_T53 l0 x26_1).f2).length c113_2] 53 (0, 0)) (by (with_reducible repeat (first | refine blk_drewN ?_ _ | refine blk_drew ?_ | refine blk_alloc ?_ _)); refine blk_put (cs := #[.int .i64 ((rd_T53 l0 x26_1).f0), .int .i64 ((rd_T53 l0 x26_1).f1), .slice none 0 0]) ?_ 2 _ rfl; (with_reducible repeat (first | refine blk_drewN ?_ _ | refine blk_drew ?_ | refine blk_alloc ?_ _)); refine blk_put (cs := #[.int .i64 ((rd_T53 l0 x26_1).f0), .int .i64 0, .slice none 0 0]) ?_ 1 _ rfl; (with_reducible repeat (first | refine blk_drewN ?_ _ | refine blk_drew ?_ | refine blk_alloc ?_ _)); refine blk_put (cs := #[.int .i64 0, .int .i64 0, .slice none 0 0]) ?_ 0 _ rfl; (with_reducible repeat (first | refine blk_drewN ?_ _ | refine blk_drew ?_ | refine blk_alloc ?_ _)); exact BK114.out) hb); have n3_ := Aside0.mk (below_step byq_9 hb); clear HO_8; clear BK114; clear HB; have HO_8 := n0_; have HO117 := n1_; have BK114 := n2_; have HB := n3_; clear n0_ n1_ n2_ n3_; (try clear hb); (try clear hb2); (try clear hk); (try clear hi); (try clear ho0); have hcz14_0 : w13.cell? ⟨gb114, 0, none⟩ = some (.int .i64 ((rd_T53 l0 x26_1).f0)) := (blk_cell BK114.out 0).trans rfl; have hcz14_1 : w13.cell? ⟨gb114, 1, none⟩ = some (.int .i64 ((rd_T53 l0 x26_1).f1)) := (blk_cell BK114.out 1).trans rfl; have hcz14_2 : w13.cell? ⟨gb114, 2, none⟩ = some (.slice A113_2 ((rd_T53 l0 x26_1).f2).length c113_2) := (blk_cell BK114.out 2).trans rfl; have hfz14_0 := blk_frozen BK114.out 0; have hfz14_1 := blk_frozen BK114.out 1; have hfz14_2 := blk_frozen BK114.out 2))
  go_loopg [34] k1 (fun kq v34 w' => ∃ (x8_2 : List (S41)) (x11_2 : List (S41)) (x34_2 : Int), v34 = .int .i64 x34_2 ∧ Aside0 (estimate_By.l1 kq t105 x8_2 x11_2 l0 (l0.length : Int) x26_1 ((rd_T53 l0 x26_1).f2) (((rd_T53 l0 x26_1).f2).length : Int) x34_2 ((rd_T53 l0 x26_1).f0) ((rd_T53 l0 x26_1).f1) ((rd_T53 l0 x26_1).f2) = some (r1, r2)) ∧ Aside0 (kq ≤ k1) ∧ Aside0 (Mr.R Mr.mT w' w.heap.size (fun k_ => some k_ ≠ Mr.mB (v116)) v108 x8_2) ∧ Aside0 (Mr.R Mr.mS w' w.heap.size (fun k_ => some k_ ≠ Mr.mB (v108)) v116 x11_2) ∧ Aside0 (w'.heap[gb114]? = some (.cells #[.int .i64 ((rd_T53 l0 x26_1).f0), .int .i64 ((rd_T53 l0 x26_1).f1), (.slice A113_2 ((rd_T53 l0 x26_1).f2).length c113_2)] 53 (0, 0))) ∧ Aside0 (Below w.heap.size w w'))
  case atStart => exact ⟨(x8_1), (t115), (0), byq_13, H', ⟨Nat.le_refl _⟩, ⟨by (with_reducible repeat (first | apply Mr.R_alloc | apply Mr.R_drewN | apply Mr.R_drew)); exact Mr.R_mono HO_8.out (fun _ hk => hk.2)⟩, ⟨by (with_reducible repeat (first | apply Mr.R_alloc | apply Mr.R_drewN | apply Mr.R_drew)); exact Mr.R_mono HO117.out (fun _ hk => hk.2)⟩, ⟨byq_1⟩, ⟨byq_9⟩⟩
  clear H'
  try clear c1
  try clear p1
  try clear q1
  try clear hx1
  try clear c2
  try clear p2
  try clear c3
  try clear c4
  try clear c7
  try clear c7b0
  try clear c8
  try clear c8b0
  try clear c9
  try clear c9b0
  try clear c11
  try clear p11
  try clear q11
  try clear hx11
  try clear c14
  try clear hcz12_0
  try clear hcz12_1
  try clear hcz12_2
  try clear hcz14_0
  try clear hcz14_1
  try clear hcz14_2
  try clear hfz12_0
  try clear hfz12_1
  try clear hfz12_2
  try clear hfz14_0
  try clear hfz14_1
  try clear hfz14_2
  try clear hx113_0
  try clear hx113_1
  try clear hx113_2
  try clear p113
  try clear p2
  try clear q113
  obtain ⟨x8_2, x11_2, x34_2, rfl, HA, HK2, HO_8, HO_11, BK114, HB⟩ := hrel
  cases gk with
  | zero => exact absurd HA.out (by simp [estimate_By.l1])
  | succ k2 =>
   have H := HA.out
   clear HA
   simp only [estimate_By.l1] at H
   by_cases c15 : x34_2 < (((rd_T53 l0 x26_1).f2).length : Int)
   rotate_left
   ·rw [if_neg c15] at H
    have c15b0 : decide (x34_2 < (((rd_T53 l0 x26_1).f2).length : Int)) = false := decide_eq_false c15
    clear c15
    have H' := Aside0.mk H
    clear H
    go_wp2
    go_roundg k2
    case measure => have := HK1.out; have := HK2.out; omega
    case rel => exact ⟨(x8_2), (wrap64 (x26_1 + 1)), byq_13, H', ⟨by have := HK1.out; have := HK2.out; omega⟩, ⟨by (with_reducible repeat (first | apply Mr.R_alloc | apply Mr.R_drewN | apply Mr.R_drew)); exact Mr.R_mono HO_8.out (fun _ hk => trivial)⟩, ⟨byq_9⟩⟩
   rw [if_pos c15] at H
   have c15b0 : decide (x34_2 < (((rd_T53 l0 x26_1).f2).length : Int)) = true := decide_eq_true c15
   clear c15
   by_cases c16 : 0 ≤ x34_2
   rotate_left
   ·rw [if_neg c16] at H
    exact absurd H (by simp)
   rw [if_pos c16] at H
   have c16b0 : decide (0 ≤ x34_2) = true := decide_eq_true c16
   clear c16
   by_cases c17 : x34_2 < (((rd_T53 l0 x26_1).f2).length : Int)
   rotate_left
   ·rw [if_neg c17] at H
    exact absurd H (by simp)
   rw [if_pos c17] at H
   have c17b0 : decide (x34_2 < (((rd_T53 l0 x26_1).f2).length : Int)) = true := decide_eq_true c17
   clear c17
   replace H := Option.bind_eq_some_iff.mp H
   obtain ⟨⟨t120, t121, t122⟩, A180, H⟩ := H
   replace H : ((span_Duration.f ((rd_T58 ((rd_T53 l0 x26_1).f2) x34_2).f0) ((rd_T58 ((rd_T53 l0 x26_1).f2) x34_2).f1) ((rd_T58 ((rd_T53 l0 x26_1).f2) x34_2).f2) ((rd_T58 ((rd_T53 l0 x26_1).f2) x34_2).f3) ((rd_T58 ((rd_T53 l0 x26_1).f2) x34_2).f4) ((rd_T58 ((rd_T53 l0 x26_1).f2) x34_2).f5) ((rd_T58 ((rd_T53 l0 x26_1).f2) x34_2).f6) ((rd_T58 ((rd_T53 l0 x26_1).f2) x34_2).f7) ((rd_T58 ((rd_T53 l0 x26_1).f2) x34_2).f8) ((rd_T58 ((rd_T53 l0 x26_1).f2) x34_2).f9) ((rd_T58 ((rd_T53 l0 x26_1).f2) x34_2).f10) ((rd_T58 ((rd_T53 l0 x26_1).f2) x34_2).f11) ((rd_T58 ((rd_T53 l0 x26_1).f2) x34_2).f12) ((rd_T58 ((rd_T53 l0 x26_1).f2) x34_2).f13)).bind fun t124 => (if (rd_T58 ((rd_T53 l0 x26_1).f2) x34_2).f11 = true then (estimate_By.j2 k2 t105 x8_2 x11_2 l0 (l0.length : Int) x26_1 ((rd_T53 l0 x26_1).f2) (((rd_T53 l0 x26_1).f2).length : Int) x34_2 ((rd_T53 l0 x26_1).f0) ((rd_T53 l0 x26_1).f1) ((rd_T53 l0 x26_1).f2) t120 t121 t122 ((rd_T53 l0 x26_1).f1) ((rd_T53 l0 x26_1).f1) (wrap64 (((rd_T53 l0 x26_1).f1) * t124)) 0) else (estimate_By.j2 k2 t105 x8_2 x11_2 l0 (l0.length : Int) x26_1 ((rd_T53 l0 x26_1).f2) (((rd_T53 l0 x26_1).f2).length : Int) x34_2 ((rd_T53 l0 x26_1).f0) ((rd_T53 l0 x26_1).f1) ((rd_T53 l0 x26_1).f2) t120 t121 t122 ((rd_T53 l0 x26_1).f1) 0 (wrap64 (((rd_T53 l0 x26_1).f1) * t124)) 0))) = some (r1, r2) := H
   have A18 := Aside0.mk A180
   clear A180
   replace H := Option.bind_eq_some_iff.mp H
   obtain ⟨t124, A190, H⟩ := H
   replace H : (if (rd_T58 ((rd_T53 l0 x26_1).f2) x34_2).f11 = true then (estimate_By.j2 k2 t105 x8_2 x11_2 l0 (l0.length : Int) x26_1 ((rd_T53 l0 x26_1).f2) (((rd_T53 l0 x26_1).f2).length : Int) x34_2 ((rd_T53 l0 x26_1).f0) ((rd_T53 l0 x26_1).f1) ((rd_T53 l0 x26_1).f2) t120 t121 t122 ((rd_T53 l0 x26_1).f1) ((rd_T53 l0 x26_1).f1) (wrap64 (((rd_T53 l0 x26_1).f1) * t124)) 0) else (estimate_By.j2 k2 t105 x8_2 x11_2 l0 (l0.length : Int) x26_1 ((rd_T53 l0 x26_1).f2) (((rd_T53 l0 x26_1).f2).length : Int) x34_2 ((rd_T53 l0 x26_1).f0) ((rd_T53 l0 x26_1).f1) ((rd_T53 l0 x26_1).f2) t120 t121 t122 ((rd_T53 l0 x26_1).f1) 0 (wrap64 (((rd_T53 l0 x26_1).f1) * t124)) 0)) = some (r1, r2) := H
   have A19 := Aside0.mk A190
   clear A190
   have HC20 := Aside0.mk H
   clear H
   have p118 : 0 ≤ (x34_2 : Int) := of_decide_eq_true byq_16
   have q118 : x34_2 < (((rd_T53 l0 x26_1).f2).length : Int) := of_decide_eq_true byq_16
   obtain ⟨ad118, A118_12, c118_12, A118_13, c118_13, e118, hx118_0, hx118_1, hx118_2, hx118_3, hx118_4, hx118_5, hx118_6, hx118_7, hx118_8, hx118_9, hx118_10, hx118_11, hx118_12, hx118_13, hl118_12, hi118_12, hl118_13, hi118_13⟩ := at_T58 HR113_2.out x34_2 p118 q118
   cases e118
   replace hx118_0 := (HB.out.cell (World.block_lt_of_cell? w _ hx118_0)).trans hx118_0
   replace hx118_1 := (HB.out.cell (World.block_lt_of_cell? w _ hx118_1)).trans hx118_1
   replace hx118_2 := (HB.out.cell (World.block_lt_of_cell? w _ hx118_2)).trans hx118_2
   replace hx118_3 := (HB.out.cell (World.block_lt_of_cell? w _ hx118_3)).trans hx118_3
   replace hx118_4 := (HB.out.cell (World.block_lt_of_cell? w _ hx118_4)).trans hx118_4
   replace hx118_5 := (HB.out.cell (World.block_lt_of_cell? w _ hx118_5)).trans hx118_5
   replace hx118_6 := (HB.out.cell (World.block_lt_of_cell? w _ hx118_6)).trans hx118_6
   replace hx118_7 := (HB.out.cell (World.block_lt_of_cell? w _ hx118_7)).trans hx118_7
   replace hx118_8 := (HB.out.cell (World.block_lt_of_cell? w _ hx118_8)).trans hx118_8
   replace hx118_9 := (HB.out.cell (World.block_lt_of_cell? w _ hx118_9)).trans hx118_9
   replace hx118_10 := (HB.out.cell (World.block_lt_of_cell? w _ hx118_10)).trans hx118_10
   replace hx118_11 := (HB.out.cell (World.block_lt_of_cell? w _ hx118_11)).trans hx118_11
   replace hx118_12 := (HB.out.cell (World.block_lt_of_cell? w _ hx118_12)).trans hx118_12
   replace hx118_13 := (HB.out.cell (World.block_lt_of_cell? w _ hx118_13)).trans hx118_13
   have HR118_12 := Aside0.mk hi118_12
   have HC118_12 := Aside0.mk hl118_12
   clear hi118_12 hl118_12
   have HR118_13 := Aside0.mk hi118_13
   have HC118_13 := Aside0.mk hl118_13
   clear hi118_13 hl118_13
   replace p118 := eq_true p118
   replace q118 := eq_true q118
   try go_wp2_with (first | ((with_reducible refine gate_dst (N := 13) rfl ?_); refine box_event ?hg (N := 13) ?hd (cs := #[.int .i64 0, .int .i64 0, .int .i64 0, .int .i64 0, .int .i64 0, .int .i64 0, .string (⟨#[]⟩ : ByteArray), .string (⟨#[]⟩ : ByteArray), .string (⟨#[]⟩ : ByteArray), .int .i64 0, .int .i64 0, .bool false, .slice none 0 0, .slice none 0 0]) (t := 58) ?hr ?_; (case hd => rfl); (case hg => rfl); (case hr => first | (go_simp; done) | (go_simp; rfl)); intro gb119 hg w21 hbox hb; have n0_ := Aside0.mk (Mr.R_below byq_4 hb); have n1_ := Aside0.mk (Mr.R_below byq_5 hb); have n2_ := Aside0.mk (blk_below (g := gb114) (o := .cells #[.int .i64 ((rd_T53 l0 x26_1).f0), .int .i64 ((rd_T53 l0 x26_1).f1), .slice (some ad118) ((rd_T53 l0 x26_1).f2).length c113_2] 53 (0, 0)) byq_1 hb); have n3_ := Aside0.mk (below_step byq_9 hb); have n4_ := Aside0.mk (hbox); have n5_ := Aside0.mk ((by rw [hg]; exact (below_size byq_9) : w.heap.size ≤ gb119)); have n6_ := Aside0.mk ((by rw [hg]; exact (below_size byq_9) : w.heap.size ≤ gb119)); have n7_ := Aside0.mk ((by rw [hg]; exact Nat.ne_of_lt (blk_lt (g := gb114) (o := .cells #[.int .i64 ((rd_T53 l0 x26_1).f0), .int .i64 ((rd_T53 l0 x26_1).f1), .slice (some ad118) ((rd_T53 l0 x26_1).f2).length c113_2] 53 (0, 0)) byq_1) : gb114 ≠ gb119)); have n8_ := Aside0.mk ((by rw [hg]; exact Nat.ne_of_gt (blk_lt (g := gb114) (o := .cells #[.int .i64 ((rd_T53 l0 x26_1).f0), .int .i64 ((rd_T53 l0 x26_1).f1), .slice (some ad118) ((rd_T53 l0 x26_1).f2).length c113_2] 53 (0, 0)) byq_1) : gb119 ≠ gb114)); clear HO_8; clear HO_11; clear BK114; clear HB; have HO_8 := n0_; have HO_11 := n1_; have BK114 := n2_; have HB := n3_; have BK119 := n4_; have GW119 := n5_; have GE119 := n6_; have NB114_119 := n7_; have NB119_114 := n8_; clear n0_ n1_ n2_ n3_ n4_ n5_ n6_ n7_ n8_; clear hb hbox hg; have hnb22 := NB119_114.out; have hnc22 := NB114_119.out; have hcz23_0 : w21.cell? ⟨gb119, 0, none⟩ = some (.int .i64 0) := (blk_cell BK119.out 0).trans rfl; have hcz23_1 : w21.cell? ⟨gb119, 1, none⟩ = some (.int .i64 0) := (blk_cell BK119.out 1).trans rfl; have hcz23_2 : w21.cell? ⟨gb119, 2, none⟩ = some (.int .i64 0) := (blk_cell BK119.out 2).trans rfl; have hcz23_3 : w21.cell? ⟨gb119, 3, none⟩ = some (.int .i64 0) := (blk_cell BK119.out 3).trans rfl; have hcz23_4 : w21.cell? ⟨gb119, 4, none⟩ = some (.int .i64 0) := (blk_cell BK119.out 4).trans rfl; have hcz23_5 : w21.cell? ⟨gb119, 5, none⟩ = some (.int .i64 0) := (blk_cell BK119.out 5).trans rfl; have hcz23_6 : w21.cell? ⟨gb119, 6, none⟩ = some (.string (⟨#[]⟩ : ByteArray)) := (blk_cell BK119.out 6).trans rfl; have hcz23_7 : w21.cell? ⟨gb119, 7, none⟩ = some (.string (⟨#[]⟩ : ByteArray)) := (blk_cell BK119.out 7).trans rfl; have hcz23_8 : w21.cell? ⟨gb119, 8, none⟩ = some (.string (⟨#[]⟩ : ByteArray)) := (blk_cell BK119.out 8).trans rfl; have hcz23_9 : w21.cell? ⟨gb119, 9, none⟩ = some (.int .i64 0) := (blk_cell BK119.out 9).trans rfl; have hcz23_10 : w21.cell? ⟨gb119, 10, none⟩ = some (.int .i64 0) := (blk_cell BK119.out 10).trans rfl; have hcz23_11 : w21.cell? ⟨gb119, 11, none⟩ = some (.bool false) := (blk_cell BK119.out 11).trans rfl; have hcz23_12 : w21.cell? ⟨gb119, 12, none⟩ = some (.slice none 0 0) := (blk_cell BK119.out 12).trans rfl; have hcz23_13 : w21.cell? ⟨gb119, 13, none⟩ = some (.slice none 0 0) := (blk_cell BK119.out 13).trans rfl; have hfz23_0 := blk_frozen BK119.out 0; have hfz23_1 := blk_frozen BK119.out 1; have hfz23_2 := blk_frozen BK119.out 2; have hfz23_3 := blk_frozen BK119.out 3; have hfz23_4 := blk_frozen BK119.out 4; have hfz23_5 := blk_frozen BK119.out 5; have hfz23_6 := blk_frozen BK119.out 6; have hfz23_7 := blk_frozen BK119.out 7; have hfz23_8 := blk_frozen BK119.out 8; have hfz23_9 := blk_frozen BK119.out 9; have hfz23_10 := blk_frozen BK119.out 10; have hfz23_11 := blk_frozen BK119.out 11; have hfz23_12 := blk_frozen BK119.out 12; have hfz23_13 := blk_frozen BK119.out 13) | ((with_reducible refine gate_dst (N := 40) rfl ?_); refine group_w (some 40) rfl rfl rfl rfl (by (try simp only [List.map_toArray, List.map_cons, List.map_nil]); rfl) ?side1 ?side2 ?side3 ?side4 A18.out ?_; (case side1 => exact Kd.C_below HR118_12.out byq_10); (case side2 => exact HC118_12.out); (case side3 => exact Kd.C_below HR118_13.out byq_10); (case side4 => exact HC118_13.out); intro w24 hb; have n0_ := Aside0.mk (Mr.R_below (by (with_reducible repeat (first | apply Mr.R_alloc | apply Mr.R_drewN | apply Mr.R_drew)); exact (Mr.R_mono (Mr.R_far (p := ⟨gb119, 13, none⟩) (Mr.R_far (p := ⟨gb119, 12, none⟩) (Mr.R_far (p := ⟨gb119, 11, none⟩) (Mr.R_far (p := ⟨gb119, 10, none⟩) (Mr.R_far (p := ⟨gb119, 9, none⟩) (Mr.R_far (p := ⟨gb119, 8, none⟩) (Mr.R_far (p := ⟨gb119, 7, none⟩) (Mr.R_far (p := ⟨gb119, 6, none⟩) (Mr.R_far (p := ⟨gb119, 5, none⟩) (Mr.R_far (p := ⟨gb119, 4, none⟩) (Mr.R_far (p := ⟨gb119, 3, none⟩) (Mr.R_far (p := ⟨gb119, 2, none⟩) (Mr.R_far (p := ⟨gb119, 1, none⟩) (Mr.R_far (p := ⟨gb119, 0, none⟩) (Mr.R_types HO_8.out BK119.out (by decide)) (fun _ hk => hk.2) (.int .i64 ((rd_T58 ((rd_T53 l0 x26_1).f2) x34_2).f0))) (fun _ hk => hk.2) (.int .i64 ((rd_T58 ((rd_T53 l0 x26_1).f2) x34_2).f1))) (fun _ hk => hk.2) (.int .i64 ((rd_T58 ((rd_T53 l0 x26_1).f2) x34_2).f2))) (fun _ hk => hk.2) (.int .i64 ((rd_T58 ((rd_T53 l0 x26_1).f2) x34_2).f3))) (fun _ hk => hk.2) (.int .i64 ((rd_T58 ((rd_T53 l0 x26_1).f2) x34_2).f4))) (fun _ hk => hk.2) (.int .i64 ((rd_T58 ((rd_T53 l0 x26_1).f2) x34_2).f5))) (fun _ hk => hk.2) (.string ((rd_T58 ((rd_T53 l0 x26_1).f2) x34_2).f6))) (fun _ hk => hk.2) (.string ((rd_T58 ((rd_T53 l0 x26_1).f2) x34_2).f7))) (fun _ hk => hk.2) (.string ((rd_T58 ((rd_T53 l0 x26_1).f2) x34_2).f8))) (fun _ hk => hk.2) (.int .i64 ((rd_T58 ((rd_T53 l0 x26_1).f2) x34_2).f9))) (fun _ hk => hk.2) (.int .i64 ((rd_T58 ((rd_T53 l0 x26_1).f2) x34_2).f10))) (fun _ hk => hk.2) (.bool ((rd_T58 ((rd_T53 l0 x26_1).f2) x34_2).f11))) (fun _ hk => hk.2) (.slice A118_12 ((rd_T58 ((rd_T53 l0 x26_1).f2) x34_2).f12).length c118_12)) (fun _ hk => hk.2) (.slice A118_13 ((rd_T58 ((rd_T53 l0 x26_1).f2) x34_2).f13).length c118_13)) (fun _ h_ => h_.1))) hb); have n1_ := Aside0.mk (Mr.R_below (by (with_reducible repeat (first | apply Mr.R_alloc | apply Mr.R_drewN | apply Mr.R_drew)); exact (Mr.R_mono (Mr.R_far (p := ⟨gb119, 13, none⟩) (Mr.R_far (p := ⟨gb119, 12, none⟩) (Mr.R_far (p := ⟨gb119, 11, none⟩) (Mr.R_far (p := ⟨gb119, 10, none⟩) (Mr.R_far (p := ⟨gb119, 9, none⟩) (Mr.R_far (p := ⟨gb119, 8, none⟩) (Mr.R_far (p := ⟨gb119, 7, none⟩) (Mr.R_far (p := ⟨gb119, 6, none⟩) (Mr.R_far (p := ⟨gb119, 5, none⟩) (Mr.R_far (p := ⟨gb119, 4, none⟩) (Mr.R_far (p := ⟨gb119, 3, none⟩) (Mr.R_far (p := ⟨gb119, 2, none⟩) (Mr.R_far (p := ⟨gb119, 1, none⟩) (Mr.R_far (p := ⟨gb119, 0, none⟩) (Mr.R_types HO_11.out BK119.out (by decide)) (fun _ hk => hk.2) (.int .i64 ((rd_T58 ((rd_T53 l0 x26_1).f2) x34_2).f0))) (fun _ hk => hk.2) (.int .i64 ((rd_T58 ((rd_T53 l0 x26_1).f2) x34_2).f1))) (fun _ hk => hk.2) (.int .i64 ((rd_T58 ((rd_T53 l0 x26_1).f2) x34_2).f2))) (fun _ hk => hk.2) (.int .i64 ((rd_T58 ((rd_T53 l0 x26_1).f2) x34_2).f3))) (fun _ hk => hk.2) (.int .i64 ((rd_T58 ((rd_T53 l0 x26_1).f2) x34_2).f4))) (fun _ hk => hk.2) (.int .i64 ((rd_T58 ((rd_T53 l0 x26_1).f2) x34_2).f5))) (fun _ hk => hk.2) (.string ((rd_T58 ((rd_T53 l0 x26_1).f2) x34_2).f6))) (fun _ hk => hk.2) (.string ((rd_T58 ((rd_T53 l0 x26_1).f2) x34_2).f7))) (fun _ hk => hk.2) (.string ((rd_T58 ((rd_T53 l0 x26_1).f2) x34_2).f8))) (fun _ hk => hk.2) (.int .i64 ((rd_T58 ((rd_T53 l0 x26_1).f2) x34_2).f9))) (fun _ hk => hk.2) (.int .i64 ((rd_T58 ((rd_T53 l0 x26_1).f2) x34_2).f10))) (fun _ hk => hk.2) (.bool ((rd_T58 ((rd_T53 l0 x26_1).f2) x34_2).f11))) (fun _ hk => hk.2) (.slice A118_12 ((rd_T58 ((rd_T53 l0 x26_1).f2) x34_2).f12).length c118_12)) (fun _ hk => hk.2) (.slice A118_13 ((rd_T58 ((rd_T53 l0 x26_1).f2) x34_2).f13).length c118_13)) (fun _ h_ => h_.1))) hb); have n2_ := Aside0.mk (blk_below (g := gb114) (o := .cells #[.int .i64 ((rd_T53 l0 x26_1).f0), .int .i64 ((rd_T53 l0 x26_1).f1), .slice (some ad118) ((rd_T53 l0 x26_1).f2).length c113_2] 53 (0, 0)) (by (with_reducible repeat (first | refine blk_drewN ?_ _ | refine blk_drew ?_ | refine blk_alloc ?_ _)); refine blk_far ?_ NB114_119.out _; (with_reducible repeat (first | refine blk_drewN ?_ _ | refine blk_drew ?_ | refine blk_alloc ?_ _)); refine blk_far ?_ NB114_119.out _; (with_reducible repeat (first | refine blk_drewN ?_ _ | refine blk_drew ?_ | refine blk_alloc ?_ _)); refine blk_far ?_ NB114_119.out _; (with_reducible repeat (first | refine blk_drewN ?_ _ | refine blk_drew ?_ | refine blk_alloc ?_ _)); refine blk_far ?_ NB114_119.out _; (with_reducible repeat (first | refine blk_drewN ?_ _ | refine blk_drew ?_ | refine blk_alloc ?_ _)); refine blk_far ?_ NB114_119.out _; (with_reducible repeat (first | refine blk_drewN ?_ _ | refine blk_drew ?_ | refine blk_alloc ?_ _)); refine blk_far ?_ NB114_119.out _; (with_reducible repeat (first | refine blk_drewN ?_ _ | refine blk_drew ?_ | refine blk_alloc ?_ _)); refine blk_far ?_ NB114_119.out _; (with_reducible repeat (first | refine blk_drewN ?_ _ | refine blk_drew ?_ | refine blk_alloc ?_ _)); refine blk_far ?_ NB114_119.out _; (with_reducible repeat (first | refine blk_drewN ?_ _ | refine blk_drew ?_ | refine blk_alloc ?_ _)); refine blk_far ?_ NB114_119.out _; (with_reducible repeat (first | refine blk_drewN ?_ _ | refine blk_drew ?_ | refine blk_alloc ?_ _)); refine blk_far ?_ NB114_119.out _; (with_reducible repeat (first | refine blk_drewN ?_ _ | refine blk_drew ?_ | refine blk_alloc ?_ _)); refine blk_far ?_ NB114_119.out _; (with_reducible repeat (first | refine blk_drewN ?_ _ | refine blk_drew ?_ | refine blk_alloc ?_ _)); refine blk_far ?_ NB114_119.out _; (with_reducible repeat (first | refine blk_drewN ?_ _ | refine blk_drew ?_ | refine blk_alloc ?_ _)); refine blk_far ?_ NB114_119.out _; (with_reducible repeat (first | refine blk_drewN ?_ _ | refine blk_drew ?_ | refine blk_alloc ?_ _)); refine blk_far ?_ NB114_119.out _; (with_reducible repeat (first | refine blk_drewN ?_ _ | refine blk_drew ?_ | refine blk_alloc ?_ _)); exact BK114.out) hb); have n3_ := Aside0.mk (blk_below (g := gb119) (o := .cells #[.int .i64 ((rd_T58 ((rd_T53 l0 x26_1).f2) x34_2).f0), .int .i64 ((rd_T58 ((rd_T53 l0 x26_1).f2) x34_2).f1), .int .i64 ((rd_T58 ((rd_T53 l0 x26_1).f2) x34_2).f2), .int .i64 ((rd_T58 ((rd_T53 l0 x26_1).f2) x34_2).f3), .int .i64 ((rd_T58 ((rd_T53 l0 x26_1).f2) x34_2).f4), .int .i64 ((rd_T58 ((rd_T53 l0 x26_1).f2) x34_2).f5), .string ((rd_T58 ((rd_T53 l0 x26_1).f2) x34_2).f6), .string ((rd_T58 ((rd_T53 l0 x26_1).f2) x34_2).f7), .string ((rd_T58 ((rd_T53 l0 x26_1).f2) x34_2).f8), .int .i64 ((rd_T58 ((rd_T53 l0 x26_1).f2) x34_2).f9), .int .i64 ((rd_T58 ((rd_T53 l0 x26_1).f2) x34_2).f10), .bool ((rd_T58 ((rd_T53 l0 x26_1).f2) x34_2).f11), .slice A118_12 ((rd_T58 ((rd_T53 l0 x26_1).f2) x34_2).f12).length c118_12, .slice A118_13 ((rd_T58 ((rd_T53 l0 x26_1).f2) x34_2).f13).length c118_13] 58 (0, 0)) (by (with_reducible repeat (first | refine blk_drewN ?_ _ | refine blk_drew ?_ | refine blk_alloc ?_ _)); refine blk_put (cs := #[.int .i64 ((rd_T58 ((rd_T53 l0 x26_1).f2) x34_2).f0), .int .i64 ((rd_T58 ((rd_T53 l0 x26_1).f2) x34_2).f1), .int .i64 ((rd_T58 ((rd_T53 l0 x26_1).f2) x34_2).f2), .int .i64 ((rd_T58 ((rd_T53 l0 x26_1).f2) x34_2).f3), .int .i64 ((rd_T58 ((rd_T53 l0 x26_1).f2) x34_2).f4), .int .i64 ((rd_T58 ((rd_T53 l0 x26_1).f2) x34_2).f5), .string ((rd_T58 ((rd_T53 l0 x26_1).f2) x34_2).f6), .string ((rd_T58 ((rd_T53 l0 x26_1).f2) x34_2).f7), .string ((rd_T58 ((rd_T53 l0 x26_1).f2) x34_2).f8), .int .i64 ((rd_T58 ((rd_T53 l0 x26_1).f2) x34_2).f9), .int .i64 ((rd_T58 ((rd_T53 l0 x26_1).f2) x34_2).f10), .bool ((rd_T58 ((rd_T53 l0 x26_1).f2) x34_2).f11), .slice A118_12 ((rd_T58 ((rd_T53 l0 x26_1).f2) x34_2).f12).length c118_12, .slice none 0 0]) ?_ 13 _ rfl; (with_reducible repeat (first | refine blk_drewN ?_ _ | refine blk_drew ?_ | refine blk_alloc ?_ _)); refine blk_put (cs := #[.int .i64 ((rd_T58 ((rd_T53 l0 x26_1).f2) x34_2).f0), .int .i64 ((rd_T58 ((rd_T53 l0 x26_1).f2) x34_2).f1), .int .i64 ((rd_T58 ((rd_T53 l0 x26_1).f2) x34_2).f2), .int .i64 ((rd_T58 ((rd_T53 l0 x26_1).f2) x34_2).f3), .int .i64 ((rd_T58 ((rd_T53 l0 x26_1).f2) x34_2).f4), .int .i64 ((rd_T58 ((rd_T53 l0 x26_1).f2) x34_2).f5), .string ((rd_T58 ((rd_T53 l0 x26_1).f2) x34_2).f6), .string ((rd_T58 ((rd_T53 l0 x26_1).f2) x34_2).f7), .string ((rd_T58 ((rd_T53 l0 x26_1).f2) x34_2).f8), .int .i64 ((rd_T58 ((rd_T53 l0 x26_1).f2) x34_2).f9), .int .i64 ((rd_T58 ((rd_T53 l0 x26_1).f2) x34_2).f10), .bool ((rd_T58 ((rd_T53 l0 x26_1).f2) x34_2).f11), .slice none 0 0, .slice none 0 0]) ?_ 12 _ rfl; (with_reducible repeat (first | refine blk_drewN ?_ _ | refine blk_drew ?_ | refine blk_alloc ?_ _)); refine blk_put (cs := #[.int .i64 ((rd_T58 ((rd_T53 l0 x26_1).f2) x34_2).f0), .int .i64 ((rd_T58 ((rd_T53 l0 x26_1).f2) x34_2).f1), .int .i64 ((rd_T58 ((rd_T53 l0 x26_1).f2) x34_2).f2), .int .i64 ((rd_T58 ((rd_T53 l0 x26_1).f2) x34_2).f3), .int .i64 ((rd_T58 ((rd_T53 l0 x26_1).f2) x34_2).f4), .int .i64 ((rd_T58 ((rd_T53 l0 x26_1).f2) x34_2).f5), .string ((rd_T58 ((rd_T53 l0 x26_1).f2) x34_2).f6), .string ((rd_T58 ((rd_T53 l0 x26_1).f2) x34_2).f7), .string ((rd_T58 ((rd_T53 l0 x26_1).f2) x34_2).f8), .int .i64 ((rd_T58 ((rd_T53 l0 x26_1).f2) x34_2).f9), .int .i64 ((rd_T58 ((rd_T53 l0 x26_1).f2) x34_2).f10), .bool false, .slice none 0 0, .slice none 0 0]) ?_ 11 _ rfl; (with_reducible repeat (first | refine blk_drewN ?_ _ | refine blk_drew ?_ | refine blk_alloc ?_ _)); refine blk_put (cs := #[.int .i64 ((rd_T58 ((rd_T53 l0 x26_1).f2) x34_2).f0), .int .i64 ((rd_T58 ((rd_T53 l0 x26_1).f2) x34_2).f1), .int .i64 ((rd_T58 ((rd_T53 l0 x26_1).f2) x34_2).f2), .int .i64 ((rd_T58 ((rd_T53 l0 x26_1).f2) x34_2).f3), .int .i64 ((rd_T58 ((rd_T53 l0 x26_1).f2) x34_2).f4), .int .i64 ((rd_T58 ((rd_T53 l0 x26_1).f2) x34_2).f5), .string ((rd_T58 ((rd_T53 l0 x26_1).f2) x34_2).f6), .string ((rd_T58 ((rd_T53 l0 x26_1).f2) x34_2).f7), .string ((rd_T58 ((rd_T53 l0 x26_1).f2) x34_2).f8), .int .i64 ((rd_T58 ((rd_T53 l0 x26_1).f2) x34_2).f9), .int .i64 0, .bool false, .slice none 0 0, .slice none 0 0]) ?_ 10 _ rfl; (with_reducible repeat (first | refine blk_drewN ?_ _ | refine blk_drew ?_ | refine blk_alloc ?_ _)); refine blk_put (cs := #[.int .i64 ((rd_T58 ((rd_T53 l0 x26_1).f2) x34_2).f0), .int .i64 ((rd_T58 ((rd_T53 l0 x26_1).f2) x34_2).f1), .int .i64 ((rd_T58 ((rd_T53 l0 x26_1).f2) x34_2).f2), .int .i64 ((rd_T58 ((rd_T53 l0 x26_1).f2) x34_2).f3), .int .i64 ((rd_T58 ((rd_T53 l0 x26_1).f2) x34_2).f4), .int .i64 ((rd_T58 ((rd_T53 l0 x26_1).f2) x34_2).f5), .string ((rd_T58 ((rd_T53 l0 x26_1).f2) x34_2).f6), .string ((rd_T58 ((rd_T53 l0 x26_1).f2) x34_2).f7), .string ((rd_T58 ((rd_T53 l0 x26_1).f2) x34_2).f8), .int .i64 0, .int .i64 0, .bool false, .slice none 0 0, .slice none 0 0]) ?_ 9 _ rfl; (with_reducible repeat (first | refine blk_drewN ?_ _ | refine blk_drew ?_ | refine blk_alloc ?_ _)); refine blk_put (cs := #[.int .i64 ((rd_T58 ((rd_T53 l0 x26_1).f2) x34_2).f0), .int .i64 ((rd_T58 ((rd_T53 l0 x26_1).f2) x34_2).f1), .int .i64 ((rd_T58 ((rd_T53 l0 x26_1).f2) x34_2).f2), .int .i64 ((rd_T58 ((rd_T53 l0 x26_1).f2) x34_2).f3), .int .i64 ((rd_T58 ((rd_T53 l0 x26_1).f2) x34_2).f4), .int .i64 ((rd_T58 ((rd_T53 l0 x26_1).f2) x34_2).f5), .string ((rd_T58 ((rd_T53 l0 x26_1).f2) x34_2).f6), .string ((rd_T58 ((rd_T53 l0 x26_1).f2) x34_2).f7), .string (⟨#[]⟩ : ByteArray), .int .i64 0, .int .i64 0, .bool false, .slice none 0 0, .slice none 0 0]) ?_ 8 _ rfl; (with_reducible repeat (first | refine blk_drewN ?_ _ | refine blk_drew ?_ | refine blk_alloc ?_ _)); refine blk_put (cs := #[.int .i64 ((rd_T58 ((rd_T53 l0 x26_1).f2) x34_2).f0), .int .i64 ((rd_T58 ((rd_T53 l0 x26_1).f2) x34_2).f1), .int .i64 ((rd_T58 ((rd_T53 l0 x26_1).f2) x34_2).f2), .int .i64 ((rd_T58 ((rd_T53 l0 x26_1).f2) x34_2).f3), .int .i64 ((rd_T58 ((rd_T53 l0 x26_1).f2) x34_2).f4), .int .i64 ((rd_T58 ((rd_T53 l0 x26_1).f2) x34_2).f5), .string ((rd_T58 ((rd_T53 l0 x26_1).f2) x34_2).f6), .string (⟨#[]⟩ : ByteArray), .string (⟨#[]⟩ : ByteArray), .int .i64 0, .int .i64 0, .bool false, .slice none 0 0, .slice none 0 0]) ?_ 7 _ rfl; (with_reducible repeat (first | refine blk_drewN ?_ _ | refine blk_drew ?_ | refine blk_alloc ?_ _)); refine blk_put (cs := #[.int .i64 ((rd_T58 ((rd_T53 l0 x26_1).f2) x34_2).f0), .int .i64 ((rd_T58 ((rd_T53 l0 x26_1).f2) x34_2).f1), .int .i64 ((rd_T58 ((rd_T53 l0 x26_1).f2) x34_2).f2), .int .i64 ((rd_T58 ((rd_T53 l0 x26_1).f2) x34_2).f3), .int .i64 ((rd_T58 ((rd_T53 l0 x26_1).f2) x34_2).f4), .int .i64 ((rd_T58 ((rd_T53 l0 x26_1).f2) x34_2).f5), .string (⟨#[]⟩ : ByteArray), .string (⟨#[]⟩ : ByteArray), .string (⟨#[]⟩ : ByteArray), .int .i64 0, .int .i64 0, .bool false, .slice none 0 0, .slice none 0 0]) ?_ 6 _ rfl; (with_reducible repeat (first | refine blk_drewN ?_ _ | refine blk_drew ?_ | refine blk_alloc ?_ _)); refine blk_put (cs := #[.int .i64 ((rd_T58 ((rd_T53 l0 x26_1).f2) x34_2).f0), .int .i64 ((rd_T58 ((rd_T53 l0 x26_1).f2) x34_2).f1), .int .i64 ((rd_T58 ((rd_T53 l0 x26_1).f2) x34_2).f2), .int .i64 ((rd_T58 ((rd_T53 l0 x26_1).f2) x34_2).f3), .int .i64 ((rd_T58 ((rd_T53 l0 x26_1).f2) x34_2).f4), .int .i64 0, .string (⟨#[]⟩ : ByteArray), .string (⟨#[]⟩ : ByteArray), .string (⟨#[]⟩ : ByteArray), .int .i64 0, .int .i64 0, .bool false, .slice none 0 0, .slice none 0 0]) ?_ 5 _ rfl; (with_reducible repeat (first | refine blk_drewN ?_ _ | refine blk_drew ?_ | refine blk_alloc ?_ _)); refine blk_put (cs := #[.int .i64 ((rd_T58 ((rd_T53 l0 x26_1).f2) x34_2).f0), .int .i64 ((rd_T58 ((rd_T53 l0 x26_1).f2) x34_2).f1), .int .i64 ((rd_T58 ((rd_T53 l0 x26_1).f2) x34_2).f2), .int .i64 ((rd_T58 ((rd_T53 l0 x26_1).f2) x34_2).f3), .int .i64 0, .int .i64 0, .string (⟨#[]⟩ : ByteArray), .string (⟨#[]⟩ : ByteArray), .string (⟨#[]⟩ : ByteArray), .int .i64 0, .int .i64 0, .bool false, .slice none 0 0, .slice none 0 0]) ?_ 4 _ rfl; (with_reducible repeat (first | refine blk_drewN ?_ _ | refine blk_drew ?_ | refine blk_alloc ?_ _)); refine blk_put (cs := #[.int .i64 ((rd_T58 ((rd_T53 l0 x26_1).f2) x34_2).f0), .int .i64 ((rd_T58 ((rd_T53 l0 x26_1).f2) x34_2).f1), .int .i64 ((rd_T58 ((rd_T53 l0 x26_1).f2) x34_2).f2), .int .i64 0, .int .i64 0, .int .i64 0, .string (⟨#[]⟩ : ByteArray), .string (⟨#[]⟩ : ByteArray), .string (⟨#[]⟩ : ByteArray), .int .i64 0, .int .i64 0, .bool false, .slice none 0 0, .slice none 0 0]) ?_ 3 _ rfl; (with_reducible repeat (first | refine blk_drewN ?_ _ | refine blk_drew ?_ | refine blk_alloc ?_ _)); refine blk_put (cs := #[.int .i64 ((rd_T58 ((rd_T53 l0 x26_1).f2) x34_2).f0), .int .i64 ((rd_T58 ((rd_T53 l0 x26_1).f2) x34_2).f1), .int .i64 0, .int .i64 0, .int .i64 0, .int .i64 0, .string (⟨#[]⟩ : ByteArray), .string (⟨#[]⟩ : ByteArray), .string (⟨#[]⟩ : ByteArray), .int .i64 0, .int .i64 0, .bool false, .slice none 0 0, .slice none 0 0]) ?_ 2 _ rfl; (with_reducible repeat (first | refine blk_drewN ?_ _ | refine blk_drew ?_ | refine blk_alloc ?_ _)); refine blk_put (cs := #[.int .i64 ((rd_T58 ((rd_T53 l0 x26_1).f2) x34_2).f0), .int .i64 0, .int .i64 0, .int .i64 0, .int .i64 0, .int .i64 0, .string (⟨#[]⟩ : ByteArray), .string (⟨#[]⟩ : ByteArray), .string (⟨#[]⟩ : ByteArray), .int .i64 0, .int .i64 0, .bool false, .slice none 0 0, .slice none 0 0]) ?_ 1 _ rfl; (with_reducible repeat (first | refine blk_drewN ?_ _ | refine blk_drew ?_ | refine blk_alloc ?_ _)); refine blk_put (cs := #[.int .i64 0, .int .i64 0, .int .i64 0, .int .i64 0, .int .i64 0, .int .i64 0, .string (⟨#[]⟩ : ByteArray), .string (⟨#[]⟩ : ByteArray), .string (⟨#[]⟩ : ByteArray), .int .i64 0, .int .i64 0, .bool false, .slice none 0 0, .slice none 0 0]) ?_ 0 _ rfl; (with_reducible repeat (first | refine blk_drewN ?_ _ | refine blk_drew ?_ | refine blk_alloc ?_ _)); exact BK119.out) hb); have n4_ := Aside0.mk (below_step byq_10 hb); clear HO_8; clear HO_11; clear BK114; clear BK119; clear HB; have HO_8 := n0_; have HO_11 := n1_; have BK114 := n2_; have BK119 := n3_; have HB := n4_; clear n0_ n1_ n2_ n3_ n4_; (try clear hb); (try clear hb2); (try clear hk); (try clear hi)) | ((with_reducible refine gate_dst (N := 14) rfl ?_); refine box_event ?hg (N := 14) ?hd (cs := #[.string (⟨#[]⟩ : ByteArray), .string (⟨#[]⟩ : ByteArray), .string (⟨#[]⟩ : ByteArray)]) (t := 39) ?hr ?_; (case hd => rfl); (case hg => rfl); (case hr => first | (go_simp; done) | (go_simp; rfl)); intro gb123 hg w25 hbox hb; have n0_ := Aside0.mk (Mr.R_below byq_4 hb); have n1_ := Aside0.mk (Mr.R_below byq_5 hb); have n2_ := Aside0.mk (blk_below (g := gb114) (o := .cells #[.int .i64 ((rd_T53 l0 x26_1).f0), .int .i64 ((rd_T53 l0 x26_1).f1), .slice (some ad118) ((rd_T53 l0 x26_1).f2).length c113_2] 53 (0, 0)) byq_1 hb); have n3_ := Aside0.mk (blk_below (g := gb119) (o := .cells #[.int .i64 ((rd_T58 ((rd_T53 l0 x26_1).f2) x34_2).f0), .int .i64 ((rd_T58 ((rd_T53 l0 x26_1).f2) x34_2).f1), .int .i64 ((rd_T58 ((rd_T53 l0 x26_1).f2) x34_2).f2), .int .i64 ((rd_T58 ((rd_T53 l0 x26_1).f2) x34_2).f3), .int .i64 ((rd_T58 ((rd_T53 l0 x26_1).f2) x34_2).f4), .int .i64 ((rd_T58 ((rd_T53 l0 x26_1).f2) x34_2).f5), .string ((rd_T58 ((rd_T53 l0 x26_1).f2) x34_2).f6), .string ((rd_T58 ((rd_T53 l0 x26_1).f2) x34_2).f7), .string ((rd_T58 ((rd_T53 l0 x26_1).f2) x34_2).f8), .int .i64 ((rd_T58 ((rd_T53 l0 x26_1).f2) x34_2).f9), .int .i64 ((rd_T58 ((rd_T53 l0 x26_1).f2) x34_2).f10), .bool ((rd_T58 ((rd_T53 l0 x26_1).f2) x34_2).f11), .slice A118_12 ((rd_T58 ((rd_T53 l0 x26_1).f2) x34_2).f12).length c118_12, .slice A118_13 ((rd_T58 ((rd_T53 l0 x26_1).f2) x34_2).f13).length c118_13] 58 (0, 0)) byq_2 hb); have n4_ := Aside0.mk (below_step byq_10 hb); have n5_ := Aside0.mk (hbox); have n6_ := Aside0.mk ((by rw [hg]; exact (below_size byq_10) : w.heap.size ≤ gb123)); have n7_ := Aside0.mk ((by rw [hg]; exact (below_size byq_10) : w.heap.size ≤ gb123)); have n8_ := Aside0.mk ((by rw [hg]; exact Nat.ne_of_lt (blk_lt (g := gb114) (o := .cells #[.int .i64 ((rd_T53 l0 x26_1).f0), .int .i64 ((rd_T53 l0 x26_1).f1), .slice (some ad118) ((rd_T53 l0 x26_1).f2).length c113_2] 53 (0, 0)) byq_1) : gb114 ≠ gb123)); have n9_ := Aside0.mk ((by rw [hg]; exact Nat.ne_of_gt (blk_lt (g := gb114) (o := .cells #[.int .i64 ((rd_T53 l0 x26_1).f0), .int .i64 ((rd_T53 l0 x26_1).f1), .slice (some ad118) ((rd_T53 l0 x26_1).f2).length c113_2] 53 (0, 0)) byq_1) : gb123 ≠ gb114)); have n10_ := Aside0.mk ((by rw [hg]; exact Nat.ne_of_lt (blk_lt (g := gb119) (o := .cells #[.int .i64 ((rd_T58 ((rd_T53 l0 x26_1).f2) x34_2).f0), .int .i64 ((rd_T58 ((rd_T53 l0 x26_1).f2) x34_2).f1), .int .i64 ((rd_T58 ((rd_T53 l0 x26_1).f2) x34_2).f2), .int .i64 ((rd_T58 ((rd_T53 l0 x26_1).f2) x34_2).f3), .int .i64 ((rd_T58 ((rd_T53 l0 x26_1).f2) x34_2).f4), .int .i64 ((rd_T58 ((rd_T53 l0 x26_1).f2) x34_2).f5), .string ((rd_T58 ((rd_T53 l0 x26_1).f2) x34_2).f6), .string ((rd_T58 ((rd_T53 l0 x26_1).f2) x34_2).f7), .string ((rd_T58 ((rd_T53 l0 x26_1).f2) x34_2).f8), .int .i64 ((rd_T58 ((rd_T53 l0 x26_1).f2) x34_2).f9), .int .i64 ((rd_T58 ((rd_T53 l0 x26_1).f2) x34_2).f10), .bool ((rd_T58 ((rd_T53 l0 x26_1).f2) x34_2).f11), .slice A118_12 ((rd_T58 ((rd_T53 l0 x26_1).f2) x34_2).f12).length c118_12, .slice A118_13 ((rd_T58 ((rd_T53 l0 x26_1).f2) x34_2).f13).length c118_13] 58 (0, 0)) byq_2) : gb119 ≠ gb123)); have n11_ := Aside0.mk ((by rw [hg]; exact Nat.ne_of_gt (blk_lt (g := gb119) (o := .cells #[.int .i64 ((rd_T58 ((rd_T53 l0 x26_1).f2) x34_2).f0), .int .i64 ((rd_T58 ((rd_T53 l0 x26_1).f2) x34_2).f1), .int .i64 ((rd_T58 ((rd_T53 l0 x26_1).f2) x34_2).f2), .int .i64 ((rd_T58 ((rd_T53 l0 x26_1).f2) x34_2).f3), .int .i64 ((rd_T58 ((rd_T53 l0 x26_1).f2) x34_2).f4), .int .i64 ((rd_T58 ((rd_T53 l0 x26_1).f2) x34_2).f5), .string ((rd_T58 ((rd_T53 l0 x26_1).f2) x34_2).f6), .string ((rd_T58 ((rd_T53 l0 x26_1).f2) x34_2).f7), .string ((rd_T58 ((rd_T53 l0 x26_1).f2) x34_2).f8), .int .i64 ((rd_T58 ((rd_T53 l0 x26_1).f2) x34_2).f9), .int .i64 ((rd_T58 ((rd_T53 l0 x26_1).f2) x34_2).f10), .bool ((rd_T58 ((rd_T53 l0 x26_1).f2) x34_2).f11), .slice A118_12 ((rd_T58 ((rd_T53 l0 x26_1).f2) x34_2).f12).length c118_12, .slice A118_13 ((rd_T58 ((rd_T53 l0 x26_1).f2) x34_2).f13).length c118_13] 58 (0, 0)) byq_2) : gb123 ≠ gb119)); clear HO_8; clear HO_11; clear BK114; clear BK119; clear HB; have HO_8 := n0_; have HO_11 := n1_; have BK114 := n2_; have BK119 := n3_; have HB := n4_; have BK123 := n5_; have GW123 := n6_; have GE123 := n7_; have NB114_123 := n8_; have NB123_114 := n9_; have NB119_123 := n10_; have NB123_119 := n11_; clear n0_ n1_ n2_ n3_ n4_ n5_ n6_ n7_ n8_ n9_ n10_ n11_; clear hb hbox hg; have hnb26 := NB123_114.out; have hnc26 := NB114_123.out; have hnb27 := NB123_119.out; have hnc27 := NB119_123.out; have hcz28_0 : w25.cell? ⟨gb123, 0, none⟩ = some (.string (⟨#[]⟩ : ByteArray)) := (blk_cell BK123.out 0).trans rfl; have hcz28_1 : w25.cell? ⟨gb123, 1, none⟩ = some (.string (⟨#[]⟩ : ByteArray)) := (blk_cell BK123.out 1).trans rfl; have hcz28_2 : w25.cell? ⟨gb123, 2, none⟩ = some (.string (⟨#[]⟩ : ByteArray)) := (blk_cell BK123.out 2).trans rfl; have hfz28_0 := blk_frozen BK123.out 0; have hfz28_1 := blk_frozen BK123.out 1; have hfz28_2 := blk_frozen BK123.out 2))
   have n0_ : Aside0 (Mr.R Mr.mT (((w25.setCell ⟨gb123, 0, none⟩ (.string t120)).setCell ⟨gb123, 1, none⟩ (.string t121)).setCell ⟨gb123, 2, none⟩ (.string t122)) w.heap.size (fun k_ => some k_ ≠ Mr.mB (v116)) v108 x8_2) := ⟨by (with_reducible repeat (first | apply Mr.R_alloc | apply Mr.R_drewN | apply Mr.R_drew)); exact Mr.R_mono (Mr.R_far (p := ⟨gb123, 2, none⟩) (Mr.R_far (p := ⟨gb123, 1, none⟩) (Mr.R_far (p := ⟨gb123, 0, none⟩) (Mr.R_types HO_8.out BK123.out (by decide)) (fun _ hk => hk.2) (.string t120)) (fun _ hk => hk.2) (.string t121)) (fun _ hk => hk.2) (.string t122)) (fun _ hk => hk.1)⟩
   have n1_ : Aside0 (Mr.R Mr.mS (((w25.setCell ⟨gb123, 0, none⟩ (.string t120)).setCell ⟨gb123, 1, none⟩ (.string t121)).setCell ⟨gb123, 2, none⟩ (.string t122)) w.heap.size (fun k_ => some k_ ≠ Mr.mB (v108)) v116 x11_2) := ⟨by (with_reducible repeat (first | apply Mr.R_alloc | apply Mr.R_drewN | apply Mr.R_drew)); exact Mr.R_mono (Mr.R_far (p := ⟨gb123, 2, none⟩) (Mr.R_far (p := ⟨gb123, 1, none⟩) (Mr.R_far (p := ⟨gb123, 0, none⟩) (Mr.R_types HO_11.out BK123.out (by decide)) (fun _ hk => hk.2) (.string t120)) (fun _ hk => hk.2) (.string t121)) (fun _ hk => hk.2) (.string t122)) (fun _ hk => hk.1)⟩
   have n2_ : Aside0 ((((w25.setCell ⟨gb123, 0, none⟩ (.string t120)).setCell ⟨gb123, 1, none⟩ (.string t121)).setCell ⟨gb123, 2, none⟩ (.string t122)).heap[gb114]? = some (.cells #[.int .i64 ((rd_T53 l0 x26_1).f0), .int .i64 ((rd_T53 l0 x26_1).f1), .slice (some ad118) ((rd_T53 l0 x26_1).f2).length c113_2] 53 (0, 0))) := ⟨by (with_reducible repeat (first | refine blk_drewN ?_ _ | refine blk_drew ?_ | refine blk_alloc ?_ _)); refine blk_far ?_ NB114_123.out _; (with_reducible repeat (first | refine blk_drewN ?_ _ | refine blk_drew ?_ | refine blk_alloc ?_ _)); refine blk_far ?_ NB114_123.out _; (with_reducible repeat (first | refine blk_drewN ?_ _ | refine blk_drew ?_ | refine blk_alloc ?_ _)); refine blk_far ?_ NB114_123.out _; (with_reducible repeat (first | refine blk_drewN ?_ _ | refine blk_drew ?_ | refine blk_alloc ?_ _)); exact BK114.out⟩
   have n3_ : Aside0 ((((w25.setCell ⟨gb123, 0, none⟩ (.string t120)).setCell ⟨gb123, 1, none⟩ (.string t121)).setCell ⟨gb123, 2, none⟩ (.string t122)).heap[gb119]? = some (.cells #[.int .i64 ((rd_T58 ((rd_T53 l0 x26_1).f2) x34_2).f0), .int .i64 ((rd_T58 ((rd_T53 l0 x26_1).f2) x34_2).f1), .int .i64 ((rd_T58 ((rd_T53 l0 x26_1).f2) x34_2).f2), .int .i64 ((rd_T58 ((rd_T53 l0 x26_1).f2) x34_2).f3), .int .i64 ((rd_T58 ((rd_T53 l0 x26_1).f2) x34_2).f4), .int .i64 ((rd_T58 ((rd_T53 l0 x26_1).f2) x34_2).f5), .string ((rd_T58 ((rd_T53 l0 x26_1).f2) x34_2).f6), .string ((rd_T58 ((rd_T53 l0 x26_1).f2) x34_2).f7), .string ((rd_T58 ((rd_T53 l0 x26_1).f2) x34_2).f8), .int .i64 ((rd_T58 ((rd_T53 l0 x26_1).f2) x34_2).f9), .int .i64 ((rd_T58 ((rd_T53 l0 x26_1).f2) x34_2).f10), .bool ((rd_T58 ((rd_T53 l0 x26_1).f2) x34_2).f11), .slice A118_12 ((rd_T58 ((rd_T53 l0 x26_1).f2) x34_2).f12).length c118_12, .slice A118_13 ((rd_T58 ((rd_T53 l0 x26_1).f2) x34_2).f13).length c118_13] 58 (0, 0))) := ⟨by (with_reducible repeat (first | refine blk_drewN ?_ _ | refine blk_drew ?_ | refine blk_alloc ?_ _)); refine blk_far ?_ NB119_123.out _; (with_reducible repeat (first | refine blk_drewN ?_ _ | refine blk_drew ?_ | refine blk_alloc ?_ _)); refine blk_far ?_ NB119_123.out _; (with_reducible repeat (first | refine blk_drewN ?_ _ | refine blk_drew ?_ | refine blk_alloc ?_ _)); refine blk_far ?_ NB119_123.out _; (with_reducible repeat (first | refine blk_drewN ?_ _ | refine blk_drew ?_ | refine blk_alloc ?_ _)); exact BK119.out⟩
   have n4_ : Aside0 ((((w25.setCell ⟨gb123, 0, none⟩ (.string t120)).setCell ⟨gb123, 1, none⟩ (.string t121)).setCell ⟨gb123, 2, none⟩ (.string t122)).heap[gb123]? = some (.cells #[.string t120, .string t121, .string t122] 39 (0, 0))) := ⟨by (with_reducible repeat (first | refine blk_drewN ?_ _ | refine blk_drew ?_ | refine blk_alloc ?_ _)); refine blk_put (cs := #[.string t120, .string t121, .string (⟨#[]⟩ : ByteArray)]) ?_ 2 _ rfl; (with_reducible repeat (first | refine blk_drewN ?_ _ | refine blk_drew ?_ | refine blk_alloc ?_ _)); refine blk_put (cs := #[.string t120, .string (⟨#[]⟩ : ByteArray), .string (⟨#[]⟩ : ByteArray)]) ?_ 1 _ rfl; (with_reducible repeat (first | refine blk_drewN ?_ _ | refine blk_drew ?_ | refine blk_alloc ?_ _)); refine blk_put (cs := #[.string (⟨#[]⟩ : ByteArray), .string (⟨#[]⟩ : ByteArray), .string (⟨#[]⟩ : ByteArray)]) ?_ 0 _ rfl; (with_reducible repeat (first | refine blk_drewN ?_ _ | refine blk_drew ?_ | refine blk_alloc ?_ _)); exact BK123.out⟩
   have n5_ : Aside0 (Below w.heap.size w (((w25.setCell ⟨gb123, 0, none⟩ (.string t120)).setCell ⟨gb123, 1, none⟩ (.string t121)).setCell ⟨gb123, 2, none⟩ (.string t122))) := ⟨byq_6⟩
   (try clear HO_8)
   (try clear HO_11)
   (try clear BK114)
   (try clear BK119)
   (try clear BK123)
   (try clear HB)
   generalize (((w25.setCell ⟨gb123, 0, none⟩ (.string t120)).setCell ⟨gb123, 1, none⟩ (.string t121)).setCell ⟨gb123, 2, none⟩ (.string t122)) = w29 at n0_ n1_ n2_ n3_ n4_ n5_ ⊢
   have HO_8 := n0_
   have HO_11 := n1_
   have BK114 := n2_
   have BK119 := n3_
   have BK123 := n4_
   have HB := n5_
   clear n0_ n1_ n2_ n3_ n4_ n5_
   have n0_ := Aside0.mk (Mr.R_drew HO_8.out)
   have n1_ := Aside0.mk (Mr.R_drew HO_11.out)
   have n2_ := Aside0.mk (blk_drew BK114.out)
   have n3_ := Aside0.mk (blk_drew BK119.out)
   have n4_ := Aside0.mk (blk_drew BK123.out)
   have n5_ := Aside0.mk (below_drew1 HB.out)
   clear HO_8
   clear HO_11
   clear BK114
   clear BK119
   clear BK123
   clear HB
   have HO_8 := n0_
   have HO_11 := n1_
   have BK114 := n2_
   have BK119 := n3_
   have BK123 := n4_
   have HB := n5_
   clear n0_ n1_ n2_ n3_ n4_ n5_
   refine start_ (n := 10) (S := fun w' => w'.cell? ⟨gb114, 0, none⟩ = some (.int .i64 ((rd_T53 l0 x26_1).f0)) ∧ w'.cell? ⟨gb114, 1, none⟩ = some (.int .i64 ((rd_T53 l0 x26_1).f1)) ∧ w'.cell? ⟨gb114, 2, none⟩ = some (.slice (some ad118) ((rd_T53 l0 x26_1).f2).length c113_2) ∧ w'.cell? ⟨gb119, 0, none⟩ = some (.int .i64 ((rd_T58 ((rd_T53 l0 x26_1).f2) x34_2).f0)) ∧ w'.cell? ⟨gb119, 1, none⟩ = some (.int .i64 ((rd_T58 ((rd_T53 l0 x26_1).f2) x34_2).f1)) ∧ w'.cell? ⟨gb119, 2, none⟩ = some (.int .i64 ((rd_T58 ((rd_T53 l0 x26_1).f2) x34_2).f2)) ∧ w'.cell? ⟨gb119, 3, none⟩ = some (.int .i64 ((rd_T58 ((rd_T53 l0 x26_1).f2) x34_2).f3)) ∧ w'.cell? ⟨gb119, 4, none⟩ = some (.int .i64 ((rd_T58 ((rd_T53 l0 x26_1).f2) x34_2).f4)) ∧ w'.cell? ⟨gb119, 5, none⟩ = some (.int .i64 ((rd_T58 ((rd_T53 l0 x26_1).f2) x34_2).f5)) ∧ w'.cell? ⟨gb119, 6, none⟩ = some (.string ((rd_T58 ((rd_T53 l0 x26_1).f2) x34_2).f6)) ∧ w'.cell? ⟨gb119, 7, none⟩ = some (.string ((rd_T58 ((rd_T53 l0 x26_1).f2) x34_2).f7)) ∧ w'.cell? ⟨gb119, 8, none⟩ = some (.string ((rd_T58 ((rd_T53 l0 x26_1).f2) x34_2).f8)) ∧ w'.cell? ⟨gb119, 9, none⟩ = some (.int .i64 ((rd_T58 ((rd_T53 l0 x26_1).f2) x34_2).f9)) ∧ w'.cell? ⟨gb119, 10, none⟩ = some (.int .i64 ((rd_T58 ((rd_T53 l0 x26_1).f2) x34_2).f10)) ∧ w'.cell? ⟨gb119, 11, none⟩ = some (.bool ((rd_T58 ((rd_T53 l0 x26_1).f2) x34_2).f11)) ∧ w'.cell? ⟨gb119, 12, none⟩ = some (.slice A118_12 ((rd_T58 ((rd_T53 l0 x26_1).f2) x34_2).f12).length c118_12) ∧ w'.cell? ⟨gb119, 13, none⟩ = some (.slice A118_13 ((rd_T58 ((rd_T53 l0 x26_1).f2) x34_2).f13).length c118_13)) (ds := []) #[F1879, F1879, F1879, F1879, F1879, F1879, F1879, F1879, F1879, F1879] (by kernel_rfl) rfl rfl ⟨(blk_cell BK114.out 0).trans rfl, (blk_cell BK114.out 1).trans rfl, (blk_cell BK114.out 2).trans rfl, (blk_cell BK119.out 0).trans rfl, (blk_cell BK119.out 1).trans rfl, (blk_cell BK119.out 2).trans rfl, (blk_cell BK119.out 3).trans rfl, (blk_cell BK119.out 4).trans rfl, (blk_cell BK119.out 5).trans rfl, (blk_cell BK119.out 6).trans rfl, (blk_cell BK119.out 7).trans rfl, (blk_cell BK119.out 8).trans rfl, (blk_cell BK119.out 9).trans rfl, (blk_cell BK119.out 10).trans rfl, (blk_cell BK119.out 11).trans rfl, (blk_cell BK119.out 12).trans rfl, (blk_cell BK119.out 13).trans rfl⟩ (fun hHeld => ?_); refine with_tabW estimate_By.tab13 estimate_By.bits13 (fun HT_ HW_ => ?_)
   generalize w29.drew = w30 at HO_8 HO_11 BK114 BK119 BK123 HB hHeld ⊢
   refine pure_ (i := 0) (N := some 41) (v := ?_) (a' := ?_) #[T1879, F1879, F1879, F1879, F1879, F1879, F1879, F1879, F1879, F1879] rfl rfl (any_of HT_.out (by kernel_rfl)) (fun _ _ _ h => h) (Or.inl ⟨by rfl, ?_⟩) ?_ ?_
   rotate_left
   ·intro w'
    go_simp
    with_reducible rfl
   rotate_left
   ·simp only [Act.put, List.setIfInBounds_toArray, List.set_cons_zero, List.set_cons_succ, i64_w, i32_w]
    rfl
   refine pure_ (i := 2) (N := some 43) (v := ?_) (a' := ?_) #[T1879, F1879, T1879, F1879, F1879, F1879, F1879, F1879, F1879, F1879] rfl rfl (any_of HT_.out (by kernel_rfl)) (fun _ _ _ h => h) (Or.inl ⟨by rfl, ?_⟩) ?_ ?_
   rotate_left
   ·intro w'
    go_simp
    with_reducible rfl
   rotate_left
   ·simp only [Act.put, List.setIfInBounds_toArray, List.set_cons_zero, List.set_cons_succ, i64_w, i32_w]
    rfl
   refine take_ (i := 1) (N := some 42) (v := ?_) (a' := ?_) #[T1879, T1879, T1879, F1879, F1879, F1879, F1879, F1879, F1879, F1879] rfl rfl (take_ofW HT_.out HW_.out (by kernel_rfl)) (fun _ _ _ h => h) (Or.inl ⟨by rfl, ?_⟩) hHeld ?_ ?_
   rotate_left
   ·rintro w' ⟨s0, s1, s2, s3, s4, s5, s6, s7, s8, s9, s10, s11, s12, s13, s14, s15, s16⟩
    go_simp
    with_reducible rfl
   rotate_left
   ·simp only [Act.put, List.setIfInBounds_toArray, List.set_cons_zero, List.set_cons_succ, i64_w, i32_w]
    rfl
   refine take_ (i := 3) (N := some 44) (v := ?_) (a' := ?_) #[T1879, T1879, T1879, T1879, F1879, F1879, F1879, F1879, F1879, F1879] rfl rfl (take_ofW HT_.out HW_.out (by kernel_rfl)) (fun _ _ _ h => h) (Or.inl ⟨by rfl, ?_⟩) hHeld ?_ ?_
   rotate_left
   ·rintro w' ⟨s0, s1, s2, s3, s4, s5, s6, s7, s8, s9, s10, s11, s12, s13, s14, s15, s16⟩
    go_simp
    with_reducible rfl
   rotate_left
   ·simp only [Act.put, List.setIfInBounds_toArray, List.set_cons_zero, List.set_cons_succ, i64_w, i32_w]
    rfl
   refine take_ (i := 4) (N := some 45) (v := ?_) (a' := ?_) #[T1879, T1879, T1879, T1879, T1879, F1879, F1879, F1879, F1879, F1879] rfl rfl (take_ofW HT_.out HW_.out (by kernel_rfl)) (fun _ _ _ h => h) (Or.inl ⟨by rfl, ?_⟩) hHeld ?_ ?_
   rotate_left
   ·rintro w' ⟨s0, s1, s2, s3, s4, s5, s6, s7, s8, s9, s10, s11, s12, s13, s14, s15, s16⟩
    go_simp
    with_reducible rfl
   rotate_left
   ·simp only [Act.put, List.setIfInBounds_toArray, List.set_cons_zero, List.set_cons_succ, i64_w, i32_w]
    rfl
   refine join_ (σ := Nat) 1 #[T1879, T1879, T1879, T1879, T1879, T1879, T1879, T1879, T1879, F1879] (fun s_ => [(46, .int .i64 t124), (15, .pointer (some ⟨s_, 0, none⟩)), (47, .int .i64 (wrap64 (((rd_T53 l0 x26_1).f1) * t124))), (48, .agg #[.int .i64 ((rd_T53 l0 x26_1).f1), .int .i64 0, .int .i64 (wrap64 (((rd_T53 l0 x26_1).f1) * t124)), .int .i64 0])]) (fun s_ w' => (w'.cell? ⟨gb114, 0, none⟩ = some (.int .i64 ((rd_T53 l0 x26_1).f0)) ∧ w'.cell? ⟨gb114, 1, none⟩ = some (.int .i64 ((rd_T53 l0 x26_1).f1)) ∧ w'.cell? ⟨gb114, 2, none⟩ = some (.slice (some ad118) ((rd_T53 l0 x26_1).f2).length c113_2) ∧ w'.cell? ⟨gb119, 0, none⟩ = some (.int .i64 ((rd_T58 ((rd_T53 l0 x26_1).f2) x34_2).f0)) ∧ w'.cell? ⟨gb119, 1, none⟩ = some (.int .i64 ((rd_T58 ((rd_T53 l0 x26_1).f2) x34_2).f1)) ∧ w'.cell? ⟨gb119, 2, none⟩ = some (.int .i64 ((rd_T58 ((rd_T53 l0 x26_1).f2) x34_2).f2)) ∧ w'.cell? ⟨gb119, 3, none⟩ = some (.int .i64 ((rd_T58 ((rd_T53 l0 x26_1).f2) x34_2).f3)) ∧ w'.cell? ⟨gb119, 4, none⟩ = some (.int .i64 ((rd_T58 ((rd_T53 l0 x26_1).f2) x34_2).f4)) ∧ w'.cell? ⟨gb119, 5, none⟩ = some (.int .i64 ((rd_T58 ((rd_T53 l0 x26_1).f2) x34_2).f5)) ∧ w'.cell? ⟨gb119, 6, none⟩ = some (.string ((rd_T58 ((rd_T53 l0 x26_1).f2) x34_2).f6)) ∧ w'.cell? ⟨gb119, 7, none⟩ = some (.string ((rd_T58 ((rd_T53 l0 x26_1).f2) x34_2).f7)) ∧ w'.cell? ⟨gb119, 8, none⟩ = some (.string ((rd_T58 ((rd_T53 l0 x26_1).f2) x34_2).f8)) ∧ w'.cell? ⟨gb119, 9, none⟩ = some (.int .i64 ((rd_T58 ((rd_T53 l0 x26_1).f2) x34_2).f9)) ∧ w'.cell? ⟨gb119, 10, none⟩ = some (.int .i64 ((rd_T58 ((rd_T53 l0 x26_1).f2) x34_2).f10)) ∧ w'.cell? ⟨gb119, 11, none⟩ = some (.bool ((rd_T58 ((rd_T53 l0 x26_1).f2) x34_2).f11)) ∧ w'.cell? ⟨gb119, 12, none⟩ = some (.slice A118_12 ((rd_T58 ((rd_T53 l0 x26_1).f2) x34_2).f12).length c118_12) ∧ w'.cell? ⟨gb119, 13, none⟩ = some (.slice A118_13 ((rd_T58 ((rd_T53 l0 x26_1).f2) x34_2).f13).length c118_13)) ∧ (Mr.R Mr.mS w' w.heap.size (fun k_ => some k_ ≠ Mr.mB (v108)) v116 x11_2) ∧ (Mr.R Mr.mT w' w.heap.size (fun k_ => some k_ ≠ Mr.mB (v116)) v108 x8_2) ∧ (w'.heap[gb114]? = some (.cells #[.int .i64 ((rd_T53 l0 x26_1).f0), .int .i64 ((rd_T53 l0 x26_1).f1), .slice (some ad118) ((rd_T53 l0 x26_1).f2).length c113_2] 53 (0, 0))) ∧ (w'.heap[gb119]? = some (.cells #[.int .i64 ((rd_T58 ((rd_T53 l0 x26_1).f2) x34_2).f0), .int .i64 ((rd_T58 ((rd_T53 l0 x26_1).f2) x34_2).f1), .int .i64 ((rd_T58 ((rd_T53 l0 x26_1).f2) x34_2).f2), .int .i64 ((rd_T58 ((rd_T53 l0 x26_1).f2) x34_2).f3), .int .i64 ((rd_T58 ((rd_T53 l0 x26_1).f2) x34_2).f4), .int .i64 ((rd_T58 ((rd_T53 l0 x26_1).f2) x34_2).f5), .string ((rd_T58 ((rd_T53 l0 x26_1).f2) x34_2).f6), .string ((rd_T58 ((rd_T53 l0 x26_1).f2) x34_2).f7), .string ((rd_T58 ((rd_T53 l0 x26_1).f2) x34_2).f8), .int .i64 ((rd_T58 ((rd_T53 l0 x26_1).f2) x34_2).f9), .int .i64 ((rd_T58 ((rd_T53 l0 x26_1).f2) x34_2).f10), .bool ((rd_T58 ((rd_T53 l0 x26_1).f2) x34_2).f11), .slice A118_12 ((rd_T58 ((rd_T53 l0 x26_1).f2) x34_2).f12).length c118_12, .slice A118_13 ((rd_T58 ((rd_T53 l0 x26_1).f2) x34_2).f13).length c118_13] 58 (0, 0))) ∧ (w'.heap[gb123]? = some (.cells #[.string t120, .string t121, .string t122] 39 (0, 0))) ∧ (w'.heap[s_]? = some (.cells #[.int .i64 0, .int .i64 0, .int .i64 0, .int .i64 0] 37 (0, 0))) ∧ (w.heap.size ≤ s_) ∧ (w.heap.size ≤ s_) ∧ (gb114 ≠ s_) ∧ (s_ ≠ gb114) ∧ (gb119 ≠ s_) ∧ (s_ ≠ gb119) ∧ (gb123 ≠ s_) ∧ (s_ ≠ gb123) ∧ (Below w.heap.size w w')) ?_ ?_
   rotate_left
   ·intro hCont
    refine two_ (i := 5) (j := 8) (Ni := some 46) (Nj := some 15) #[T1879, T1879, T1879, T1879, T1879, T1879, F1879, F1879, F1879, F1879] #[T1879, T1879, T1879, T1879, T1879, F1879, F1879, F1879, T1879, F1879] rfl rfl rfl rfl (two_of HT_.out (by kernel_rfl)) (by decide) (by decide) (fun K hK => ?_) (fun K hK => ?_)
    ·skip
     refine goes_ Try.func38 (by kernel_rfl) rfl #[.agg #[.int .i64 ((rd_T58 ((rd_T53 l0 x26_1).f2) x34_2).f0), .int .i64 ((rd_T58 ((rd_T53 l0 x26_1).f2) x34_2).f1), .int .i64 ((rd_T58 ((rd_T53 l0 x26_1).f2) x34_2).f2), .int .i64 ((rd_T58 ((rd_T53 l0 x26_1).f2) x34_2).f3), .int .i64 ((rd_T58 ((rd_T53 l0 x26_1).f2) x34_2).f4), .int .i64 ((rd_T58 ((rd_T53 l0 x26_1).f2) x34_2).f5), .string ((rd_T58 ((rd_T53 l0 x26_1).f2) x34_2).f6), .string ((rd_T58 ((rd_T53 l0 x26_1).f2) x34_2).f7), .string ((rd_T58 ((rd_T53 l0 x26_1).f2) x34_2).f8), .int .i64 ((rd_T58 ((rd_T53 l0 x26_1).f2) x34_2).f9), .int .i64 ((rd_T58 ((rd_T53 l0 x26_1).f2) x34_2).f10), .bool ((rd_T58 ((rd_T53 l0 x26_1).f2) x34_2).f11), .slice A118_12 ((rd_T58 ((rd_T53 l0 x26_1).f2) x34_2).f12).length c118_12, .slice A118_13 ((rd_T58 ((rd_T53 l0 x26_1).f2) x34_2).f13).length c118_13]] (by rfl) rfl rfl byq_11 ?_
     with_reducible refine (span_Duration.calls ((rd_T58 ((rd_T53 l0 x26_1).f2) x34_2).f0) ((rd_T58 ((rd_T53 l0 x26_1).f2) x34_2).f1) ((rd_T58 ((rd_T53 l0 x26_1).f2) x34_2).f2) ((rd_T58 ((rd_T53 l0 x26_1).f2) x34_2).f3) ((rd_T58 ((rd_T53 l0 x26_1).f2) x34_2).f4) ((rd_T58 ((rd_T53 l0 x26_1).f2) x34_2).f5) ((rd_T58 ((rd_T53 l0 x26_1).f2) x34_2).f6) ((rd_T58 ((rd_T53 l0 x26_1).f2) x34_2).f7) ((rd_T58 ((rd_T53 l0 x26_1).f2) x34_2).f8) ((rd_T58 ((rd_T53 l0 x26_1).f2) x34_2).f9) ((rd_T58 ((rd_T53 l0 x26_1).f2) x34_2).f10) ((rd_T58 ((rd_T53 l0 x26_1).f2) x34_2).f11) _ _ ((rd_T58 ((rd_T53 l0 x26_1).f2) x34_2).f12) _ _ ((rd_T58 ((rd_T53 l0 x26_1).f2) x34_2).f13) t124 _ ?side1 ?side2 ?side3 ?side4 A19.out).mono ?_
     (case side1 => exact byq_14)
     (case side2 => exact HC118_12.out)
     (case side3 => exact byq_15)
     (case side4 => exact HC118_13.out)
     rintro e w31 ⟨rfl, hb⟩
     refine ⟨_, rfl, ?_⟩
     have n0_ := Aside0.mk (Mr.R_below byq_4 hb)
     have n1_ := Aside0.mk (Mr.R_below byq_5 hb)
     have n2_ := Aside0.mk (blk_below (g := gb114) (o := .cells #[.int .i64 ((rd_T53 l0 x26_1).f0), .int .i64 ((rd_T53 l0 x26_1).f1), .slice (some ad118) ((rd_T53 l0 x26_1).f2).length c113_2] 53 (0, 0)) byq_1 hb)
     have n3_ := Aside0.mk (blk_below (g := gb119) (o := .cells #[.int .i64 ((rd_T58 ((rd_T53 l0 x26_1).f2) x34_2).f0), .int .i64 ((rd_T58 ((rd_T53 l0 x26_1).f2) x34_2).f1), .int .i64 ((rd_T58 ((rd_T53 l0 x26_1).f2) x34_2).f2), .int .i64 ((rd_T58 ((rd_T53 l0 x26_1).f2) x34_2).f3), .int .i64 ((rd_T58 ((rd_T53 l0 x26_1).f2) x34_2).f4), .int .i64 ((rd_T58 ((rd_T53 l0 x26_1).f2) x34_2).f5), .string ((rd_T58 ((rd_T53 l0 x26_1).f2) x34_2).f6), .string ((rd_T58 ((rd_T53 l0 x26_1).f2) x34_2).f7), .string ((rd_T58 ((rd_T53 l0 x26_1).f2) x34_2).f8), .int .i64 ((rd_T58 ((rd_T53 l0 x26_1).f2) x34_2).f9), .int .i64 ((rd_T58 ((rd_T53 l0 x26_1).f2) x34_2).f10), .bool ((rd_T58 ((rd_T53 l0 x26_1).f2) x34_2).f11), .slice A118_12 ((rd_T58 ((rd_T53 l0 x26_1).f2) x34_2).f12).length c118_12, .slice A118_13 ((rd_T58 ((rd_T53 l0 x26_1).f2) x34_2).f13).length c118_13] 58 (0, 0)) byq_2 hb)
     have n4_ := Aside0.mk (blk_below (g := gb123) (o := .cells #[.string t120, .string t121, .string t122] 39 (0, 0)) byq_3 hb)
     have n5_ := Aside0.mk (below_step byq_6 hb)
     clear HO_8
     clear HO_11
     clear BK114
     clear BK119
     clear BK123
     clear HB
     have HO_8 := n0_
     have HO_11 := n1_
     have BK114 := n2_
     have BK119 := n3_
     have BK123 := n4_
     have HB := n5_
     clear n0_ n1_ n2_ n3_ n4_ n5_
     (try clear hb)
     (try clear hb2)
     (try clear hk)
     (try clear hi)
     refine hK.out _ _ ⟨(blk_cell BK114.out 0).trans rfl, (blk_cell BK114.out 1).trans rfl, (blk_cell BK114.out 2).trans rfl, (blk_cell BK119.out 0).trans rfl, (blk_cell BK119.out 1).trans rfl, (blk_cell BK119.out 2).trans rfl, (blk_cell BK119.out 3).trans rfl, (blk_cell BK119.out 4).trans rfl, (blk_cell BK119.out 5).trans rfl, (blk_cell BK119.out 6).trans rfl, (blk_cell BK119.out 7).trans rfl, (blk_cell BK119.out 8).trans rfl, (blk_cell BK119.out 9).trans rfl, (blk_cell BK119.out 10).trans rfl, (blk_cell BK119.out 11).trans rfl, (blk_cell BK119.out 12).trans rfl, (blk_cell BK119.out 13).trans rfl⟩ (fun hHeld => ?_)
     clear hK K
     refine norm_ (a' := ?_) ?_ ?_
     rotate_left
     ·show Act.put _ (some 46) _ = _
      simp only [Act.put, List.setIfInBounds_toArray, List.set_cons_zero, List.set_cons_succ, i64_w, i32_w]
      rfl
     refine pure_ (i := 6) (N := some 47) (v := ?_) (a' := ?_) #[T1879, T1879, T1879, T1879, T1879, T1879, T1879, F1879, F1879, F1879] rfl rfl (any_of HT_.out (by kernel_rfl)) (fun _ _ _ h => h) (Or.inl ⟨by rfl, ?_⟩) ?_ ?_
     rotate_left
     ·intro w'
      go_simp
      with_reducible rfl
     rotate_left
     ·simp only [Act.put, List.setIfInBounds_toArray, List.set_cons_zero, List.set_cons_succ, i64_w, i32_w]
      rfl
     refine pure_ (i := 7) (N := some 48) (v := ?_) (a' := ?_) #[T1879, T1879, T1879, T1879, T1879, T1879, T1879, T1879, F1879, F1879] rfl rfl (any_of HT_.out (by kernel_rfl)) (fun _ _ _ h => h) (Or.inl ⟨by rfl, ?_⟩) ?_ ?_
     rotate_left
     ·intro w'
      go_simp
      with_reducible rfl
     rotate_left
     ·simp only [Act.put, List.setIfInBounds_toArray, List.set_cons_zero, List.set_cons_succ, i64_w, i32_w]
      rfl
     refine one_ (i := 8) (N := some 15) #[T1879, T1879, T1879, T1879, T1879, T1879, T1879, T1879, T1879, F1879] rfl rfl (one_of HT_.out (by kernel_rfl)) (by decide) (fun K hK => ?_)
     refine box_step ?hg (N := 15) ?hd (cs := #[.int .i64 0, .int .i64 0, .int .i64 0, .int .i64 0]) (t := 37) ?hr ?_; (case hd => rfl); (case hg => rfl); (case hr => first | (go_simp; done) | (go_simp; rfl))
     intro gb125 hg w32 hbox hb
     have n0_ := Aside0.mk (Mr.R_below byq_4 hb)
     have n1_ := Aside0.mk (Mr.R_below byq_5 hb)
     have n2_ := Aside0.mk (blk_below (g := gb114) (o := .cells #[.int .i64 ((rd_T53 l0 x26_1).f0), .int .i64 ((rd_T53 l0 x26_1).f1), .slice (some ad118) ((rd_T53 l0 x26_1).f2).length c113_2] 53 (0, 0)) byq_1 hb)
     have n3_ := Aside0.mk (blk_below (g := gb119) (o := .cells #[.int .i64 ((rd_T58 ((rd_T53 l0 x26_1).f2) x34_2).f0), .int .i64 ((rd_T58 ((rd_T53 l0 x26_1).f2) x34_2).f1), .int .i64 ((rd_T58 ((rd_T53 l0 x26_1).f2) x34_2).f2), .int .i64 ((rd_T58 ((rd_T53 l0 x26_1).f2) x34_2).f3), .int .i64 ((rd_T58 ((rd_T53 l0 x26_1).f2) x34_2).f4), .int .i64 ((rd_T58 ((rd_T53 l0 x26_1).f2) x34_2).f5), .string ((rd_T58 ((rd_T53 l0 x26_1).f2) x34_2).f6), .string ((rd_T58 ((rd_T53 l0 x26_1).f2) x34_2).f7), .string ((rd_T58 ((rd_T53 l0 x26_1).f2) x34_2).f8), .int .i64 ((rd_T58 ((rd_T53 l0 x26_1).f2) x34_2).f9), .int .i64 ((rd_T58 ((rd_T53 l0 x26_1).f2) x34_2).f10), .bool ((rd_T58 ((rd_T53 l0 x26_1).f2) x34_2).f11), .slice A118_12 ((rd_T58 ((rd_T53 l0 x26_1).f2) x34_2).f12).length c118_12, .slice A118_13 ((rd_T58 ((rd_T53 l0 x26_1).f2) x34_2).f13).length c118_13] 58 (0, 0)) byq_2 hb)
     have n4_ := Aside0.mk (blk_below (g := gb123) (o := .cells #[.string t120, .string t121, .string t122] 39 (0, 0)) byq_3 hb)
     have n5_ := Aside0.mk (below_step byq_6 hb)
     have n6_ := Aside0.mk (hbox)
     have n7_ := Aside0.mk ((by rw [hg]; exact (below_size byq_6) : w.heap.size ≤ gb125))
     have n8_ := Aside0.mk ((by rw [hg]; exact (below_size byq_6) : w.heap.size ≤ gb125))
     have n9_ := Aside0.mk ((by rw [hg]; exact Nat.ne_of_lt (blk_lt (g := gb114) (o := .cells #[.int .i64 ((rd_T53 l0 x26_1).f0), .int .i64 ((rd_T53 l0 x26_1).f1), .slice (some ad118) ((rd_T53 l0 x26_1).f2).length c113_2] 53 (0, 0)) byq_1) : gb114 ≠ gb125))
     have n10_ := Aside0.mk ((by rw [hg]; exact Nat.ne_of_gt (blk_lt (g := gb114) (o := .cells #[.int .i64 ((rd_T53 l0 x26_1).f0), .int .i64 ((rd_T53 l0 x26_1).f1), .slice (some ad118) ((rd_T53 l0 x26_1).f2).length c113_2] 53 (0, 0)) byq_1) : gb125 ≠ gb114))
     have n11_ := Aside0.mk ((by rw [hg]; exact Nat.ne_of_lt (blk_lt (g := gb119) (o := .cells #[.int .i64 ((rd_T58 ((rd_T53 l0 x26_1).f2) x34_2).f0), .int .i64 ((rd_T58 ((rd_T53 l0 x26_1).f2) x34_2).f1), .int .i64 ((rd_T58 ((rd_T53 l0 x26_1).f2) x34_2).f2), .int .i64 ((rd_T58 ((rd_T53 l0 x26_1).f2) x34_2).f3), .int .i64 ((rd_T58 ((rd_T53 l0 x26_1).f2) x34_2).f4), .int .i64 ((rd_T58 ((rd_T53 l0 x26_1).f2) x34_2).f5), .string ((rd_T58 ((rd_T53 l0 x26_1).f2) x34_2).f6), .string ((rd_T58 ((rd_T53 l0 x26_1).f2) x34_2).f7), .string ((rd_T58 ((rd_T53 l0 x26_1).f2) x34_2).f8), .int .i64 ((rd_T58 ((rd_T53 l0 x26_1).f2) x34_2).f9), .int .i64 ((rd_T58 ((rd_T53 l0 x26_1).f2) x34_2).f10), .bool ((rd_T58 ((rd_T53 l0 x26_1).f2) x34_2).f11), .slice A118_12 ((rd_T58 ((rd_T53 l0 x26_1).f2) x34_2).f12).length c118_12, .slice A118_13 ((rd_T58 ((rd_T53 l0 x26_1).f2) x34_2).f13).length c118_13] 58 (0, 0)) byq_2) : gb119 ≠ gb125))
     have n12_ := Aside0.mk ((by rw [hg]; exact Nat.ne_of_gt (blk_lt (g := gb119) (o := .cells #[.int .i64 ((rd_T58 ((rd_T53 l0 x26_1).f2) x34_2).f0), .int .i64 ((rd_T58 ((rd_T53 l0 x26_1).f2) x34_2).f1), .int .i64 ((rd_T58 ((rd_T53 l0 x26_1).f2) x34_2).f2), .int .i64 ((rd_T58 ((rd_T53 l0 x26_1).f2) x34_2).f3), .int .i64 ((rd_T58 ((rd_T53 l0 x26_1).f2) x34_2).f4), .int .i64 ((rd_T58 ((rd_T53 l0 x26_1).f2) x34_2).f5), .string ((rd_T58 ((rd_T53 l0 x26_1).f2) x34_2).f6), .string ((rd_T58 ((rd_T53 l0 x26_1).f2) x34_2).f7), .string ((rd_T58 ((rd_T53 l0 x26_1).f2) x34_2).f8), .int .i64 ((rd_T58 ((rd_T53 l0 x26_1).f2) x34_2).f9), .int .i64 ((rd_T58 ((rd_T53 l0 x26_1).f2) x34_2).f10), .bool ((rd_T58 ((rd_T53 l0 x26_1).f2) x34_2).f11), .slice A118_12 ((rd_T58 ((rd_T53 l0 x26_1).f2) x34_2).f12).length c118_12, .slice A118_13 ((rd_T58 ((rd_T53 l0 x26_1).f2) x34_2).f13).length c118_13] 58 (0, 0)) byq_2) : gb125 ≠ gb119))
     have n13_ := Aside0.mk ((by rw [hg]; exact Nat.ne_of_lt (blk_lt (g := gb123) (o := .cells #[.string t120, .string t121, .string t122] 39 (0, 0)) byq_3) : gb123 ≠ gb125))
     have n14_ := Aside0.mk ((by rw [hg]; exact Nat.ne_of_gt (blk_lt (g := gb123) (o := .cells #[.string t120, .string t121, .string t122] 39 (0, 0)) byq_3) : gb125 ≠ gb123))
     clear HO_8
     clear HO_11
     clear BK114
     clear BK119
     clear BK123
     clear HB
     have HO_8 := n0_
     have HO_11 := n1_
     have BK114 := n2_
     have BK119 := n3_
     have BK123 := n4_
     have HB := n5_
     have BK125 := n6_
     have GW125 := n7_
     have GE125 := n8_
     have NB114_125 := n9_
     have NB125_114 := n10_
     have NB119_125 := n11_
     have NB125_119 := n12_
     have NB123_125 := n13_
     have NB125_123 := n14_
     clear n0_ n1_ n2_ n3_ n4_ n5_ n6_ n7_ n8_ n9_ n10_ n11_ n12_ n13_ n14_
     clear hb hbox hg
     refine hK.out _ _ ⟨(blk_cell BK114.out 0).trans rfl, (blk_cell BK114.out 1).trans rfl, (blk_cell BK114.out 2).trans rfl, (blk_cell BK119.out 0).trans rfl, (blk_cell BK119.out 1).trans rfl, (blk_cell BK119.out 2).trans rfl, (blk_cell BK119.out 3).trans rfl, (blk_cell BK119.out 4).trans rfl, (blk_cell BK119.out 5).trans rfl, (blk_cell BK119.out 6).trans rfl, (blk_cell BK119.out 7).trans rfl, (blk_cell BK119.out 8).trans rfl, (blk_cell BK119.out 9).trans rfl, (blk_cell BK119.out 10).trans rfl, (blk_cell BK119.out 11).trans rfl, (blk_cell BK119.out 12).trans rfl, (blk_cell BK119.out 13).trans rfl⟩ (fun hHeld => ?_)
     clear hK K
     refine norm_ (a' := ?_) ?_ ?_
     rotate_left
     ·show Act.put _ (some 15) _ = _
      simp only [Act.put, List.setIfInBounds_toArray, List.set_cons_zero, List.set_cons_succ, i64_w, i32_w]
      rfl
     exact norm_ (by simp only [putAll, Act.put, List.setIfInBounds_toArray, List.set_cons_zero, List.set_cons_succ]) (hCont (gb125) _ ⟨hHeld, byq_5, byq_4, byq_1, byq_2, byq_3, byq_7, GW125.out, GE125.out, NB114_125.out, NB125_114.out, NB119_125.out, NB125_119.out, NB123_125.out, NB125_123.out, byq_0⟩)
    ·skip
     refine box_step ?hg (N := 15) ?hd (cs := #[.int .i64 0, .int .i64 0, .int .i64 0, .int .i64 0]) (t := 37) ?hr ?_; (case hd => rfl); (case hg => rfl); (case hr => first | (go_simp; done) | (go_simp; rfl))
     intro gb125 hg w31 hbox hb
     have n0_ := Aside0.mk (Mr.R_below byq_4 hb)
     have n1_ := Aside0.mk (Mr.R_below byq_5 hb)
     have n2_ := Aside0.mk (blk_below (g := gb114) (o := .cells #[.int .i64 ((rd_T53 l0 x26_1).f0), .int .i64 ((rd_T53 l0 x26_1).f1), .slice (some ad118) ((rd_T53 l0 x26_1).f2).length c113_2] 53 (0, 0)) byq_1 hb)
     have n3_ := Aside0.mk (blk_below (g := gb119) (o := .cells #[.int .i64 ((rd_T58 ((rd_T53 l0 x26_1).f2) x34_2).f0), .int .i64 ((rd_T58 ((rd_T53 l0 x26_1).f2) x34_2).f1), .int .i64 ((rd_T58 ((rd_T53 l0 x26_1).f2) x34_2).f2), .int .i64 ((rd_T58 ((rd_T53 l0 x26_1).f2) x34_2).f3), .int .i64 ((rd_T58 ((rd_T53 l0 x26_1).f2) x34_2).f4), .int .i64 ((rd_T58 ((rd_T53 l0 x26_1).f2) x34_2).f5), .string ((rd_T58 ((rd_T53 l0 x26_1).f2) x34_2).f6), .string ((rd_T58 ((rd_T53 l0 x26_1).f2) x34_2).f7), .string ((rd_T58 ((rd_T53 l0 x26_1).f2) x34_2).f8), .int .i64 ((rd_T58 ((rd_T53 l0 x26_1).f2) x34_2).f9), .int .i64 ((rd_T58 ((rd_T53 l0 x26_1).f2) x34_2).f10), .bool ((rd_T58 ((rd_T53 l0 x26_1).f2) x34_2).f11), .slice A118_12 ((rd_T58 ((rd_T53 l0 x26_1).f2) x34_2).f12).length c118_12, .slice A118_13 ((rd_T58 ((rd_T53 l0 x26_1).f2) x34_2).f13).length c118_13] 58 (0, 0)) byq_2 hb)
     have n4_ := Aside0.mk (blk_below (g := gb123) (o := .cells #[.string t120, .string t121, .string t122] 39 (0, 0)) byq_3 hb)
     have n5_ := Aside0.mk (below_step byq_6 hb)
     have n6_ := Aside0.mk (hbox)
     have n7_ := Aside0.mk ((by rw [hg]; exact (below_size byq_6) : w.heap.size ≤ gb125))
     have n8_ := Aside0.mk ((by rw [hg]; exact (below_size byq_6) : w.heap.size ≤ gb125))
     have n9_ := Aside0.mk ((by rw [hg]; exact Nat.ne_of_lt (blk_lt (g := gb114) (o := .cells #[.int .i64 ((rd_T53 l0 x26_1).f0), .int .i64 ((rd_T53 l0 x26_1).f1), .slice (some ad118) ((rd_T53 l0 x26_1).f2).length c113_2] 53 (0, 0)) byq_1) : gb114 ≠ gb125))
     have n10_ := Aside0.mk ((by rw [hg]; exact Nat.ne_of_gt (blk_lt (g := gb114) (o := .cells #[.int .i64 ((rd_T53 l0 x26_1).f0), .int .i64 ((rd_T53 l0 x26_1).f1), .slice (some ad118) ((rd_T53 l0 x26_1).f2).length c113_2] 53 (0, 0)) byq_1) : gb125 ≠ gb114))
     have n11_ := Aside0.mk ((by rw [hg]; exact Nat.ne_of_lt (blk_lt (g := gb119) (o := .cells #[.int .i64 ((rd_T58 ((rd_T53 l0 x26_1).f2) x34_2).f0), .int .i64 ((rd_T58 ((rd_T53 l0 x26_1).f2) x34_2).f1), .int .i64 ((rd_T58 ((rd_T53 l0 x26_1).f2) x34_2).f2), .int .i64 ((rd_T58 ((rd_T53 l0 x26_1).f2) x34_2).f3), .int .i64 ((rd_T58 ((rd_T53 l0 x26_1).f2) x34_2).f4), .int .i64 ((rd_T58 ((rd_T53 l0 x26_1).f2) x34_2).f5), .string ((rd_T58 ((rd_T53 l0 x26_1).f2) x34_2).f6), .string ((rd_T58 ((rd_T53 l0 x26_1).f2) x34_2).f7), .string ((rd_T58 ((rd_T53 l0 x26_1).f2) x34_2).f8), .int .i64 ((rd_T58 ((rd_T53 l0 x26_1).f2) x34_2).f9), .int .i64 ((rd_T58 ((rd_T53 l0 x26_1).f2) x34_2).f10), .bool ((rd_T58 ((rd_T53 l0 x26_1).f2) x34_2).f11), .slice A118_12 ((rd_T58 ((rd_T53 l0 x26_1).f2) x34_2).f12).length c118_12, .slice A118_13 ((rd_T58 ((rd_T53 l0 x26_1).f2) x34_2).f13).length c118_13] 58 (0, 0)) byq_2) : gb119 ≠ gb125))
     have n12_ := Aside0.mk ((by rw [hg]; exact Nat.ne_of_gt (blk_lt (g := gb119) (o := .cells #[.int .i64 ((rd_T58 ((rd_T53 l0 x26_1).f2) x34_2).f0), .int .i64 ((rd_T58 ((rd_T53 l0 x26_1).f2) x34_2).f1), .int .i64 ((rd_T58 ((rd_T53 l0 x26_1).f2) x34_2).f2), .int .i64 ((rd_T58 ((rd_T53 l0 x26_1).f2) x34_2).f3), .int .i64 ((rd_T58 ((rd_T53 l0 x26_1).f2) x34_2).f4), .int .i64 ((rd_T58 ((rd_T53 l0 x26_1).f2) x34_2).f5), .string ((rd_T58 ((rd_T53 l0 x26_1).f2) x34_2).f6), .string ((rd_T58 ((rd_T53 l0 x26_1).f2) x34_2).f7), .string ((rd_T58 ((rd_T53 l0 x26_1).f2) x34_2).f8), .int .i64 ((rd_T58 ((rd_T53 l0 x26_1).f2) x34_2).f9), .int .i64 ((rd_T58 ((rd_T53 l0 x26_1).f2) x34_2).f10), .bool ((rd_T58 ((rd_T53 l0 x26_1).f2) x34_2).f11), .slice A118_12 ((rd_T58 ((rd_T53 l0 x26_1).f2) x34_2).f12).length c118_12, .slice A118_13 ((rd_T58 ((rd_T53 l0 x26_1).f2) x34_2).f13).length c118_13] 58 (0, 0)) byq_2) : gb125 ≠ gb119))
     have n13_ := Aside0.mk ((by rw [hg]; exact Nat.ne_of_lt (blk_lt (g := gb123) (o := .cells #[.string t120, .string t121, .string t122] 39 (0, 0)) byq_3) : gb123 ≠ gb125))
     have n14_ := Aside0.mk ((by rw [hg]; exact Nat.ne_of_gt (blk_lt (g := gb123) (o := .cells #[.string t120, .string t121, .string t122] 39 (0, 0)) byq_3) : gb125 ≠ gb123))
     clear HO_8
     clear HO_11
     clear BK114
     clear BK119
     clear BK123
     clear HB
     have HO_8 := n0_
     have HO_11 := n1_
     have BK114 := n2_
     have BK119 := n3_
     have BK123 := n4_
     have HB := n5_
     have BK125 := n6_
     have GW125 := n7_
     have GE125 := n8_
     have NB114_125 := n9_
     have NB125_114 := n10_
     have NB119_125 := n11_
     have NB125_119 := n12_
     have NB123_125 := n13_
     have NB125_123 := n14_
     clear n0_ n1_ n2_ n3_ n4_ n5_ n6_ n7_ n8_ n9_ n10_ n11_ n12_ n13_ n14_
     clear hb hbox hg
     refine hK.out _ _ ⟨(blk_cell BK114.out 0).trans rfl, (blk_cell BK114.out 1).trans rfl, (blk_cell BK114.out 2).trans rfl, (blk_cell BK119.out 0).trans rfl, (blk_cell BK119.out 1).trans rfl, (blk_cell BK119.out 2).trans rfl, (blk_cell BK119.out 3).trans rfl, (blk_cell BK119.out 4).trans rfl, (blk_cell BK119.out 5).trans rfl, (blk_cell BK119.out 6).trans rfl, (blk_cell BK119.out 7).trans rfl, (blk_cell BK119.out 8).trans rfl, (blk_cell BK119.out 9).trans rfl, (blk_cell BK119.out 10).trans rfl, (blk_cell BK119.out 11).trans rfl, (blk_cell BK119.out 12).trans rfl, (blk_cell BK119.out 13).trans rfl⟩ (fun hHeld => ?_)
     clear hK K
     refine norm_ (a' := ?_) ?_ ?_
     rotate_left
     ·show Act.put _ (some 15) _ = _
      simp only [Act.put, List.setIfInBounds_toArray, List.set_cons_zero, List.set_cons_succ, i64_w, i32_w]
      rfl
     refine one_ (i := 5) (N := some 46) #[T1879, T1879, T1879, T1879, T1879, T1879, F1879, F1879, T1879, F1879] rfl rfl (one_of HT_.out (by kernel_rfl)) (by decide) (fun K hK => ?_)
     refine goes_ Try.func38 (by kernel_rfl) rfl #[.agg #[.int .i64 ((rd_T58 ((rd_T53 l0 x26_1).f2) x34_2).f0), .int .i64 ((rd_T58 ((rd_T53 l0 x26_1).f2) x34_2).f1), .int .i64 ((rd_T58 ((rd_T53 l0 x26_1).f2) x34_2).f2), .int .i64 ((rd_T58 ((rd_T53 l0 x26_1).f2) x34_2).f3), .int .i64 ((rd_T58 ((rd_T53 l0 x26_1).f2) x34_2).f4), .int .i64 ((rd_T58 ((rd_T53 l0 x26_1).f2) x34_2).f5), .string ((rd_T58 ((rd_T53 l0 x26_1).f2) x34_2).f6), .string ((rd_T58 ((rd_T53 l0 x26_1).f2) x34_2).f7), .string ((rd_T58 ((rd_T53 l0 x26_1).f2) x34_2).f8), .int .i64 ((rd_T58 ((rd_T53 l0 x26_1).f2) x34_2).f9), .int .i64 ((rd_T58 ((rd_T53 l0 x26_1).f2) x34_2).f10), .bool ((rd_T58 ((rd_T53 l0 x26_1).f2) x34_2).f11), .slice A118_12 ((rd_T58 ((rd_T53 l0 x26_1).f2) x34_2).f12).length c118_12, .slice A118_13 ((rd_T58 ((rd_T53 l0 x26_1).f2) x34_2).f13).length c118_13]] (by rfl) rfl rfl byq_11 ?_
     with_reducible refine (span_Duration.calls ((rd_T58 ((rd_T53 l0 x26_1).f2) x34_2).f0) ((rd_T58 ((rd_T53 l0 x26_1).f2) x34_2).f1) ((rd_T58 ((rd_T53 l0 x26_1).f2) x34_2).f2) ((rd_T58 ((rd_T53 l0 x26_1).f2) x34_2).f3) ((rd_T58 ((rd_T53 l0 x26_1).f2) x34_2).f4) ((rd_T58 ((rd_T53 l0 x26_1).f2) x34_2).f5) ((rd_T58 ((rd_T53 l0 x26_1).f2) x34_2).f6) ((rd_T58 ((rd_T53 l0 x26_1).f2) x34_2).f7) ((rd_T58 ((rd_T53 l0 x26_1).f2) x34_2).f8) ((rd_T58 ((rd_T53 l0 x26_1).f2) x34_2).f9) ((rd_T58 ((rd_T53 l0 x26_1).f2) x34_2).f10) ((rd_T58 ((rd_T53 l0 x26_1).f2) x34_2).f11) _ _ ((rd_T58 ((rd_T53 l0 x26_1).f2) x34_2).f12) _ _ ((rd_T58 ((rd_T53 l0 x26_1).f2) x34_2).f13) t124 _ ?side1 ?side2 ?side3 ?side4 A19.out).mono ?_
     (case side1 => exact byq_14)
     (case side2 => exact HC118_12.out)
     (case side3 => exact byq_15)
     (case side4 => exact HC118_13.out)
     rintro e w32 ⟨rfl, hb⟩
     refine ⟨_, rfl, ?_⟩
     have n0_ := Aside0.mk (Mr.R_below byq_4 hb)
     have n1_ := Aside0.mk (Mr.R_below byq_5 hb)
     have n2_ := Aside0.mk (blk_below (g := gb114) (o := .cells #[.int .i64 ((rd_T53 l0 x26_1).f0), .int .i64 ((rd_T53 l0 x26_1).f1), .slice (some ad118) ((rd_T53 l0 x26_1).f2).length c113_2] 53 (0, 0)) byq_1 hb)
     have n3_ := Aside0.mk (blk_below (g := gb119) (o := .cells #[.int .i64 ((rd_T58 ((rd_T53 l0 x26_1).f2) x34_2).f0), .int .i64 ((rd_T58 ((rd_T53 l0 x26_1).f2) x34_2).f1), .int .i64 ((rd_T58 ((rd_T53 l0 x26_1).f2) x34_2).f2), .int .i64 ((rd_T58 ((rd_T53 l0 x26_1).f2) x34_2).f3), .int .i64 ((rd_T58 ((rd_T53 l0 x26_1).f2) x34_2).f4), .int .i64 ((rd_T58 ((rd_T53 l0 x26_1).f2) x34_2).f5), .string ((rd_T58 ((rd_T53 l0 x26_1).f2) x34_2).f6), .string ((rd_T58 ((rd_T53 l0 x26_1).f2) x34_2).f7), .string ((rd_T58 ((rd_T53 l0 x26_1).f2) x34_2).f8), .int .i64 ((rd_T58 ((rd_T53 l0 x26_1).f2) x34_2).f9), .int .i64 ((rd_T58 ((rd_T53 l0 x26_1).f2) x34_2).f10), .bool ((rd_T58 ((rd_T53 l0 x26_1).f2) x34_2).f11), .slice A118_12 ((rd_T58 ((rd_T53 l0 x26_1).f2) x34_2).f12).length c118_12, .slice A118_13 ((rd_T58 ((rd_T53 l0 x26_1).f2) x34_2).f13).length c118_13] 58 (0, 0)) byq_2 hb)
     have n4_ := Aside0.mk (blk_below (g := gb123) (o := .cells #[.string t120, .string t121, .string t122] 39 (0, 0)) byq_3 hb)
     have n5_ := Aside0.mk (blk_below (g := gb125) (o := .cells #[.int .i64 0, .int .i64 0, .int .i64 0, .int .i64 0] 37 (0, 0)) byq_7 hb)
     have n6_ := Aside0.mk (below_step byq_0 hb)
     clear HO_8
     clear HO_11
     clear BK114
     clear BK119
     clear BK123
     clear BK125
     clear HB
     have HO_8 := n0_
     have HO_11 := n1_
     have BK114 := n2_
     have BK119 := n3_
     have BK123 := n4_
     have BK125 := n5_
     have HB := n6_
     clear n0_ n1_ n2_ n3_ n4_ n5_ n6_
     (try clear hb)
     (try clear hb2)
     (try clear hk)
     (try clear hi)
     refine hK.out _ _ ⟨(blk_cell BK114.out 0).trans rfl, (blk_cell BK114.out 1).trans rfl, (blk_cell BK114.out 2).trans rfl, (blk_cell BK119.out 0).trans rfl, (blk_cell BK119.out 1).trans rfl, (blk_cell BK119.out 2).trans rfl, (blk_cell BK119.out 3).trans rfl, (blk_cell BK119.out 4).trans rfl, (blk_cell BK119.out 5).trans rfl, (blk_cell BK119.out 6).trans rfl, (blk_cell BK119.out 7).trans rfl, (blk_cell BK119.out 8).trans rfl, (blk_cell BK119.out 9).trans rfl, (blk_cell BK119.out 10).trans rfl, (blk_cell BK119.out 11).trans rfl, (blk_cell BK119.out 12).trans rfl, (blk_cell BK119.out 13).trans rfl⟩ (fun hHeld => ?_)
     clear hK K
     refine norm_ (a' := ?_) ?_ ?_
     rotate_left
     ·show Act.put _ (some 46) _ = _
      simp only [Act.put, List.setIfInBounds_toArray, List.set_cons_zero, List.set_cons_succ, i64_w, i32_w]
      rfl
     refine pure_ (i := 6) (N := some 47) (v := ?_) (a' := ?_) #[T1879, T1879, T1879, T1879, T1879, T1879, T1879, F1879, T1879, F1879] rfl rfl (any_of HT_.out (by kernel_rfl)) (fun _ _ _ h => h) (Or.inl ⟨by rfl, ?_⟩) ?_ ?_
     rotate_left
     ·intro w'
      go_simp
      with_reducible rfl
     rotate_left
     ·simp only [Act.put, List.setIfInBounds_toArray, List.set_cons_zero, List.set_cons_succ, i64_w, i32_w]
      rfl
     refine pure_ (i := 7) (N := some 48) (v := ?_) (a' := ?_) #[T1879, T1879, T1879, T1879, T1879, T1879, T1879, T1879, T1879, F1879] rfl rfl (any_of HT_.out (by kernel_rfl)) (fun _ _ _ h => h) (Or.inl ⟨by rfl, ?_⟩) ?_ ?_
     rotate_left
     ·intro w'
      go_simp
      with_reducible rfl
     rotate_left
     ·simp only [Act.put, List.setIfInBounds_toArray, List.set_cons_zero, List.set_cons_succ, i64_w, i32_w]
      rfl
     exact norm_ (by simp only [putAll, Act.put, List.setIfInBounds_toArray, List.set_cons_zero, List.set_cons_succ]) (hCont (gb125) _ ⟨hHeld, byq_5, byq_4, byq_1, byq_2, byq_3, byq_7, GW125.out, GE125.out, NB114_125.out, NB125_114.out, NB119_125.out, NB125_119.out, NB123_125.out, NB125_123.out, byq_0⟩)
   rintro gb125 w33 ⟨hS_, h0_, h1_, h2_, h3_, h4_, h5_, h6_, h7_, h8_, h9_, h10_, h11_, h12_, h13_, h14_⟩
   have n0_ : Aside0 (Mr.R Mr.mS w33 w.heap.size (fun k_ => some k_ ≠ Mr.mB (v108)) v116 x11_2) := ⟨h0_⟩
   have n1_ : Aside0 (Mr.R Mr.mT w33 w.heap.size (fun k_ => some k_ ≠ Mr.mB (v116)) v108 x8_2) := ⟨h1_⟩
   have n2_ : Aside0 (w33.heap[gb114]? = some (.cells #[.int .i64 ((rd_T53 l0 x26_1).f0), .int .i64 ((rd_T53 l0 x26_1).f1), .slice (some ad118) ((rd_T53 l0 x26_1).f2).length c113_2] 53 (0, 0))) := ⟨h2_⟩
   have n3_ : Aside0 (w33.heap[gb119]? = some (.cells #[.int .i64 ((rd_T58 ((rd_T53 l0 x26_1).f2) x34_2).f0), .int .i64 ((rd_T58 ((rd_T53 l0 x26_1).f2) x34_2).f1), .int .i64 ((rd_T58 ((rd_T53 l0 x26_1).f2) x34_2).f2), .int .i64 ((rd_T58 ((rd_T53 l0 x26_1).f2) x34_2).f3), .int .i64 ((rd_T58 ((rd_T53 l0 x26_1).f2) x34_2).f4), .int .i64 ((rd_T58 ((rd_T53 l0 x26_1).f2) x34_2).f5), .string ((rd_T58 ((rd_T53 l0 x26_1).f2) x34_2).f6), .string ((rd_T58 ((rd_T53 l0 x26_1).f2) x34_2).f7), .string ((rd_T58 ((rd_T53 l0 x26_1).f2) x34_2).f8), .int .i64 ((rd_T58 ((rd_T53 l0 x26_1).f2) x34_2).f9), .int .i64 ((rd_T58 ((rd_T53 l0 x26_1).f2) x34_2).f10), .bool ((rd_T58 ((rd_T53 l0 x26_1).f2) x34_2).f11), .slice A118_12 ((rd_T58 ((rd_T53 l0 x26_1).f2) x34_2).f12).length c118_12, .slice A118_13 ((rd_T58 ((rd_T53 l0 x26_1).f2) x34_2).f13).length c118_13] 58 (0, 0))) := ⟨h3_⟩
   have n4_ : Aside0 (w33.heap[gb123]? = some (.cells #[.string t120, .string t121, .string t122] 39 (0, 0))) := ⟨h4_⟩
   have n5_ : Aside0 (w33.heap[gb125]? = some (.cells #[.int .i64 0, .int .i64 0, .int .i64 0, .int .i64 0] 37 (0, 0))) := ⟨h5_⟩
   have n6_ : Aside0 (w.heap.size ≤ gb125) := ⟨h6_⟩
   have n7_ : Aside0 (w.heap.size ≤ gb125) := ⟨h7_⟩
   have n8_ : Aside0 (gb114 ≠ gb125) := ⟨h8_⟩
   have n9_ : Aside0 (gb125 ≠ gb114) := ⟨h9_⟩
   have n10_ : Aside0 (gb119 ≠ gb125) := ⟨h10_⟩
   have n11_ : Aside0 (gb125 ≠ gb119) := ⟨h11_⟩
   have n12_ : Aside0 (gb123 ≠ gb125) := ⟨h12_⟩
   have n13_ : Aside0 (gb125 ≠ gb123) := ⟨h13_⟩
   have n14_ : Aside0 (Below w.heap.size w w33) := ⟨h14_⟩
   clear HO_8
   clear HO_11
   clear BK114
   clear BK119
   clear BK123
   clear HB
   clear h0_ h1_ h2_ h3_ h4_ h5_ h6_ h7_ h8_ h9_ h10_ h11_ h12_ h13_ h14_
   have HO_11 := n0_
   have HO_8 := n1_
   have BK114 := n2_
   have BK119 := n3_
   have BK123 := n4_
   have BK125 := n5_
   have GW125 := n6_
   have GE125 := n7_
   have NB114_125 := n8_
   have NB125_114 := n9_
   have NB119_125 := n10_
   have NB125_119 := n11_
   have NB123_125 := n12_
   have NB125_123 := n13_
   have HB := n14_
   clear n0_ n1_ n2_ n3_ n4_ n5_ n6_ n7_ n8_ n9_ n10_ n11_ n12_ n13_ n14_
   have hHeld : w33.cell? ⟨gb114, 0, none⟩ = some (.int .i64 ((rd_T53 l0 x26_1).f0)) ∧ w33.cell? ⟨gb114, 1, none⟩ = some (.int .i64 ((rd_T53 l0 x26_1).f1)) ∧ w33.cell? ⟨gb114, 2, none⟩ = some (.slice (some ad118) ((rd_T53 l0 x26_1).f2).length c113_2) ∧ w33.cell? ⟨gb119, 0, none⟩ = some (.int .i64 ((rd_T58 ((rd_T53 l0 x26_1).f2) x34_2).f0)) ∧ w33.cell? ⟨gb119, 1, none⟩ = some (.int .i64 ((rd_T58 ((rd_T53 l0 x26_1).f2) x34_2).f1)) ∧ w33.cell? ⟨gb119, 2, none⟩ = some (.int .i64 ((rd_T58 ((rd_T53 l0 x26_1).f2) x34_2).f2)) ∧ w33.cell? ⟨gb119, 3, none⟩ = some (.int .i64 ((rd_T58 ((rd_T53 l0 x26_1).f2) x34_2).f3)) ∧ w33.cell? ⟨gb119, 4, none⟩ = some (.int .i64 ((rd_T58 ((rd_T53 l0 x26_1).f2) x34_2).f4)) ∧ w33.cell? ⟨gb119, 5, none⟩ = some (.int .i64 ((rd_T58 ((rd_T53 l0 x26_1).f2) x34_2).f5)) ∧ w33.cell? ⟨gb119, 6, none⟩ = some (.string ((rd_T58 ((rd_T53 l0 x26_1).f2) x34_2).f6)) ∧ w33.cell? ⟨gb119, 7, none⟩ = some (.string ((rd_T58 ((rd_T53 l0 x26_1).f2) x34_2).f7)) ∧ w33.cell? ⟨gb119, 8, none⟩ = some (.string ((rd_T58 ((rd_T53 l0 x26_1).f2) x34_2).f8)) ∧ w33.cell? ⟨gb119, 9, none⟩ = some (.int .i64 ((rd_T58 ((rd_T53 l0 x26_1).f2) x34_2).f9)) ∧ w33.cell? ⟨gb119, 10, none⟩ = some (.int .i64 ((rd_T58 ((rd_T53 l0 x26_1).f2) x34_2).f10)) ∧ w33.cell? ⟨gb119, 11, none⟩ = some (.bool ((rd_T58 ((rd_T53 l0 x26_1).f2) x34_2).f11)) ∧ w33.cell? ⟨gb119, 12, none⟩ = some (.slice A118_12 ((rd_T58 ((rd_T53 l0 x26_1).f2) x34_2).f12).length c118_12) ∧ w33.cell? ⟨gb119, 13, none⟩ = some (.slice A118_13 ((rd_T58 ((rd_T53 l0 x26_1).f2) x34_2).f13).length c118_13) := hS_
   refine norm_ (a' := ?_) ?_ ?_
   rotate_left
   ·simp only [putAll, Act.put, List.setIfInBounds_toArray, List.set_cons_zero, List.set_cons_succ]
    rfl
   refine one_ (i := 9) (N := none) #[T1879, T1879, T1879, T1879, T1879, T1879, T1879, T1879, T1879, T1879] rfl rfl (one_of HT_.out (by kernel_rfl)) (by decide) (fun K hK => ?_)
   have hs34 : w33.cell? ⟨gb125, 0, none⟩ = some (.int .i64 0) := (blk_cell BK125.out 0).trans rfl
   have hfs34 := blk_frozen BK125.out 0
   have hns34_0 := NB114_125.out
   have hns34_1 := NB119_125.out
   have hns34_2 := NB123_125.out
   have hms34_0 := NB125_114.out
   have hms34_1 := NB125_119.out
   have hms34_2 := NB125_123.out
   have hs35 : w33.cell? ⟨gb125, 1, none⟩ = some (.int .i64 0) := (blk_cell BK125.out 1).trans rfl
   have hfs35 := blk_frozen BK125.out 1
   have hns35_0 := NB114_125.out
   have hns35_1 := NB119_125.out
   have hns35_2 := NB123_125.out
   have hms35_0 := NB125_114.out
   have hms35_1 := NB125_119.out
   have hms35_2 := NB125_123.out
   have hs36 : w33.cell? ⟨gb125, 2, none⟩ = some (.int .i64 0) := (blk_cell BK125.out 2).trans rfl
   have hfs36 := blk_frozen BK125.out 2
   have hns36_0 := NB114_125.out
   have hns36_1 := NB119_125.out
   have hns36_2 := NB123_125.out
   have hms36_0 := NB125_114.out
   have hms36_1 := NB125_119.out
   have hms36_2 := NB125_123.out
   have hs37 : w33.cell? ⟨gb125, 3, none⟩ = some (.int .i64 0) := (blk_cell BK125.out 3).trans rfl
   have hfs37 := blk_frozen BK125.out 3
   have hns37_0 := NB114_125.out
   have hns37_1 := NB119_125.out
   have hns37_2 := NB123_125.out
   have hms37_0 := NB125_114.out
   have hms37_1 := NB125_119.out
   have hms37_2 := NB125_123.out
   refine skip_ (w1 := ?_) (by rfl) rfl ?_ ?_
   rotate_left
   ·go_simp
    rfl
   refine hK.out _ _ ⟨((cell_far (p := ⟨gb125, _, none⟩) NB114_125.out _).trans (((cell_far (p := ⟨gb125, _, none⟩) NB114_125.out _).trans (((cell_far (p := ⟨gb125, _, none⟩) NB114_125.out _).trans (((cell_far (p := ⟨gb125, _, none⟩) NB114_125.out _).trans (hHeld.1)))))))), ((cell_far (p := ⟨gb125, _, none⟩) NB114_125.out _).trans (((cell_far (p := ⟨gb125, _, none⟩) NB114_125.out _).trans (((cell_far (p := ⟨gb125, _, none⟩) NB114_125.out _).trans (((cell_far (p := ⟨gb125, _, none⟩) NB114_125.out _).trans (hHeld.2.1)))))))), ((cell_far (p := ⟨gb125, _, none⟩) NB114_125.out _).trans (((cell_far (p := ⟨gb125, _, none⟩) NB114_125.out _).trans (((cell_far (p := ⟨gb125, _, none⟩) NB114_125.out _).trans (((cell_far (p := ⟨gb125, _, none⟩) NB114_125.out _).trans (hHeld.2.2.1)))))))), ((cell_far (p := ⟨gb125, _, none⟩) NB119_125.out _).trans (((cell_far (p := ⟨gb125, _, none⟩) NB119_125.out _).trans (((cell_far (p := ⟨gb125, _, none⟩) NB119_125.out _).trans (((cell_far (p := ⟨gb125, _, none⟩) NB119_125.out _).trans (hHeld.2.2.2.1)))))))), ((cell_far (p := ⟨gb125, _, none⟩) NB119_125.out _).trans (((cell_far (p := ⟨gb125, _, none⟩) NB119_125.out _).trans (((cell_far (p := ⟨gb125, _, none⟩) NB119_125.out _).trans (((cell_far (p := ⟨gb125, _, none⟩) NB119_125.out _).trans (hHeld.2.2.2.2.1)))))))), ((cell_far (p := ⟨gb125, _, none⟩) NB119_125.out _).trans (((cell_far (p := ⟨gb125, _, none⟩) NB119_125.out _).trans (((cell_far (p := ⟨gb125, _, none⟩) NB119_125.out _).trans (((cell_far (p := ⟨gb125, _, none⟩) NB119_125.out _).trans (hHeld.2.2.2.2.2.1)))))))), ((cell_far (p := ⟨gb125, _, none⟩) NB119_125.out _).trans (((cell_far (p := ⟨gb125, _, none⟩) NB119_125.out _).trans (((cell_far (p := ⟨gb125, _, none⟩) NB119_125.out _).trans (((cell_far (p := ⟨gb125, _, none⟩) NB119_125.out _).trans (hHeld.2.2.2.2.2.2.1)))))))), ((cell_far (p := ⟨gb125, _, none⟩) NB119_125.out _).trans (((cell_far (p := ⟨gb125, _, none⟩) NB119_125.out _).trans (((cell_far (p := ⟨gb125, _, none⟩) NB119_125.out _).trans (((cell_far (p := ⟨gb125, _, none⟩) NB119_125.out _).trans (hHeld.2.2.2.2.2.2.2.1)))))))), ((cell_far (p := ⟨gb125, _, none⟩) NB119_125.out _).trans (((cell_far (p := ⟨gb125, _, none⟩) NB119_125.out _).trans (((cell_far (p := ⟨gb125, _, none⟩) NB119_125.out _).trans (((cell_far (p := ⟨gb125, _, none⟩) NB119_125.out _).trans (hHeld.2.2.2.2.2.2.2.2.1)))))))), ((cell_far (p := ⟨gb125, _, none⟩) NB119_125.out _).trans (((cell_far (p := ⟨gb125, _, none⟩) NB119_125.out _).trans (((cell_far (p := ⟨gb125, _, none⟩) NB119_125.out _).trans (((cell_far (p := ⟨gb125, _, none⟩) NB119_125.out _).trans (hHeld.2.2.2.2.2.2.2.2.2.1)))))))), ((cell_far (p := ⟨gb125, _, none⟩) NB119_125.out _).trans (((cell_far (p := ⟨gb125, _, none⟩) NB119_125.out _).trans (((cell_far (p := ⟨gb125, _, none⟩) NB119_125.out _).trans (((cell_far (p := ⟨gb125, _, none⟩) NB119_125.out _).trans (hHeld.2.2.2.2.2.2.2.2.2.2.1)))))))), ((cell_far (p := ⟨gb125, _, none⟩) NB119_125.out _).trans (((cell_far (p := ⟨gb125, _, none⟩) NB119_125.out _).trans (((cell_far (p := ⟨gb125, _, none⟩) NB119_125.out _).trans (((cell_far (p := ⟨gb125, _, none⟩) NB119_125.out _).trans (hHeld.2.2.2.2.2.2.2.2.2.2.2.1)))))))), ((cell_far (p := ⟨gb125, _, none⟩) NB119_125.out _).trans (((cell_far (p := ⟨gb125, _, none⟩) NB119_125.out _).trans (((cell_far (p := ⟨gb125, _, none⟩) NB119_125.out _).trans (((cell_far (p := ⟨gb125, _, none⟩) NB119_125.out _).trans (hHeld.2.2.2.2.2.2.2.2.2.2.2.2.1)))))))), ((cell_far (p := ⟨gb125, _, none⟩) NB119_125.out _).trans (((cell_far (p := ⟨gb125, _, none⟩) NB119_125.out _).trans (((cell_far (p := ⟨gb125, _, none⟩) NB119_125.out _).trans (((cell_far (p := ⟨gb125, _, none⟩) NB119_125.out _).trans (hHeld.2.2.2.2.2.2.2.2.2.2.2.2.2.1)))))))), ((cell_far (p := ⟨gb125, _, none⟩) NB119_125.out _).trans (((cell_far (p := ⟨gb125, _, none⟩) NB119_125.out _).trans (((cell_far (p := ⟨gb125, _, none⟩) NB119_125.out _).trans (((cell_far (p := ⟨gb125, _, none⟩) NB119_125.out _).trans (hHeld.2.2.2.2.2.2.2.2.2.2.2.2.2.2.1)))))))), ((cell_far (p := ⟨gb125, _, none⟩) NB119_125.out _).trans (((cell_far (p := ⟨gb125, _, none⟩) NB119_125.out _).trans (((cell_far (p := ⟨gb125, _, none⟩) NB119_125.out _).trans (((cell_far (p := ⟨gb125, _, none⟩) NB119_125.out _).trans (hHeld.2.2.2.2.2.2.2.2.2.2.2.2.2.2.2.1)))))))), ((cell_far (p := ⟨gb125, _, none⟩) NB119_125.out _).trans (((cell_far (p := ⟨gb125, _, none⟩) NB119_125.out _).trans (((cell_far (p := ⟨gb125, _, none⟩) NB119_125.out _).trans (((cell_far (p := ⟨gb125, _, none⟩) NB119_125.out _).trans (hHeld.2.2.2.2.2.2.2.2.2.2.2.2.2.2.2.2))))))))⟩ (fun hHeld => ?_)
   clear hK K
   refine done_ (done_of HT_.out (by kernel_rfl)) ?_
   have hnb38 := NB119_125.out
   have hnc38 := NB125_119.out
   have hcz39_0 : w33.cell? ⟨gb119, 0, none⟩ = some (.int .i64 ((rd_T58 ((rd_T53 l0 x26_1).f2) x34_2).f0)) := (blk_cell BK119.out 0).trans rfl
   have hcz39_1 : w33.cell? ⟨gb119, 1, none⟩ = some (.int .i64 ((rd_T58 ((rd_T53 l0 x26_1).f2) x34_2).f1)) := (blk_cell BK119.out 1).trans rfl
   have hcz39_2 : w33.cell? ⟨gb119, 2, none⟩ = some (.int .i64 ((rd_T58 ((rd_T53 l0 x26_1).f2) x34_2).f2)) := (blk_cell BK119.out 2).trans rfl
   have hcz39_3 : w33.cell? ⟨gb119, 3, none⟩ = some (.int .i64 ((rd_T58 ((rd_T53 l0 x26_1).f2) x34_2).f3)) := (blk_cell BK119.out 3).trans rfl
   have hcz39_4 : w33.cell? ⟨gb119, 4, none⟩ = some (.int .i64 ((rd_T58 ((rd_T53 l0 x26_1).f2) x34_2).f4)) := (blk_cell BK119.out 4).trans rfl
   have hcz39_5 : w33.cell? ⟨gb119, 5, none⟩ = some (.int .i64 ((rd_T58 ((rd_T53 l0 x26_1).f2) x34_2).f5)) := (blk_cell BK119.out 5).trans rfl
   have hcz39_6 : w33.cell? ⟨gb119, 6, none⟩ = some (.string ((rd_T58 ((rd_T53 l0 x26_1).f2) x34_2).f6)) := (blk_cell BK119.out 6).trans rfl
   have hcz39_7 : w33.cell? ⟨gb119, 7, none⟩ = some (.string ((rd_T58 ((rd_T53 l0 x26_1).f2) x34_2).f7)) := (blk_cell BK119.out 7).trans rfl
   have hcz39_8 : w33.cell? ⟨gb119, 8, none⟩ = some (.string ((rd_T58 ((rd_T53 l0 x26_1).f2) x34_2).f8)) := (blk_cell BK119.out 8).trans rfl
   have hcz39_9 : w33.cell? ⟨gb119, 9, none⟩ = some (.int .i64 ((rd_T58 ((rd_T53 l0 x26_1).f2) x34_2).f9)) := (blk_cell BK119.out 9).trans rfl
   have hcz39_10 : w33.cell? ⟨gb119, 10, none⟩ = some (.int .i64 ((rd_T58 ((rd_T53 l0 x26_1).f2) x34_2).f10)) := (blk_cell BK119.out 10).trans rfl
   have hcz39_11 : w33.cell? ⟨gb119, 11, none⟩ = some (.bool ((rd_T58 ((rd_T53 l0 x26_1).f2) x34_2).f11)) := (blk_cell BK119.out 11).trans rfl
   have hcz39_12 : w33.cell? ⟨gb119, 12, none⟩ = some (.slice A118_12 ((rd_T58 ((rd_T53 l0 x26_1).f2) x34_2).f12).length c118_12) := (blk_cell BK119.out 12).trans rfl
   have hcz39_13 : w33.cell? ⟨gb119, 13, none⟩ = some (.slice A118_13 ((rd_T58 ((rd_T53 l0 x26_1).f2) x34_2).f13).length c118_13) := (blk_cell BK119.out 13).trans rfl
   have hfz39_0 := blk_frozen BK119.out 0
   have hfz39_1 := blk_frozen BK119.out 1
   have hfz39_2 := blk_frozen BK119.out 2
   have hfz39_3 := blk_frozen BK119.out 3
   have hfz39_4 := blk_frozen BK119.out 4
   have hfz39_5 := blk_frozen BK119.out 5
   have hfz39_6 := blk_frozen BK119.out 6
   have hfz39_7 := blk_frozen BK119.out 7
   have hfz39_8 := blk_frozen BK119.out 8
   have hfz39_9 := blk_frozen BK119.out 9
   have hfz39_10 := blk_frozen BK119.out 10
   have hfz39_11 := blk_frozen BK119.out 11
   have hfz39_12 := blk_frozen BK119.out 12
   have hfz39_13 := blk_frozen BK119.out 13
   go_upto_if 50 with (fail)
   go_cut [] (fun wc => ∃ (kq : Nat) (x126001_19 : Int), Aside0 (estimate_By.j2 kq t105 x8_2 x11_2 l0 (l0.length : Int) x26_1 ((rd_T53 l0 x26_1).f2) (((rd_T53 l0 x26_1).f2).length : Int) x34_2 ((rd_T53 l0 x26_1).f0) ((rd_T53 l0 x26_1).f1) ((rd_T53 l0 x26_1).f2) t120 t121 t122 ((rd_T53 l0 x26_1).f1) x126001_19 (wrap64 (((rd_T53 l0 x26_1).f1) * t124)) 0 = some (r1, r2)) ∧ Aside0 (kq ≤ k2) ∧ Aside0 (Mr.R Mr.mT wc w.heap.size (fun k_ => some k_ ≠ Mr.mB (v116)) v108 x8_2) ∧ Aside0 (Mr.R Mr.mS wc w.heap.size (fun k_ => some k_ ≠ Mr.mB (v108)) v116 x11_2) ∧ Aside0 (wc.heap[gb114]? = some (.cells #[.int .i64 ((rd_T53 l0 x26_1).f0), .int .i64 ((rd_T53 l0 x26_1).f1), (.slice (some ad118) ((rd_T53 l0 x26_1).f2).length c113_2)] 53 (0, 0))) ∧ Aside0 (wc.heap[gb119]? = some (.cells #[.int .i64 ((rd_T58 ((rd_T53 l0 x26_1).f2) x34_2).f0), .int .i64 ((rd_T58 ((rd_T53 l0 x26_1).f2) x34_2).f1), .int .i64 ((rd_T58 ((rd_T53 l0 x26_1).f2) x34_2).f2), .int .i64 ((rd_T58 ((rd_T53 l0 x26_1).f2) x34_2).f3), .int .i64 ((rd_T58 ((rd_T53 l0 x26_1).f2) x34_2).f4), .int .i64 ((rd_T58 ((rd_T53 l0 x26_1).f2) x34_2).f5), .string ((rd_T58 ((rd_T53 l0 x26_1).f2) x34_2).f6), .string ((rd_T58 ((rd_T53 l0 x26_1).f2) x34_2).f7), .string ((rd_T58 ((rd_T53 l0 x26_1).f2) x34_2).f8), .int .i64 ((rd_T58 ((rd_T53 l0 x26_1).f2) x34_2).f9), .int .i64 ((rd_T58 ((rd_T53 l0 x26_1).f2) x34_2).f10), .bool ((rd_T58 ((rd_T53 l0 x26_1).f2) x34_2).f11), (.slice A118_12 ((rd_T58 ((rd_T53 l0 x26_1).f2) x34_2).f12).length c118_12), (.slice A118_13 ((rd_T58 ((rd_T53 l0 x26_1).f2) x34_2).f13).length c118_13)] 58 (0, 0))) ∧ Aside0 (wc.heap[gb123]? = some (.cells #[.string t120, .string t121, .string t122] 39 (0, 0))) ∧ Aside0 (wc.heap[gb125]? = some (.cells #[.int .i64 ((rd_T53 l0 x26_1).f1), .int .i64 x126001_19, .int .i64 (wrap64 (((rd_T53 l0 x26_1).f1) * t124)), .int .i64 0] 37 (0, 0))) ∧ Aside0 (Below w.heap.size w wc))
   case first =>
    have H := HC20.out
    clear HC20
    obtain ⟨bq40, hbq40⟩ : ∃ b_ : Bool, b_ = ((rd_T58 ((rd_T53 l0 x26_1).f2) x34_2).f11) := ⟨_, rfl⟩
    replace H : (if bq40 = true then (estimate_By.j2 k2 t105 x8_2 x11_2 l0 (l0.length : Int) x26_1 ((rd_T53 l0 x26_1).f2) (((rd_T53 l0 x26_1).f2).length : Int) x34_2 ((rd_T53 l0 x26_1).f0) ((rd_T53 l0 x26_1).f1) ((rd_T53 l0 x26_1).f2) t120 t121 t122 ((rd_T53 l0 x26_1).f1) ((rd_T53 l0 x26_1).f1) (wrap64 (((rd_T53 l0 x26_1).f1) * t124)) 0) else (estimate_By.j2 k2 t105 x8_2 x11_2 l0 (l0.length : Int) x26_1 ((rd_T53 l0 x26_1).f2) (((rd_T53 l0 x26_1).f2).length : Int) x34_2 ((rd_T53 l0 x26_1).f0) ((rd_T53 l0 x26_1).f1) ((rd_T53 l0 x26_1).f2) t120 t121 t122 ((rd_T53 l0 x26_1).f1) 0 (wrap64 (((rd_T53 l0 x26_1).f1) * t124)) 0)) = some (r1, r2) := by rw [← hbq40] at H; exact H
    have Nbq40 := Aside0.mk hbq40
    clear hbq40
    (try rw [← Nbq40.out])
    by_cases c41 : bq40 = true
    rotate_left
    ·replace c41 := Bool.eq_false_iff.mpr c41
     subst c41
     have H1 : (estimate_By.j2 k2 t105 x8_2 x11_2 l0 (l0.length : Int) x26_1 ((rd_T53 l0 x26_1).f2) (((rd_T53 l0 x26_1).f2).length : Int) x34_2 ((rd_T53 l0 x26_1).f0) ((rd_T53 l0 x26_1).f1) ((rd_T53 l0 x26_1).f2) t120 t121 t122 ((rd_T53 l0 x26_1).f1) 0 (wrap64 (((rd_T53 l0 x26_1).f1) * t124)) 0) = some (r1, r2) := by rw [if_neg (show ¬ (false = true) by decide)] at H; exact H
     clear H
     have H := H1
     clear H1
     have H' := Aside0.mk H
     clear H
     go_wp2
     go_meet
     case rel => exact ⟨_, (0), H', ⟨by have := HK1.out; have := HK2.out; first | omega | exact Nat.le_refl _⟩, ⟨by (with_reducible repeat (first | apply Mr.R_alloc | apply Mr.R_drewN | apply Mr.R_drew)); exact Mr.R_mono (Mr.R_far (p := ⟨gb125, 3, none⟩) (Mr.R_far (p := ⟨gb125, 2, none⟩) (Mr.R_far (p := ⟨gb125, 1, none⟩) (Mr.R_far (p := ⟨gb125, 0, none⟩) (Mr.R_types HO_8.out BK125.out (by decide)) (fun _ hk => hk.2) (.int .i64 ((rd_T53 l0 x26_1).f1))) (fun _ hk => hk.2) (.int .i64 0)) (fun _ hk => hk.2) (.int .i64 (wrap64 (((rd_T53 l0 x26_1).f1) * t124)))) (fun _ hk => hk.2) (.int .i64 0)) (fun _ hk => hk.1)⟩, ⟨by (with_reducible repeat (first | apply Mr.R_alloc | apply Mr.R_drewN | apply Mr.R_drew)); exact Mr.R_mono (Mr.R_far (p := ⟨gb125, 3, none⟩) (Mr.R_far (p := ⟨gb125, 2, none⟩) (Mr.R_far (p := ⟨gb125, 1, none⟩) (Mr.R_far (p := ⟨gb125, 0, none⟩) (Mr.R_types HO_11.out BK125.out (by decide)) (fun _ hk => hk.2) (.int .i64 ((rd_T53 l0 x26_1).f1))) (fun _ hk => hk.2) (.int .i64 0)) (fun _ hk => hk.2) (.int .i64 (wrap64 (((rd_T53 l0 x26_1).f1) * t124)))) (fun _ hk => hk.2) (.int .i64 0)) (fun _ hk => hk.1)⟩, ⟨by (with_reducible repeat (first | refine blk_drewN ?_ _ | refine blk_drew ?_ | refine blk_alloc ?_ _)); refine blk_far ?_ NB114_125.out _; (with_reducible repeat (first | refine blk_drewN ?_ _ | refine blk_drew ?_ | refine blk_alloc ?_ _)); refine blk_far ?_ NB114_125.out _; (with_reducible repeat (first | refine blk_drewN ?_ _ | refine blk_drew ?_ | refine blk_alloc ?_ _)); refine blk_far ?_ NB114_125.out _; (with_reducible repeat (first | refine blk_drewN ?_ _ | refine blk_drew ?_ | refine blk_alloc ?_ _)); refine blk_far ?_ NB114_125.out _; (with_reducible repeat (first | refine blk_drewN ?_ _ | refine blk_drew ?_ | refine blk_alloc ?_ _)); exact BK114.out⟩, ⟨by (with_reducible repeat (first | refine blk_drewN ?_ _ | refine blk_drew ?_ | refine blk_alloc ?_ _)); refine blk_far ?_ NB119_125.out _; (with_reducible repeat (first | refine blk_drewN ?_ _ | refine blk_drew ?_ | refine blk_alloc ?_ _)); refine blk_far ?_ NB119_125.out _; (with_reducible repeat (first | refine blk_drewN ?_ _ | refine blk_drew ?_ | refine blk_alloc ?_ _)); refine blk_far ?_ NB119_125.out _; (with_reducible repeat (first | refine blk_drewN ?_ _ | refine blk_drew ?_ | refine blk_alloc ?_ _)); refine blk_far ?_ NB119_125.out _; (with_reducible repeat (first | refine blk_drewN ?_ _ | refine blk_drew ?_ | refine blk_alloc ?_ _)); exact BK119.out⟩, ⟨by (with_reducible repeat (first | refine blk_drewN ?_ _ | refine blk_drew ?_ | refine blk_alloc ?_ _)); refine blk_far ?_ NB123_125.out _; (with_reducible repeat (first | refine blk_drewN ?_ _ | refine blk_drew ?_ | refine blk_alloc ?_ _)); refine blk_far ?_ NB123_125.out _; (with_reducible repeat (first | refine blk_drewN ?_ _ | refine blk_drew ?_ | refine blk_alloc ?_ _)); refine blk_far ?_ NB123_125.out _; (with_reducible repeat (first | refine blk_drewN ?_ _ | refine blk_drew ?_ | refine blk_alloc ?_ _)); refine blk_far ?_ NB123_125.out _; (with_reducible repeat (first | refine blk_drewN ?_ _ | refine blk_drew ?_ | refine blk_alloc ?_ _)); exact BK123.out⟩, ⟨by (with_reducible repeat (first | refine blk_drewN ?_ _ | refine blk_drew ?_ | refine blk_alloc ?_ _)); refine blk_put (cs := #[.int .i64 ((rd_T53 l0 x26_1).f1), .int .i64 0, .int .i64 (wrap64 (((rd_T53 l0 x26_1).f1) * t124)), .int .i64 0]) ?_ 3 _ rfl; (with_reducible repeat (first | refine blk_drewN ?_ _ | refine blk_drew ?_ | refine blk_alloc ?_ _)); refine blk_put (cs := #[.int .i64 ((rd_T53 l0 x26_1).f1), .int .i64 0, .int .i64 0, .int .i64 0]) ?_ 2 _ rfl; (with_reducible repeat (first | refine blk_drewN ?_ _ | refine blk_drew ?_ | refine blk_alloc ?_ _)); refine blk_put (cs := #[.int .i64 ((rd_T53 l0 x26_1).f1), .int .i64 0, .int .i64 0, .int .i64 0]) ?_ 1 _ rfl; (with_reducible repeat (first | refine blk_drewN ?_ _ | refine blk_drew ?_ | refine blk_alloc ?_ _)); refine blk_put (cs := #[.int .i64 0, .int .i64 0, .int .i64 0, .int .i64 0]) ?_ 0 _ rfl; (with_reducible repeat (first | refine blk_drewN ?_ _ | refine blk_drew ?_ | refine blk_alloc ?_ _)); exact BK125.out⟩, ⟨byq_0⟩⟩
    subst c41
    have H1 : (estimate_By.j2 k2 t105 x8_2 x11_2 l0 (l0.length : Int) x26_1 ((rd_T53 l0 x26_1).f2) (((rd_T53 l0 x26_1).f2).length : Int) x34_2 ((rd_T53 l0 x26_1).f0) ((rd_T53 l0 x26_1).f1) ((rd_T53 l0 x26_1).f2) t120 t121 t122 ((rd_T53 l0 x26_1).f1) ((rd_T53 l0 x26_1).f1) (wrap64 (((rd_T53 l0 x26_1).f1) * t124)) 0) = some (r1, r2) := by rw [if_pos rfl] at H; exact H
    clear H
    have H := H1
    clear H1
    have H' := Aside0.mk H
    clear H
    have hnb42 := NB114_119.out
    have hnc42 := NB119_114.out
    have hnb43 := NB114_123.out
    have hnc43 := NB123_114.out
    have hnb44 := NB114_125.out
    have hnc44 := NB125_114.out
    have hcz45_0 : w33.cell? ⟨gb114, 0, none⟩ = some (.int .i64 ((rd_T53 l0 x26_1).f0)) := (blk_cell BK114.out 0).trans rfl
    have hcz45_1 : w33.cell? ⟨gb114, 1, none⟩ = some (.int .i64 ((rd_T53 l0 x26_1).f1)) := (blk_cell BK114.out 1).trans rfl
    have hcz45_2 : w33.cell? ⟨gb114, 2, none⟩ = some (.slice (some ad118) ((rd_T53 l0 x26_1).f2).length c113_2) := (blk_cell BK114.out 2).trans rfl
    have hfz45_0 := blk_frozen BK114.out 0
    have hfz45_1 := blk_frozen BK114.out 1
    have hfz45_2 := blk_frozen BK114.out 2
    have hnb46 := NB125_119.out
    have hnc46 := NB119_125.out
    have hnb47 := NB125_123.out
    have hnc47 := NB123_125.out
    have hcz48_0 : w33.cell? ⟨gb125, 0, none⟩ = some (.int .i64 0) := (blk_cell BK125.out 0).trans rfl
    have hcz48_1 : w33.cell? ⟨gb125, 1, none⟩ = some (.int .i64 0) := (blk_cell BK125.out 1).trans rfl
    have hcz48_2 : w33.cell? ⟨gb125, 2, none⟩ = some (.int .i64 0) := (blk_cell BK125.out 2).trans rfl
    have hcz48_3 : w33.cell? ⟨gb125, 3, none⟩ = some (.int .i64 0) := (blk_cell BK125.out 3).trans rfl
    have hfz48_0 := blk_frozen BK125.out 0
    have hfz48_1 := blk_frozen BK125.out 1
    have hfz48_2 := blk_frozen BK125.out 2
    have hfz48_3 := blk_frozen BK125.out 3
    go_wp2
    go_meet
    case rel => exact ⟨_, (((rd_T53 l0 x26_1).f1)), H', ⟨by have := HK1.out; have := HK2.out; first | omega | exact Nat.le_refl _⟩, ⟨by (with_reducible repeat (first | apply Mr.R_alloc | apply Mr.R_drewN | apply Mr.R_drew)); exact Mr.R_mono (Mr.R_far (p := ⟨gb125, 1, none⟩) (Mr.R_far (p := ⟨gb125, 3, none⟩) (Mr.R_far (p := ⟨gb125, 2, none⟩) (Mr.R_far (p := ⟨gb125, 1, none⟩) (Mr.R_far (p := ⟨gb125, 0, none⟩) (Mr.R_types HO_8.out BK125.out (by decide)) (fun _ hk => hk.2) (.int .i64 ((rd_T53 l0 x26_1).f1))) (fun _ hk => hk.2) (.int .i64 0)) (fun _ hk => hk.2) (.int .i64 (wrap64 (((rd_T53 l0 x26_1).f1) * t124)))) (fun _ hk => hk.2) (.int .i64 0)) (fun _ hk => hk.2) (.int .i64 ((rd_T53 l0 x26_1).f1))) (fun _ hk => hk.1)⟩, ⟨by (with_reducible repeat (first | apply Mr.R_alloc | apply Mr.R_drewN | apply Mr.R_drew)); exact Mr.R_mono (Mr.R_far (p := ⟨gb125, 1, none⟩) (Mr.R_far (p := ⟨gb125, 3, none⟩) (Mr.R_far (p := ⟨gb125, 2, none⟩) (Mr.R_far (p := ⟨gb125, 1, none⟩) (Mr.R_far (p := ⟨gb125, 0, none⟩) (Mr.R_types HO_11.out BK125.out (by decide)) (fun _ hk => hk.2) (.int .i64 ((rd_T53 l0 x26_1).f1))) (fun _ hk => hk.2) (.int .i64 0)) (fun _ hk => hk.2) (.int .i64 (wrap64 (((rd_T53 l0 x26_1).f1) * t124)))) (fun _ hk => hk.2) (.int .i64 0)) (fun _ hk => hk.2) (.int .i64 ((rd_T53 l0 x26_1).f1))) (fun _ hk => hk.1)⟩, ⟨by (with_reducible repeat (first | refine blk_drewN ?_ _ | refine blk_drew ?_ | refine blk_alloc ?_ _)); refine blk_far ?_ NB114_125.out _; (with_reducible repeat (first | refine blk_drewN ?_ _ | refine blk_drew ?_ | refine blk_alloc ?_ _)); refine blk_far ?_ NB114_125.out _; (with_reducible repeat (first | refine blk_drewN ?_ _ | refine blk_drew ?_ | refine blk_alloc ?_ _)); refine blk_far ?_ NB114_125.out _; (with_reducible repeat (first | refine blk_drewN ?_ _ | refine blk_drew ?_ | refine blk_alloc ?_ _)); refine blk_far ?_ NB114_125.out _; (with_reducible repeat (first | refine blk_drewN ?_ _ | refine blk_drew ?_ | refine blk_alloc ?_ _)); refine blk_far ?_ NB114_125.out _; (with_reducible repeat (first | refine blk_drewN ?_ _ | refine blk_drew ?_ | refine blk_alloc ?_ _)); exact BK114.out⟩, ⟨by (with_reducible repeat (first | refine blk_drewN ?_ _ | refine blk_drew ?_ | refine blk_alloc ?_ _)); refine blk_far ?_ NB119_125.out _; (with_reducible repeat (first | refine blk_drewN ?_ _ | refine blk_drew ?_ | refine blk_alloc ?_ _)); refine blk_far ?_ NB119_125.out _; (with_reducible repeat (first | refine blk_drewN ?_ _ | refine blk_drew ?_ | refine blk_alloc ?_ _)); refine blk_far ?_ NB119_125.out _; (with_reducible repeat (first | refine blk_drewN ?_ _ | refine blk_drew ?_ | refine blk_alloc ?_ _)); refine blk_far ?_ NB119_125.out _; (with_reducible repeat (first | refine blk_drewN ?_ _ | refine blk_drew ?_ | refine blk_alloc ?_ _)); refine blk_far ?_ NB119_125.out _; (with_reducible repeat (first | refine blk_drewN ?_ _ | refine blk_drew ?_ | refine blk_alloc ?_ _)); exact BK119.out⟩, ⟨by (with_reducible repeat (first | refine blk_drewN ?_ _ | refine blk_drew ?_ | refine blk_alloc ?_ _)); refine blk_far ?_ NB123_125.out _; (with_reducible repeat (first | refine blk_drewN ?_ _ | refine blk_drew ?_ | refine blk_alloc ?_ _)); refine blk_far ?_ NB123_125.out _; (with_reducible repeat (first | refine blk_drewN ?_ _ | refine blk_drew ?_ | refine blk_alloc ?_ _)); refine blk_far ?_ NB123_125.out _; (with_reducible repeat (first | refine blk_drewN ?_ _ | refine blk_drew ?_ | refine blk_alloc ?_ _)); refine blk_far ?_ NB123_125.out _; (with_reducible repeat (first | refine blk_drewN ?_ _ | refine blk_drew ?_ | refine blk_alloc ?_ _)); refine blk_far ?_ NB123_125.out _; (with_reducible repeat (first | refine blk_drewN ?_ _ | refine blk_drew ?_ | refine blk_alloc ?_ _)); exact BK123.out⟩, ⟨by (with_reducible repeat (first | refine blk_drewN ?_ _ | refine blk_drew ?_ | refine blk_alloc ?_ _)); refine blk_put (cs := #[.int .i64 ((rd_T53 l0 x26_1).f1), .int .i64 0, .int .i64 (wrap64 (((rd_T53 l0 x26_1).f1) * t124)), .int .i64 0]) ?_ 1 _ rfl; (with_reducible repeat (first | refine blk_drewN ?_ _ | refine blk_drew ?_ | refine blk_alloc ?_ _)); refine blk_put (cs := #[.int .i64 ((rd_T53 l0 x26_1).f1), .int .i64 0, .int .i64 (wrap64 (((rd_T53 l0 x26_1).f1) * t124)), .int .i64 0]) ?_ 3 _ rfl; (with_reducible repeat (first | refine blk_drewN ?_ _ | refine blk_drew ?_ | refine blk_alloc ?_ _)); refine blk_put (cs := #[.int .i64 ((rd_T53 l0 x26_1).f1), .int .i64 0, .int .i64 0, .int .i64 0]) ?_ 2 _ rfl; (with_reducible repeat (first | refine blk_drewN ?_ _ | refine blk_drew ?_ | refine blk_alloc ?_ _)); refine blk_put (cs := #[.int .i64 ((rd_T53 l0 x26_1).f1), .int .i64 0, .int .i64 0, .int .i64 0]) ?_ 1 _ rfl; (with_reducible repeat (first | refine blk_drewN ?_ _ | refine blk_drew ?_ | refine blk_alloc ?_ _)); refine blk_put (cs := #[.int .i64 0, .int .i64 0, .int .i64 0, .int .i64 0]) ?_ 0 _ rfl; (with_reducible repeat (first | refine blk_drewN ?_ _ | refine blk_drew ?_ | refine blk_alloc ?_ _)); exact BK125.out⟩, ⟨byq_0⟩⟩
   clear HC20
   try clear c1
   try clear p1
   try clear q1
   try clear hx1
   try clear c2
   try clear p2
   try clear c3
   try clear c4
   try clear q4
   try clear c6
   try clear p6
   try clear c7
   try clear c7b0
   try clear c8
   try clear c8b0
   try clear c9
   try clear c9b0
   try clear c11
   try clear p11
   try clear q11
   try clear hx11
   try clear c14
   try clear c15
   try clear c15b0
   try clear c16
   try clear c16b0
   try clear c17
   try clear c17b0
   try clear c22
   try clear c25
   try clear c26
   try clear c27
   try clear c38
   try clear q40
   try clear c41
   try clear c42
   try clear c43
   try clear c44
   try clear c46
   try clear c47
   try clear hcz12_0
   try clear hcz12_1
   try clear hcz12_2
   try clear hcz14_0
   try clear hcz14_1
   try clear hcz14_2
   try clear hcz23_0
   try clear hcz23_1
   try clear hcz23_10
   try clear hcz23_11
   try clear hcz23_12
   try clear hcz23_13
   try clear hcz23_2
   try clear hcz23_3
   try clear hcz23_4
   try clear hcz23_5
   try clear hcz23_6
   try clear hcz23_7
   try clear hcz23_8
   try clear hcz23_9
   try clear hcz28_0
   try clear hcz28_1
   try clear hcz28_2
   try clear hcz39_0
   try clear hcz39_1
   try clear hcz39_10
   try clear hcz39_11
   try clear hcz39_12
   try clear hcz39_13
   try clear hcz39_2
   try clear hcz39_3
   try clear hcz39_4
   try clear hcz39_5
   try clear hcz39_6
   try clear hcz39_7
   try clear hcz39_8
   try clear hcz39_9
   try clear hcz45_0
   try clear hcz45_1
   try clear hcz45_2
   try clear hcz48_0
   try clear hcz48_1
   try clear hcz48_2
   try clear hcz48_3
   try clear hfz12_0
   try clear hfz12_1
   try clear hfz12_2
   try clear hfz14_0
   try clear hfz14_1
   try clear hfz14_2
   try clear hfz23_0
   try clear hfz23_1
   try clear hfz23_10
   try clear hfz23_11
   try clear hfz23_12
   try clear hfz23_13
   try clear hfz23_2
   try clear hfz23_3
   try clear hfz23_4
   try clear hfz23_5
   try clear hfz23_6
   try clear hfz23_7
   try clear hfz23_8
   try clear hfz23_9
   try clear hfz28_0
   try clear hfz28_1
   try clear hfz28_2
   try clear hfz39_0
   try clear hfz39_1
   try clear hfz39_10
   try clear hfz39_11
   try clear hfz39_12
   try clear hfz39_13
   try clear hfz39_2
   try clear hfz39_3
   try clear hfz39_4
   try clear hfz39_5
   try clear hfz39_6
   try clear hfz39_7
   try clear hfz39_8
   try clear hfz39_9
   try clear hfz45_0
   try clear hfz45_1
   try clear hfz45_2
   try clear hfz48_0
   try clear hfz48_1
   try clear hfz48_2
   try clear hfz48_3
   try clear hx113_0
   try clear hx113_1
   try clear hx113_2
   try clear hx118_0
   try clear hx118_1
   try clear hx118_10
   try clear hx118_11
   try clear hx118_12
   try clear hx118_13
   try clear hx118_2
   try clear hx118_3
   try clear hx118_4
   try clear hx118_5
   try clear hx118_6
   try clear hx118_7
   try clear hx118_8
   try clear hx118_9
   try clear p1
   try clear p11
   try clear p113
   try clear p118
   try clear p2
   try clear q1
   try clear q11
   try clear q113
   try clear q118
   obtain ⟨kq, x126001_19, HA, HJ19, HO_8, HO_11, BK114, BK119, BK123, BK125, HB⟩ := hcut
   cases kq with
   | zero => exact absurd HA.out (by simp [estimate_By.j2])
   | succ kj19 =>
    have H := HA.out
    clear HA
    simp only [estimate_By.j2] at H
    replace H := Option.bind_eq_some_iff.mp H
    obtain ⟨t126, A490, H⟩ := H
    replace H : (if t126 = true then ((By_get.f x8_2 t120 t121 t122).bind fun bt127 => ((estimate_Total_plus.f bt127.1 bt127.2.1 bt127.2.2.1 bt127.2.2.2 ((rd_T53 l0 x26_1).f1) x126001_19 (wrap64 (((rd_T53 l0 x26_1).f1) * t124)) 0).bind fun bt131 => ((By_put.f x8_2 t120 t121 t122 bt131.1 bt131.2.1 bt131.2.2.1 bt131.2.2.2).bind fun t135 => (estimate_By.l1 kj19 t105 t135 x11_2 l0 (l0.length : Int) x26_1 ((rd_T53 l0 x26_1).f2) (((rd_T53 l0 x26_1).f2).length : Int) (wrap64 (x34_2 + 1)) ((rd_T53 l0 x26_1).f0) ((rd_T53 l0 x26_1).f1) ((rd_T53 l0 x26_1).f2))))) else ((By_add.f x11_2 t120 t121 t122).bind fun t136 => ((By_get.f x8_2 t120 t121 t122).bind fun bt137 => ((estimate_Total_plus.f bt137.1 bt137.2.1 bt137.2.2.1 bt137.2.2.2 ((rd_T53 l0 x26_1).f1) x126001_19 (wrap64 (((rd_T53 l0 x26_1).f1) * t124)) ((rd_T53 l0 x26_1).f1)).bind fun bt141 => ((By_put.f x8_2 t120 t121 t122 bt141.1 bt141.2.1 bt141.2.2.1 bt141.2.2.2).bind fun t145 => (estimate_By.l1 kj19 t105 t145 t136 l0 (l0.length : Int) x26_1 ((rd_T53 l0 x26_1).f2) (((rd_T53 l0 x26_1).f2).length : Int) (wrap64 (x34_2 + 1)) ((rd_T53 l0 x26_1).f0) ((rd_T53 l0 x26_1).f1) ((rd_T53 l0 x26_1).f2))))))) = some (r1, r2) := H
    have A49 := Aside0.mk A490
    clear A490
    by_cases c50 : t126 = true
    ·subst c50
     have H1 : ((By_get.f x8_2 t120 t121 t122).bind fun bt127 => ((estimate_Total_plus.f bt127.1 bt127.2.1 bt127.2.2.1 bt127.2.2.2 ((rd_T53 l0 x26_1).f1) x126001_19 (wrap64 (((rd_T53 l0 x26_1).f1) * t124)) 0).bind fun bt131 => ((By_put.f x8_2 t120 t121 t122 bt131.1 bt131.2.1 bt131.2.2.1 bt131.2.2.2).bind fun t135 => (estimate_By.l1 kj19 t105 t135 x11_2 l0 (l0.length : Int) x26_1 ((rd_T53 l0 x26_1).f2) (((rd_T53 l0 x26_1).f2).length : Int) (wrap64 (x34_2 + 1)) ((rd_T53 l0 x26_1).f0) ((rd_T53 l0 x26_1).f1) ((rd_T53 l0 x26_1).f2))))) = some (r1, r2) := by rw [if_pos rfl] at H; exact H
     clear H
     have H := H1
     clear H1
     replace H := Option.bind_eq_some_iff.mp H
     obtain ⟨⟨t127, t128, t129, t130⟩, A510, H⟩ := H
     replace H : ((estimate_Total_plus.f t127 t128 t129 t130 ((rd_T53 l0 x26_1).f1) x126001_19 (wrap64 (((rd_T53 l0 x26_1).f1) * t124)) 0).bind fun bt131 => ((By_put.f x8_2 t120 t121 t122 bt131.1 bt131.2.1 bt131.2.2.1 bt131.2.2.2).bind fun t135 => (estimate_By.l1 kj19 t105 t135 x11_2 l0 (l0.length : Int) x26_1 ((rd_T53 l0 x26_1).f2) (((rd_T53 l0 x26_1).f2).length : Int) (wrap64 (x34_2 + 1)) ((rd_T53 l0 x26_1).f0) ((rd_T53 l0 x26_1).f1) ((rd_T53 l0 x26_1).f2)))) = some (r1, r2) := H
     have A51 := Aside0.mk A510
     clear A510
     replace H := Option.bind_eq_some_iff.mp H
     obtain ⟨⟨t131, t132, t133, t134⟩, A520, H⟩ := H
     replace H : ((By_put.f x8_2 t120 t121 t122 t131 t132 t133 t134).bind fun t135 => (estimate_By.l1 kj19 t105 t135 x11_2 l0 (l0.length : Int) x26_1 ((rd_T53 l0 x26_1).f2) (((rd_T53 l0 x26_1).f2).length : Int) (wrap64 (x34_2 + 1)) ((rd_T53 l0 x26_1).f0) ((rd_T53 l0 x26_1).f1) ((rd_T53 l0 x26_1).f2))) = some (r1, r2) := H
     have A52 := Aside0.mk A520
     clear A520
     replace H := Option.bind_eq_some_iff.mp H
     obtain ⟨t135, A530, H⟩ := H
     replace H : (estimate_By.l1 kj19 t105 t135 x11_2 l0 (l0.length : Int) x26_1 ((rd_T53 l0 x26_1).f2) (((rd_T53 l0 x26_1).f2).length : Int) (wrap64 (x34_2 + 1)) ((rd_T53 l0 x26_1).f0) ((rd_T53 l0 x26_1).f1) ((rd_T53 l0 x26_1).f2)) = some (r1, r2) := H
     have A53 := Aside0.mk A530
     clear A530
     have H' := Aside0.mk H
     clear H
     have hnb54 := NB123_114.out
     have hnc54 := NB114_123.out
     have hnb55 := NB123_119.out
     have hnc55 := NB119_123.out
     have hnb56 := NB123_125.out
     have hnc56 := NB125_123.out
     have hcz57_0 : wc.cell? ⟨gb123, 0, none⟩ = some (.string t120) := (blk_cell BK123.out 0).trans rfl
     have hcz57_1 : wc.cell? ⟨gb123, 1, none⟩ = some (.string t121) := (blk_cell BK123.out 1).trans rfl
     have hcz57_2 : wc.cell? ⟨gb123, 2, none⟩ = some (.string t122) := (blk_cell BK123.out 2).trans rfl
     have hfz57_0 := blk_frozen BK123.out 0
     have hfz57_1 := blk_frozen BK123.out 1
     have hfz57_2 := blk_frozen BK123.out 2
     obtain ⟨bo58, eo58⟩ := Mr.R_map HO_11.out
     subst eo58
     try go_wp2_with (first | ((with_reducible refine gate_dst (N := 56) rfl ?_); refine Mr.find_w rfl _ _ rfl rfl rfl byq_5 A49.out ?_; intro w59 hb; have n0_ := Aside0.mk (Mr.R_below byq_4 hb); have n1_ := Aside0.mk (Mr.R_below byq_5 hb); have n2_ := Aside0.mk (blk_below (g := gb114) (o := .cells #[.int .i64 ((rd_T53 l0 x26_1).f0), .int .i64 ((rd_T53 l0 x26_1).f1), .slice (some ad118) ((rd_T53 l0 x26_1).f2).length c113_2] 53 (0, 0)) byq_1 hb); have n3_ := Aside0.mk (blk_below (g := gb119) (o := .cells #[.int .i64 ((rd_T58 ((rd_T53 l0 x26_1).f2) x34_2).f0), .int .i64 ((rd_T58 ((rd_T53 l0 x26_1).f2) x34_2).f1), .int .i64 ((rd_T58 ((rd_T53 l0 x26_1).f2) x34_2).f2), .int .i64 ((rd_T58 ((rd_T53 l0 x26_1).f2) x34_2).f3), .int .i64 ((rd_T58 ((rd_T53 l0 x26_1).f2) x34_2).f4), .int .i64 ((rd_T58 ((rd_T53 l0 x26_1).f2) x34_2).f5), .string ((rd_T58 ((rd_T53 l0 x26_1).f2) x34_2).f6), .string ((rd_T58 ((rd_T53 l0 x26_1).f2) x34_2).f7), .string ((rd_T58 ((rd_T53 l0 x26_1).f2) x34_2).f8), .int .i64 ((rd_T58 ((rd_T53 l0 x26_1).f2) x34_2).f9), .int .i64 ((rd_T58 ((rd_T53 l0 x26_1).f2) x34_2).f10), .bool ((rd_T58 ((rd_T53 l0 x26_1).f2) x34_2).f11), .slice A118_12 ((rd_T58 ((rd_T53 l0 x26_1).f2) x34_2).f12).length c118_12, .slice A118_13 ((rd_T58 ((rd_T53 l0 x26_1).f2) x34_2).f13).length c118_13] 58 (0, 0)) byq_2 hb); have n4_ := Aside0.mk (blk_below (g := gb123) (o := .cells #[.string t120, .string t121, .string t122] 39 (0, 0)) byq_3 hb); have n5_ := Aside0.mk (blk_below (g := gb125) (o := .cells #[.int .i64 ((rd_T53 l0 x26_1).f1), .int .i64 x126001_19, .int .i64 (wrap64 (((rd_T53 l0 x26_1).f1) * t124)), .int .i64 0] 37 (0, 0)) byq_7 hb); have n6_ := Aside0.mk (below_step byq_0 hb); clear HO_8; clear HO_11; clear BK114; clear BK119; clear BK123; clear BK125; clear HB; have HO_8 := n0_; have HO_11 := n1_; have BK114 := n2_; have BK119 := n3_; have BK123 := n4_; have BK125 := n5_; have HB := n6_; clear n0_ n1_ n2_ n3_ n4_ n5_ n6_; (try clear hb); (try clear hb2); (try clear hk); (try clear hi)))
     have n0_ := Aside0.mk (Mr.R_drew HO_8.out)
     have n1_ := Aside0.mk (Mr.R_drew HO_11.out)
     have n2_ := Aside0.mk (blk_drew BK114.out)
     have n3_ := Aside0.mk (blk_drew BK119.out)
     have n4_ := Aside0.mk (blk_drew BK123.out)
     have n5_ := Aside0.mk (blk_drew BK125.out)
     have n6_ := Aside0.mk (below_drew1 HB.out)
     clear HO_8
     clear HO_11
     clear BK114
     clear BK119
     clear BK123
     clear BK125
     clear HB
     have HO_8 := n0_
     have HO_11 := n1_
     have BK114 := n2_
     have BK119 := n3_
     have BK123 := n4_
     have BK125 := n5_
     have HB := n6_
     clear n0_ n1_ n2_ n3_ n4_ n5_ n6_
     obtain ⟨bo61, eo61⟩ := Mr.R_map HO_8.out
     (first | subst eo61 | (injection eo61 with f1_; injection f1_ with f2_; subst f2_))
     refine start_ (n := 8) (S := fun w' => w'.cell? ⟨gb123, 0, none⟩ = some (.string t120) ∧ w'.cell? ⟨gb123, 1, none⟩ = some (.string t121) ∧ w'.cell? ⟨gb123, 2, none⟩ = some (.string t122) ∧ w'.cell? ⟨gb125, 0, none⟩ = some (.int .i64 ((rd_T53 l0 x26_1).f1)) ∧ w'.cell? ⟨gb125, 1, none⟩ = some (.int .i64 x126001_19) ∧ w'.cell? ⟨gb125, 2, none⟩ = some (.int .i64 (wrap64 (((rd_T53 l0 x26_1).f1) * t124))) ∧ w'.cell? ⟨gb125, 3, none⟩ = some (.int .i64 0)) (ds := []) #[F1879, F1879, F1879, F1879, F1879, F1879, F1879, F1879] (by kernel_rfl) rfl rfl ⟨(blk_cell BK123.out 0).trans rfl, (blk_cell BK123.out 1).trans rfl, (blk_cell BK123.out 2).trans rfl, (blk_cell BK125.out 0).trans rfl, (blk_cell BK125.out 1).trans rfl, (blk_cell BK125.out 2).trans rfl, (blk_cell BK125.out 3).trans rfl⟩ (fun hHeld => ?_); refine with_tabW estimate_By.tab18 estimate_By.bits18 (fun HT_ HW_ => ?_)
     generalize w59.drew = w60 at HO_8 HO_11 BK114 BK119 BK123 BK125 HB hHeld ⊢
     refine pure_ (i := 0) (N := some 63) (v := ?_) (a' := ?_) #[T1879, F1879, F1879, F1879, F1879, F1879, F1879, F1879] rfl rfl (any_of HT_.out (by kernel_rfl)) (fun _ _ _ h => h) (Or.inl ⟨by rfl, ?_⟩) ?_ ?_
     rotate_left
     ·intro w'
      go_simp
      with_reducible rfl
     rotate_left
     ·simp only [Act.put, List.setIfInBounds_toArray, List.set_cons_zero, List.set_cons_succ, i64_w, i32_w]
      rfl
     refine pure_ (i := 2) (N := some 65) (v := ?_) (a' := ?_) #[T1879, F1879, T1879, F1879, F1879, F1879, F1879, F1879] rfl rfl (any_of HT_.out (by kernel_rfl)) (fun _ _ _ h => h) (Or.inl ⟨by rfl, ?_⟩) ?_ ?_
     rotate_left
     ·intro w'
      go_simp
      with_reducible rfl
     rotate_left
     ·simp only [Act.put, List.setIfInBounds_toArray, List.set_cons_zero, List.set_cons_succ, i64_w, i32_w]
      rfl
     refine take_ (i := 1) (N := some 64) (v := ?_) (a' := ?_) #[T1879, T1879, T1879, F1879, F1879, F1879, F1879, F1879] rfl rfl (take_ofW HT_.out HW_.out (by kernel_rfl)) (fun _ _ _ h => h) (Or.inl ⟨by rfl, ?_⟩) hHeld ?_ ?_
     rotate_left
     ·rintro w' ⟨s0, s1, s2, s3, s4, s5, s6⟩
      go_simp
      with_reducible rfl
     rotate_left
     ·simp only [Act.put, List.setIfInBounds_toArray, List.set_cons_zero, List.set_cons_succ, i64_w, i32_w]
      rfl
     refine take_ (i := 3) (N := some 66) (v := ?_) (a' := ?_) #[T1879, T1879, T1879, T1879, F1879, F1879, F1879, F1879] rfl rfl (take_ofW HT_.out HW_.out (by kernel_rfl)) (fun _ _ _ h => h) (Or.inl ⟨by rfl, ?_⟩) hHeld ?_ ?_
     rotate_left
     ·rintro w' ⟨s0, s1, s2, s3, s4, s5, s6⟩
      go_simp
      with_reducible rfl
     rotate_left
     ·simp only [Act.put, List.setIfInBounds_toArray, List.set_cons_zero, List.set_cons_succ, i64_w, i32_w]
      rfl
     refine take_ (i := 5) (N := some 68) (v := ?_) (a' := ?_) #[T1879, T1879, T1879, T1879, F1879, T1879, F1879, F1879] rfl rfl (take_ofW HT_.out HW_.out (by kernel_rfl)) (fun _ _ _ h => h) (Or.inl ⟨by rfl, ?_⟩) hHeld ?_ ?_
     rotate_left
     ·rintro w' ⟨s0, s1, s2, s3, s4, s5, s6⟩
      go_simp
      with_reducible rfl
     rotate_left
     ·simp only [Act.put, List.setIfInBounds_toArray, List.set_cons_zero, List.set_cons_succ, i64_w, i32_w]
      rfl
     refine one_ (i := 4) (N := some 67) #[T1879, T1879, T1879, T1879, T1879, T1879, F1879, F1879] rfl rfl (one_of HT_.out (by kernel_rfl)) (by decide) (fun K hK => ?_)
     refine Mr.top_d (by rfl) rfl _ _ rfl rfl rfl byq_4 A51.out ?_
     intro w62 hb
     have n0_ := Aside0.mk (Mr.R_below byq_4 hb)
     have n1_ := Aside0.mk (Mr.R_below byq_5 hb)
     have n2_ := Aside0.mk (blk_below (g := gb114) (o := .cells #[.int .i64 ((rd_T53 l0 x26_1).f0), .int .i64 ((rd_T53 l0 x26_1).f1), .slice (some ad118) ((rd_T53 l0 x26_1).f2).length c113_2] 53 (0, 0)) byq_1 hb)
     have n3_ := Aside0.mk (blk_below (g := gb119) (o := .cells #[.int .i64 ((rd_T58 ((rd_T53 l0 x26_1).f2) x34_2).f0), .int .i64 ((rd_T58 ((rd_T53 l0 x26_1).f2) x34_2).f1), .int .i64 ((rd_T58 ((rd_T53 l0 x26_1).f2) x34_2).f2), .int .i64 ((rd_T58 ((rd_T53 l0 x26_1).f2) x34_2).f3), .int .i64 ((rd_T58 ((rd_T53 l0 x26_1).f2) x34_2).f4), .int .i64 ((rd_T58 ((rd_T53 l0 x26_1).f2) x34_2).f5), .string ((rd_T58 ((rd_T53 l0 x26_1).f2) x34_2).f6), .string ((rd_T58 ((rd_T53 l0 x26_1).f2) x34_2).f7), .string ((rd_T58 ((rd_T53 l0 x26_1).f2) x34_2).f8), .int .i64 ((rd_T58 ((rd_T53 l0 x26_1).f2) x34_2).f9), .int .i64 ((rd_T58 ((rd_T53 l0 x26_1).f2) x34_2).f10), .bool ((rd_T58 ((rd_T53 l0 x26_1).f2) x34_2).f11), .slice A118_12 ((rd_T58 ((rd_T53 l0 x26_1).f2) x34_2).f12).length c118_12, .slice A118_13 ((rd_T58 ((rd_T53 l0 x26_1).f2) x34_2).f13).length c118_13] 58 (0, 0)) byq_2 hb)
     have n4_ := Aside0.mk (blk_below (g := gb123) (o := .cells #[.string t120, .string t121, .string t122] 39 (0, 0)) byq_3 hb)
     have n5_ := Aside0.mk (blk_below (g := gb125) (o := .cells #[.int .i64 ((rd_T53 l0 x26_1).f1), .int .i64 x126001_19, .int .i64 (wrap64 (((rd_T53 l0 x26_1).f1) * t124)), .int .i64 0] 37 (0, 0)) byq_7 hb)
     have n6_ := Aside0.mk (below_step byq_0 hb)
     clear HO_8
     clear HO_11
     clear BK114
     clear BK119
     clear BK123
     clear BK125
     clear HB
     have HO_8 := n0_
     have HO_11 := n1_
     have BK114 := n2_
     have BK119 := n3_
     have BK123 := n4_
     have BK125 := n5_
     have HB := n6_
     clear n0_ n1_ n2_ n3_ n4_ n5_ n6_
     (try clear hb)
     (try clear hb2)
     (try clear hk)
     (try clear hi)
     refine hK.out _ _ ⟨(blk_cell BK123.out 0).trans rfl, (blk_cell BK123.out 1).trans rfl, (blk_cell BK123.out 2).trans rfl, (blk_cell BK125.out 0).trans rfl, (blk_cell BK125.out 1).trans rfl, (blk_cell BK125.out 2).trans rfl, (blk_cell BK125.out 3).trans rfl⟩ (fun hHeld => ?_)
     clear hK K
     refine norm_ (a' := ?_) ?_ ?_
     rotate_left
     ·show Act.put _ (some 67) _ = _
      simp only [Act.put, List.setIfInBounds_toArray, List.set_cons_zero, List.set_cons_succ, i64_w, i32_w]
      rfl
     refine one_ (i := 6) (N := some 69) #[T1879, T1879, T1879, T1879, T1879, T1879, T1879, F1879] rfl rfl (one_of HT_.out (by kernel_rfl)) (by decide) (fun K hK => ?_)
     refine goes_ Try.func39 (by kernel_rfl) rfl #[.agg #[.int .i64 t127, .int .i64 t128, .int .i64 t129, .int .i64 t130], .agg #[.int .i64 ((rd_T53 l0 x26_1).f1), .int .i64 x126001_19, .int .i64 (wrap64 (((rd_T53 l0 x26_1).f1) * t124)), .int .i64 0]] (by rfl) rfl rfl byq_11 ?_
     with_reducible refine (estimate_Total_plus.calls t127 t128 t129 t130 ((rd_T53 l0 x26_1).f1) x126001_19 (wrap64 (((rd_T53 l0 x26_1).f1) * t124)) 0 t131 t132 t133 t134 _ A52.out).mono ?_
     rintro e w63 ⟨rfl, hb⟩
     refine ⟨_, rfl, ?_⟩
     have n0_ := Aside0.mk (Mr.R_below byq_4 hb)
     have n1_ := Aside0.mk (Mr.R_below byq_5 hb)
     have n2_ := Aside0.mk (blk_below (g := gb114) (o := .cells #[.int .i64 ((rd_T53 l0 x26_1).f0), .int .i64 ((rd_T53 l0 x26_1).f1), .slice (some ad118) ((rd_T53 l0 x26_1).f2).length c113_2] 53 (0, 0)) byq_1 hb)
     have n3_ := Aside0.mk (blk_below (g := gb119) (o := .cells #[.int .i64 ((rd_T58 ((rd_T53 l0 x26_1).f2) x34_2).f0), .int .i64 ((rd_T58 ((rd_T53 l0 x26_1).f2) x34_2).f1), .int .i64 ((rd_T58 ((rd_T53 l0 x26_1).f2) x34_2).f2), .int .i64 ((rd_T58 ((rd_T53 l0 x26_1).f2) x34_2).f3), .int .i64 ((rd_T58 ((rd_T53 l0 x26_1).f2) x34_2).f4), .int .i64 ((rd_T58 ((rd_T53 l0 x26_1).f2) x34_2).f5), .string ((rd_T58 ((rd_T53 l0 x26_1).f2) x34_2).f6), .string ((rd_T58 ((rd_T53 l0 x26_1).f2) x34_2).f7), .string ((rd_T58 ((rd_T53 l0 x26_1).f2) x34_2).f8), .int .i64 ((rd_T58 ((rd_T53 l0 x26_1).f2) x34_2).f9), .int .i64 ((rd_T58 ((rd_T53 l0 x26_1).f2) x34_2).f10), .bool ((rd_T58 ((rd_T53 l0 x26_1).f2) x34_2).f11), .slice A118_12 ((rd_T58 ((rd_T53 l0 x26_1).f2) x34_2).f12).length c118_12, .slice A118_13 ((rd_T58 ((rd_T53 l0 x26_1).f2) x34_2).f13).length c118_13] 58 (0, 0)) byq_2 hb)
     have n4_ := Aside0.mk (blk_below (g := gb123) (o := .cells #[.string t120, .string t121, .string t122] 39 (0, 0)) byq_3 hb)
     have n5_ := Aside0.mk (blk_below (g := gb125) (o := .cells #[.int .i64 ((rd_T53 l0 x26_1).f1), .int .i64 x126001_19, .int .i64 (wrap64 (((rd_T53 l0 x26_1).f1) * t124)), .int .i64 0] 37 (0, 0)) byq_7 hb)
     have n6_ := Aside0.mk (below_step byq_0 hb)
     clear HO_8
     clear HO_11
     clear BK114
     clear BK119
     clear BK123
     clear BK125
     clear HB
     have HO_8 := n0_
     have HO_11 := n1_
     have BK114 := n2_
     have BK119 := n3_
     have BK123 := n4_
     have BK125 := n5_
     have HB := n6_
     clear n0_ n1_ n2_ n3_ n4_ n5_ n6_
     (try clear hb)
     (try clear hb2)
     (try clear hk)
     (try clear hi)
     refine hK.out _ _ ⟨(blk_cell BK123.out 0).trans rfl, (blk_cell BK123.out 1).trans rfl, (blk_cell BK123.out 2).trans rfl, (blk_cell BK125.out 0).trans rfl, (blk_cell BK125.out 1).trans rfl, (blk_cell BK125.out 2).trans rfl, (blk_cell BK125.out 3).trans rfl⟩ (fun hHeld => ?_)
     clear hK K
     refine norm_ (a' := ?_) ?_ ?_
     rotate_left
     ·show Act.put _ (some 69) _ = _
      simp only [Act.put, List.setIfInBounds_toArray, List.set_cons_zero, List.set_cons_succ, i64_w, i32_w]
      rfl
     refine one_ (i := 7) (N := none) #[T1879, T1879, T1879, T1879, T1879, T1879, T1879, T1879] rfl rfl (one_of HT_.out (by kernel_rfl)) (by decide) (fun K hK => ?_)
     refine Mr.merge_d (ok := (fun k_ => some k_ = Mr.mB (.map (some bo61)))) (w0 := w) (by rfl) rfl _ _ _ rfl rfl rfl rfl ?side1 ?side2 A53.out ?_
     (case side1 => exact byq_0)
     (case side2 => exact Mr.R_tight rfl HO_8.out)
     intro w64 hy0 hb hkp
     have n0_ := Aside0.mk (Mr.R_reok rfl hy0 (fun k_ e_ => Mr.R_ok HO_8.out k_ e_))
     have n1_ := Aside0.mk (Mr.R_mono (ok' := fun k_ => some k_ ≠ Mr.mB (.map (some bo61))) (Mr.R_keptB (HO_11.out) hkp (fun k_ hk_ hs_ => (hk_) hs_)) (fun k_ hk_ => hk_.1))
     have n2_ := Aside0.mk (blk_kept byq_1 hkp (fun hs_ => (fun e_ => (Mr.R_ne HO_8.out BK114.out (by decide)) e_) hs_))
     have n3_ := Aside0.mk (blk_kept byq_2 hkp (fun hs_ => (fun e_ => (Mr.R_ne HO_8.out BK119.out (by decide)) e_) hs_))
     have n4_ := Aside0.mk (blk_kept byq_3 hkp (fun hs_ => (fun e_ => (Mr.R_ne HO_8.out BK123.out (by decide)) e_) hs_))
     have n5_ := Aside0.mk (blk_kept byq_7 hkp (fun hs_ => (fun e_ => (Mr.R_ne HO_8.out BK125.out (by decide)) e_) hs_))
     have n6_ := Aside0.mk (hb)
     clear HO_8
     clear HO_11
     clear BK114
     clear BK119
     clear BK123
     clear BK125
     clear HB
     have HO_8 := n0_
     have HO_11 := n1_
     have BK114 := n2_
     have BK119 := n3_
     have BK123 := n4_
     have BK125 := n5_
     have HB := n6_
     clear n0_ n1_ n2_ n3_ n4_ n5_ n6_
     (try clear hb)
     (try clear hkp)
     (try clear hy0)
     refine hK.out _ _ ⟨(blk_cell BK123.out 0).trans rfl, (blk_cell BK123.out 1).trans rfl, (blk_cell BK123.out 2).trans rfl, (blk_cell BK125.out 0).trans rfl, (blk_cell BK125.out 1).trans rfl, (blk_cell BK125.out 2).trans rfl, (blk_cell BK125.out 3).trans rfl⟩ (fun hHeld => ?_)
     clear hK K
     refine done_ (done_of HT_.out (by kernel_rfl)) ?_
     try go_wp2
     go_roundg kj19
     case measure => have := HK1.out; have := HK2.out; have := HJ19.out; omega
     case rel => exact ⟨(t135), (x11_2), (wrap64 (x34_2 + 1)), byq_13, H', ⟨by have := HK1.out; have := HK2.out; have := HJ19.out; omega⟩, ⟨byq_4⟩, ⟨byq_5⟩, ⟨byq_1⟩, ⟨byq_0⟩⟩
    replace c50 := Bool.eq_false_iff.mpr c50
    subst c50
    have H1 : ((By_add.f x11_2 t120 t121 t122).bind fun t136 => ((By_get.f x8_2 t120 t121 t122).bind fun bt137 => ((estimate_Total_plus.f bt137.1 bt137.2.1 bt137.2.2.1 bt137.2.2.2 ((rd_T53 l0 x26_1).f1) x126001_19 (wrap64 (((rd_T53 l0 x26_1).f1) * t124)) ((rd_T53 l0 x26_1).f1)).bind fun bt141 => ((By_put.f x8_2 t120 t121 t122 bt141.1 bt141.2.1 bt141.2.2.1 bt141.2.2.2).bind fun t145 => (estimate_By.l1 kj19 t105 t145 t136 l0 (l0.length : Int) x26_1 ((rd_T53 l0 x26_1).f2) (((rd_T53 l0 x26_1).f2).length : Int) (wrap64 (x34_2 + 1)) ((rd_T53 l0 x26_1).f0) ((rd_T53 l0 x26_1).f1) ((rd_T53 l0 x26_1).f2)))))) = some (r1, r2) := by rw [if_neg (show ¬ (false = true) by decide)] at H; exact H
    clear H
    have H := H1
    clear H1
    replace H := Option.bind_eq_some_iff.mp H
    obtain ⟨t136, A650, H⟩ := H
    replace H : ((By_get.f x8_2 t120 t121 t122).bind fun bt137 => ((estimate_Total_plus.f bt137.1 bt137.2.1 bt137.2.2.1 bt137.2.2.2 ((rd_T53 l0 x26_1).f1) x126001_19 (wrap64 (((rd_T53 l0 x26_1).f1) * t124)) ((rd_T53 l0 x26_1).f1)).bind fun bt141 => ((By_put.f x8_2 t120 t121 t122 bt141.1 bt141.2.1 bt141.2.2.1 bt141.2.2.2).bind fun t145 => (estimate_By.l1 kj19 t105 t145 t136 l0 (l0.length : Int) x26_1 ((rd_T53 l0 x26_1).f2) (((rd_T53 l0 x26_1).f2).length : Int) (wrap64 (x34_2 + 1)) ((rd_T53 l0 x26_1).f0) ((rd_T53 l0 x26_1).f1) ((rd_T53 l0 x26_1).f2))))) = some (r1, r2) := H
    have A65 := Aside0.mk A650
    clear A650
    replace H := Option.bind_eq_some_iff.mp H
    obtain ⟨⟨t137, t138, t139, t140⟩, A660, H⟩ := H
    replace H : ((estimate_Total_plus.f t137 t138 t139 t140 ((rd_T53 l0 x26_1).f1) x126001_19 (wrap64 (((rd_T53 l0 x26_1).f1) * t124)) ((rd_T53 l0 x26_1).f1)).bind fun bt141 => ((By_put.f x8_2 t120 t121 t122 bt141.1 bt141.2.1 bt141.2.2.1 bt141.2.2.2).bind fun t145 => (estimate_By.l1 kj19 t105 t145 t136 l0 (l0.length : Int) x26_1 ((rd_T53 l0 x26_1).f2) (((rd_T53 l0 x26_1).f2).length : Int) (wrap64 (x34_2 + 1)) ((rd_T53 l0 x26_1).f0) ((rd_T53 l0 x26_1).f1) ((rd_T53 l0 x26_1).f2)))) = some (r1, r2) := H
    have A66 := Aside0.mk A660
    clear A660
    replace H := Option.bind_eq_some_iff.mp H
    obtain ⟨⟨t141, t142, t143, t144⟩, A670, H⟩ := H
    replace H : ((By_put.f x8_2 t120 t121 t122 t141 t142 t143 t144).bind fun t145 => (estimate_By.l1 kj19 t105 t145 t136 l0 (l0.length : Int) x26_1 ((rd_T53 l0 x26_1).f2) (((rd_T53 l0 x26_1).f2).length : Int) (wrap64 (x34_2 + 1)) ((rd_T53 l0 x26_1).f0) ((rd_T53 l0 x26_1).f1) ((rd_T53 l0 x26_1).f2))) = some (r1, r2) := H
    have A67 := Aside0.mk A670
    clear A670
    replace H := Option.bind_eq_some_iff.mp H
    obtain ⟨t145, A680, H⟩ := H
    replace H : (estimate_By.l1 kj19 t105 t145 t136 l0 (l0.length : Int) x26_1 ((rd_T53 l0 x26_1).f2) (((rd_T53 l0 x26_1).f2).length : Int) (wrap64 (x34_2 + 1)) ((rd_T53 l0 x26_1).f0) ((rd_T53 l0 x26_1).f1) ((rd_T53 l0 x26_1).f2)) = some (r1, r2) := H
    have A68 := Aside0.mk A680
    clear A680
    have H' := Aside0.mk H
    clear H
    have hnb69 := NB123_114.out
    have hnc69 := NB114_123.out
    have hnb70 := NB123_119.out
    have hnc70 := NB119_123.out
    have hnb71 := NB123_125.out
    have hnc71 := NB125_123.out
    have hcz72_0 : wc.cell? ⟨gb123, 0, none⟩ = some (.string t120) := (blk_cell BK123.out 0).trans rfl
    have hcz72_1 : wc.cell? ⟨gb123, 1, none⟩ = some (.string t121) := (blk_cell BK123.out 1).trans rfl
    have hcz72_2 : wc.cell? ⟨gb123, 2, none⟩ = some (.string t122) := (blk_cell BK123.out 2).trans rfl
    have hfz72_0 := blk_frozen BK123.out 0
    have hfz72_1 := blk_frozen BK123.out 1
    have hfz72_2 := blk_frozen BK123.out 2
    obtain ⟨bo73, eo73⟩ := Mr.R_map HO_11.out
    subst eo73
    try go_wp2_with (first | ((with_reducible refine gate_dst (N := 56) rfl ?_); refine Mr.find_w rfl _ _ rfl rfl rfl byq_5 A49.out ?_; intro w74 hb; have n0_ := Aside0.mk (Mr.R_below byq_4 hb); have n1_ := Aside0.mk (Mr.R_below byq_5 hb); have n2_ := Aside0.mk (blk_below (g := gb114) (o := .cells #[.int .i64 ((rd_T53 l0 x26_1).f0), .int .i64 ((rd_T53 l0 x26_1).f1), .slice (some ad118) ((rd_T53 l0 x26_1).f2).length c113_2] 53 (0, 0)) byq_1 hb); have n3_ := Aside0.mk (blk_below (g := gb119) (o := .cells #[.int .i64 ((rd_T58 ((rd_T53 l0 x26_1).f2) x34_2).f0), .int .i64 ((rd_T58 ((rd_T53 l0 x26_1).f2) x34_2).f1), .int .i64 ((rd_T58 ((rd_T53 l0 x26_1).f2) x34_2).f2), .int .i64 ((rd_T58 ((rd_T53 l0 x26_1).f2) x34_2).f3), .int .i64 ((rd_T58 ((rd_T53 l0 x26_1).f2) x34_2).f4), .int .i64 ((rd_T58 ((rd_T53 l0 x26_1).f2) x34_2).f5), .string ((rd_T58 ((rd_T53 l0 x26_1).f2) x34_2).f6), .string ((rd_T58 ((rd_T53 l0 x26_1).f2) x34_2).f7), .string ((rd_T58 ((rd_T53 l0 x26_1).f2) x34_2).f8), .int .i64 ((rd_T58 ((rd_T53 l0 x26_1).f2) x34_2).f9), .int .i64 ((rd_T58 ((rd_T53 l0 x26_1).f2) x34_2).f10), .bool ((rd_T58 ((rd_T53 l0 x26_1).f2) x34_2).f11), .slice A118_12 ((rd_T58 ((rd_T53 l0 x26_1).f2) x34_2).f12).length c118_12, .slice A118_13 ((rd_T58 ((rd_T53 l0 x26_1).f2) x34_2).f13).length c118_13] 58 (0, 0)) byq_2 hb); have n4_ := Aside0.mk (blk_below (g := gb123) (o := .cells #[.string t120, .string t121, .string t122] 39 (0, 0)) byq_3 hb); have n5_ := Aside0.mk (blk_below (g := gb125) (o := .cells #[.int .i64 ((rd_T53 l0 x26_1).f1), .int .i64 x126001_19, .int .i64 (wrap64 (((rd_T53 l0 x26_1).f1) * t124)), .int .i64 0] 37 (0, 0)) byq_7 hb); have n6_ := Aside0.mk (below_step byq_0 hb); clear HO_8; clear HO_11; clear BK114; clear BK119; clear BK123; clear BK125; clear HB; have HO_8 := n0_; have HO_11 := n1_; have BK114 := n2_; have BK119 := n3_; have BK123 := n4_; have BK125 := n5_; have HB := n6_; clear n0_ n1_ n2_ n3_ n4_ n5_ n6_; (try clear hb); (try clear hb2); (try clear hk); (try clear hi)))
    have n0_ := Aside0.mk (Mr.R_drew HO_8.out)
    have n1_ := Aside0.mk (Mr.R_drew HO_11.out)
    have n2_ := Aside0.mk (blk_drew BK114.out)
    have n3_ := Aside0.mk (blk_drew BK119.out)
    have n4_ := Aside0.mk (blk_drew BK123.out)
    have n5_ := Aside0.mk (blk_drew BK125.out)
    have n6_ := Aside0.mk (below_drew1 HB.out)
    clear HO_8
    clear HO_11
    clear BK114
    clear BK119
    clear BK123
    clear BK125
    clear HB
    have HO_8 := n0_
    have HO_11 := n1_
    have BK114 := n2_
    have BK119 := n3_
    have BK123 := n4_
    have BK125 := n5_
    have HB := n6_
    clear n0_ n1_ n2_ n3_ n4_ n5_ n6_
    refine start_ (n := 7) (S := fun w' => w'.cell? ⟨gb123, 0, none⟩ = some (.string t120) ∧ w'.cell? ⟨gb123, 1, none⟩ = some (.string t121) ∧ w'.cell? ⟨gb123, 2, none⟩ = some (.string t122) ∧ w'.cell? ⟨gb114, 0, none⟩ = some (.int .i64 ((rd_T53 l0 x26_1).f0)) ∧ w'.cell? ⟨gb114, 1, none⟩ = some (.int .i64 ((rd_T53 l0 x26_1).f1)) ∧ w'.cell? ⟨gb114, 2, none⟩ = some (.slice (some ad118) ((rd_T53 l0 x26_1).f2).length c113_2)) (ds := []) #[F1879, F1879, F1879, F1879, F1879, F1879, F1879] (by kernel_rfl) rfl rfl ⟨(blk_cell BK123.out 0).trans rfl, (blk_cell BK123.out 1).trans rfl, (blk_cell BK123.out 2).trans rfl, (blk_cell BK114.out 0).trans rfl, (blk_cell BK114.out 1).trans rfl, (blk_cell BK114.out 2).trans rfl⟩ (fun hHeld => ?_)
    generalize w74.drew = w75 at HO_8 HO_11 BK114 BK119 BK123 BK125 HB hHeld ⊢
    refine pure_ (i := 0) (N := some 58) (v := ?_) (a' := ?_) #[T1879, F1879, F1879, F1879, F1879, F1879, F1879] rfl rfl (by kernel_rfl) (fun _ _ _ h => h) (Or.inl ⟨by rfl, ?_⟩) ?_ ?_
    rotate_left
    ·intro w'
     go_simp
     with_reducible rfl
    rotate_left
    ·simp only [Act.put, List.setIfInBounds_toArray, List.set_cons_zero, List.set_cons_succ, i64_w, i32_w]
     rfl
    refine pure_ (i := 2) (N := some 60) (v := ?_) (a' := ?_) #[T1879, F1879, T1879, F1879, F1879, F1879, F1879] rfl rfl (by kernel_rfl) (fun _ _ _ h => h) (Or.inl ⟨by rfl, ?_⟩) ?_ ?_
    rotate_left
    ·intro w'
     go_simp
     with_reducible rfl
    rotate_left
    ·simp only [Act.put, List.setIfInBounds_toArray, List.set_cons_zero, List.set_cons_succ, i64_w, i32_w]
     rfl
    refine take_ (i := 1) (N := some 59) (v := ?_) (a' := ?_) #[T1879, T1879, T1879, F1879, F1879, F1879, F1879] rfl rfl (by kernel_rfl) (fun _ _ _ h => h) (Or.inl ⟨by rfl, ?_⟩) hHeld ?_ ?_
    rotate_left
    ·rintro w' ⟨s0, s1, s2, s3, s4, s5⟩
     go_simp
     with_reducible rfl
    rotate_left
    ·simp only [Act.put, List.setIfInBounds_toArray, List.set_cons_zero, List.set_cons_succ, i64_w, i32_w]
     rfl
    refine take_ (i := 3) (N := some 61) (v := ?_) (a' := ?_) #[T1879, T1879, T1879, T1879, F1879, F1879, F1879] rfl rfl (by kernel_rfl) (fun _ _ _ h => h) (Or.inl ⟨by rfl, ?_⟩) hHeld ?_ ?_
    rotate_left
    ·rintro w' ⟨s0, s1, s2, s3, s4, s5⟩
     go_simp
     with_reducible rfl
    rotate_left
    ·simp only [Act.put, List.setIfInBounds_toArray, List.set_cons_zero, List.set_cons_succ, i64_w, i32_w]
     rfl
    refine one_ (i := 4) (N := none) #[T1879, T1879, T1879, T1879, T1879, F1879, F1879] rfl rfl (by kernel_rfl) (by decide) (fun K hK => ?_)
    refine Mr.sum_d (ok := (fun k_ => some k_ = Mr.mB (.map (some bo73)))) (w0 := w) (by rfl) rfl _ _ _ rfl rfl rfl rfl ?side1 ?side2 A65.out ?_
    (case side1 => exact byq_0)
    (case side2 => exact Mr.R_tight rfl HO_11.out)
    intro w76 hy0 hb hkp
    have n0_ := Aside0.mk (Mr.R_mono (ok' := fun k_ => some k_ ≠ Mr.mB (.map (some bo73))) (Mr.R_keptB (HO_8.out) hkp (fun k_ hk_ hs_ => (hk_) hs_)) (fun k_ hk_ => hk_.1))
    have n1_ := Aside0.mk (Mr.R_reok rfl hy0 (fun k_ e_ => Mr.R_ok HO_11.out k_ e_))
    have n2_ := Aside0.mk (blk_kept byq_1 hkp (fun hs_ => (fun e_ => (Mr.R_ne HO_11.out BK114.out (by decide)) e_) hs_))
    have n3_ := Aside0.mk (blk_kept byq_2 hkp (fun hs_ => (fun e_ => (Mr.R_ne HO_11.out BK119.out (by decide)) e_) hs_))
    have n4_ := Aside0.mk (blk_kept byq_3 hkp (fun hs_ => (fun e_ => (Mr.R_ne HO_11.out BK123.out (by decide)) e_) hs_))
    have n5_ := Aside0.mk (blk_kept byq_7 hkp (fun hs_ => (fun e_ => (Mr.R_ne HO_11.out BK125.out (by decide)) e_) hs_))
    have n6_ := Aside0.mk (hb)
    clear HO_8
    clear HO_11
    clear BK114
    clear BK119
    clear BK123
    clear BK125
    clear HB
    have HO_8 := n0_
    have HO_11 := n1_
    have BK114 := n2_
    have BK119 := n3_
    have BK123 := n4_
    have BK125 := n5_
    have HB := n6_
    clear n0_ n1_ n2_ n3_ n4_ n5_ n6_
    (try clear hb)
    (try clear hkp)
    (try clear hy0)
    refine hK.out _ _ ⟨(blk_cell BK123.out 0).trans rfl, (blk_cell BK123.out 1).trans rfl, (blk_cell BK123.out 2).trans rfl, (blk_cell BK114.out 0).trans rfl, (blk_cell BK114.out 1).trans rfl, (blk_cell BK114.out 2).trans rfl⟩ (fun hHeld => ?_)
    clear hK K
    refine pure_ (i := 5) (N := some 62) (v := ?_) (a' := ?_) #[T1879, T1879, T1879, T1879, T1879, T1879, F1879] rfl rfl (by kernel_rfl) (fun _ _ _ h => h) (Or.inl ⟨by rfl, ?_⟩) ?_ ?_
    rotate_left
    ·intro w'
     go_simp
     with_reducible rfl
    rotate_left
    ·simp only [Act.put, List.setIfInBounds_toArray, List.set_cons_zero, List.set_cons_succ, i64_w, i32_w]
     rfl
    refine one_ (i := 6) (N := none) #[T1879, T1879, T1879, T1879, T1879, T1879, T1879] rfl rfl (by kernel_rfl) (by decide) (fun K hK => ?_)
    have hs77 : w76.cell? ⟨gb125, 3, none⟩ = some (.int .i64 0) := (blk_cell BK125.out 3).trans rfl
    have hfs77 := blk_frozen BK125.out 3
    have hns77_0 := NB114_125.out
    have hns77_1 := NB119_125.out
    have hns77_2 := NB123_125.out
    have hms77_0 := NB125_114.out
    have hms77_1 := NB125_119.out
    have hms77_2 := NB125_123.out
    refine skip_ (w1 := ?_) (by rfl) rfl ?_ ?_
    rotate_left
    ·go_simp
     rfl
    refine hK.out _ _ ⟨((cell_far (p := ⟨gb125, _, none⟩) NB123_125.out _).trans (hHeld.1)), ((cell_far (p := ⟨gb125, _, none⟩) NB123_125.out _).trans (hHeld.2.1)), ((cell_far (p := ⟨gb125, _, none⟩) NB123_125.out _).trans (hHeld.2.2.1)), ((cell_far (p := ⟨gb125, _, none⟩) NB114_125.out _).trans (hHeld.2.2.2.1)), ((cell_far (p := ⟨gb125, _, none⟩) NB114_125.out _).trans (hHeld.2.2.2.2.1)), ((cell_far (p := ⟨gb125, _, none⟩) NB114_125.out _).trans (hHeld.2.2.2.2.2))⟩ (fun hHeld => ?_)
    clear hK K
    refine done_ (by kernel_rfl) ?_
    try go_wp2
    have n0_ : Aside0 (Mr.R Mr.mT (w76.setCell ⟨gb125, 3, none⟩ (.int .i64 ((rd_T53 l0 x26_1).f1))) w.heap.size (fun k_ => some k_ ≠ Mr.mB (.map (some bo73))) v108 x8_2) := ⟨by (with_reducible repeat (first | apply Mr.R_alloc | apply Mr.R_drewN | apply Mr.R_drew)); exact Mr.R_mono (Mr.R_far (p := ⟨gb125, 3, none⟩) (Mr.R_types HO_8.out BK125.out (by decide)) (fun _ hk => hk.2) (.int .i64 ((rd_T53 l0 x26_1).f1))) (fun _ hk => hk.1)⟩
    have n1_ : Aside0 (Mr.R Mr.mS (w76.setCell ⟨gb125, 3, none⟩ (.int .i64 ((rd_T53 l0 x26_1).f1))) w.heap.size (fun k_ => some k_ ≠ Mr.mB (v108)) (.map (some bo73)) t136) := ⟨by (with_reducible repeat (first | apply Mr.R_alloc | apply Mr.R_drewN | apply Mr.R_drew)); exact Mr.R_mono (Mr.R_far (p := ⟨gb125, 3, none⟩) (Mr.R_types HO_11.out BK125.out (by decide)) (fun _ hk => hk.2) (.int .i64 ((rd_T53 l0 x26_1).f1))) (fun _ hk => hk.1)⟩
    have n2_ : Aside0 ((w76.setCell ⟨gb125, 3, none⟩ (.int .i64 ((rd_T53 l0 x26_1).f1))).heap[gb114]? = some (.cells #[.int .i64 ((rd_T53 l0 x26_1).f0), .int .i64 ((rd_T53 l0 x26_1).f1), .slice (some ad118) ((rd_T53 l0 x26_1).f2).length c113_2] 53 (0, 0))) := ⟨by (with_reducible repeat (first | refine blk_drewN ?_ _ | refine blk_drew ?_ | refine blk_alloc ?_ _)); refine blk_far ?_ NB114_125.out _; (with_reducible repeat (first | refine blk_drewN ?_ _ | refine blk_drew ?_ | refine blk_alloc ?_ _)); exact BK114.out⟩
    have n3_ : Aside0 ((w76.setCell ⟨gb125, 3, none⟩ (.int .i64 ((rd_T53 l0 x26_1).f1))).heap[gb119]? = some (.cells #[.int .i64 ((rd_T58 ((rd_T53 l0 x26_1).f2) x34_2).f0), .int .i64 ((rd_T58 ((rd_T53 l0 x26_1).f2) x34_2).f1), .int .i64 ((rd_T58 ((rd_T53 l0 x26_1).f2) x34_2).f2), .int .i64 ((rd_T58 ((rd_T53 l0 x26_1).f2) x34_2).f3), .int .i64 ((rd_T58 ((rd_T53 l0 x26_1).f2) x34_2).f4), .int .i64 ((rd_T58 ((rd_T53 l0 x26_1).f2) x34_2).f5), .string ((rd_T58 ((rd_T53 l0 x26_1).f2) x34_2).f6), .string ((rd_T58 ((rd_T53 l0 x26_1).f2) x34_2).f7), .string ((rd_T58 ((rd_T53 l0 x26_1).f2) x34_2).f8), .int .i64 ((rd_T58 ((rd_T53 l0 x26_1).f2) x34_2).f9), .int .i64 ((rd_T58 ((rd_T53 l0 x26_1).f2) x34_2).f10), .bool ((rd_T58 ((rd_T53 l0 x26_1).f2) x34_2).f11), .slice A118_12 ((rd_T58 ((rd_T53 l0 x26_1).f2) x34_2).f12).length c118_12, .slice A118_13 ((rd_T58 ((rd_T53 l0 x26_1).f2) x34_2).f13).length c118_13] 58 (0, 0))) := ⟨by (with_reducible repeat (first | refine blk_drewN ?_ _ | refine blk_drew ?_ | refine blk_alloc ?_ _)); refine blk_far ?_ NB119_125.out _; (with_reducible repeat (first | refine blk_drewN ?_ _ | refine blk_drew ?_ | refine blk_alloc ?_ _)); exact BK119.out⟩
    have n4_ : Aside0 ((w76.setCell ⟨gb125, 3, none⟩ (.int .i64 ((rd_T53 l0 x26_1).f1))).heap[gb123]? = some (.cells #[.string t120, .string t121, .string t122] 39 (0, 0))) := ⟨by (with_reducible repeat (first | refine blk_drewN ?_ _ | refine blk_drew ?_ | refine blk_alloc ?_ _)); refine blk_far ?_ NB123_125.out _; (with_reducible repeat (first | refine blk_drewN ?_ _ | refine blk_drew ?_ | refine blk_alloc ?_ _)); exact BK123.out⟩
    have n5_ : Aside0 ((w76.setCell ⟨gb125, 3, none⟩ (.int .i64 ((rd_T53 l0 x26_1).f1))).heap[gb125]? = some (.cells #[.int .i64 ((rd_T53 l0 x26_1).f1), .int .i64 x126001_19, .int .i64 (wrap64 (((rd_T53 l0 x26_1).f1) * t124)), .int .i64 ((rd_T53 l0 x26_1).f1)] 37 (0, 0))) := ⟨by (with_reducible repeat (first | refine blk_drewN ?_ _ | refine blk_drew ?_ | refine blk_alloc ?_ _)); refine blk_put (cs := #[.int .i64 ((rd_T53 l0 x26_1).f1), .int .i64 x126001_19, .int .i64 (wrap64 (((rd_T53 l0 x26_1).f1) * t124)), .int .i64 0]) ?_ 3 _ rfl; (with_reducible repeat (first | refine blk_drewN ?_ _ | refine blk_drew ?_ | refine blk_alloc ?_ _)); exact BK125.out⟩
    have n6_ : Aside0 (Below w.heap.size w (w76.setCell ⟨gb125, 3, none⟩ (.int .i64 ((rd_T53 l0 x26_1).f1)))) := ⟨byq_0⟩
    (try clear HO_8)
    (try clear HO_11)
    (try clear BK114)
    (try clear BK119)
    (try clear BK123)
    (try clear BK125)
    (try clear HB)
    generalize (w76.setCell ⟨gb125, 3, none⟩ (.int .i64 ((rd_T53 l0 x26_1).f1))) = w78 at n0_ n1_ n2_ n3_ n4_ n5_ n6_ ⊢
    have HO_8 := n0_
    have HO_11 := n1_
    have BK114 := n2_
    have BK119 := n3_
    have BK123 := n4_
    have BK125 := n5_
    have HB := n6_
    clear n0_ n1_ n2_ n3_ n4_ n5_ n6_
    have n0_ := Aside0.mk (Mr.R_drew HO_8.out)
    have n1_ := Aside0.mk (Mr.R_drew HO_11.out)
    have n2_ := Aside0.mk (blk_drew BK114.out)
    have n3_ := Aside0.mk (blk_drew BK119.out)
    have n4_ := Aside0.mk (blk_drew BK123.out)
    have n5_ := Aside0.mk (blk_drew BK125.out)
    have n6_ := Aside0.mk (below_drew1 HB.out)
    clear HO_8
    clear HO_11
    clear BK114
    clear BK119
    clear BK123
    clear BK125
    clear HB
    have HO_8 := n0_
    have HO_11 := n1_
    have BK114 := n2_
    have BK119 := n3_
    have BK123 := n4_
    have BK125 := n5_
    have HB := n6_
    clear n0_ n1_ n2_ n3_ n4_ n5_ n6_
    obtain ⟨bo80, eo80⟩ := Mr.R_map HO_8.out
    (first | subst eo80 | (injection eo80 with f1_; injection f1_ with f2_; subst f2_))
    refine start_ (n := 8) (S := fun w' => w'.cell? ⟨gb123, 0, none⟩ = some (.string t120) ∧ w'.cell? ⟨gb123, 1, none⟩ = some (.string t121) ∧ w'.cell? ⟨gb123, 2, none⟩ = some (.string t122) ∧ w'.cell? ⟨gb125, 0, none⟩ = some (.int .i64 ((rd_T53 l0 x26_1).f1)) ∧ w'.cell? ⟨gb125, 1, none⟩ = some (.int .i64 x126001_19) ∧ w'.cell? ⟨gb125, 2, none⟩ = some (.int .i64 (wrap64 (((rd_T53 l0 x26_1).f1) * t124))) ∧ w'.cell? ⟨gb125, 3, none⟩ = some (.int .i64 ((rd_T53 l0 x26_1).f1))) (ds := []) #[F1879, F1879, F1879, F1879, F1879, F1879, F1879, F1879] (by kernel_rfl) rfl rfl ⟨(blk_cell BK123.out 0).trans rfl, (blk_cell BK123.out 1).trans rfl, (blk_cell BK123.out 2).trans rfl, (blk_cell BK125.out 0).trans rfl, (blk_cell BK125.out 1).trans rfl, (blk_cell BK125.out 2).trans rfl, (blk_cell BK125.out 3).trans rfl⟩ (fun hHeld => ?_); refine with_tabW estimate_By.tab18 estimate_By.bits18 (fun HT_ HW_ => ?_)
    generalize w78.drew = w79 at HO_8 HO_11 BK114 BK119 BK123 BK125 HB hHeld ⊢
    refine pure_ (i := 0) (N := some 63) (v := ?_) (a' := ?_) #[T1879, F1879, F1879, F1879, F1879, F1879, F1879, F1879] rfl rfl (any_of HT_.out (by kernel_rfl)) (fun _ _ _ h => h) (Or.inl ⟨by rfl, ?_⟩) ?_ ?_
    rotate_left
    ·intro w'
     go_simp
     with_reducible rfl
    rotate_left
    ·simp only [Act.put, List.setIfInBounds_toArray, List.set_cons_zero, List.set_cons_succ, i64_w, i32_w]
     rfl
    refine pure_ (i := 2) (N := some 65) (v := ?_) (a' := ?_) #[T1879, F1879, T1879, F1879, F1879, F1879, F1879, F1879] rfl rfl (any_of HT_.out (by kernel_rfl)) (fun _ _ _ h => h) (Or.inl ⟨by rfl, ?_⟩) ?_ ?_
    rotate_left
    ·intro w'
     go_simp
     with_reducible rfl
    rotate_left
    ·simp only [Act.put, List.setIfInBounds_toArray, List.set_cons_zero, List.set_cons_succ, i64_w, i32_w]
     rfl
    refine take_ (i := 1) (N := some 64) (v := ?_) (a' := ?_) #[T1879, T1879, T1879, F1879, F1879, F1879, F1879, F1879] rfl rfl (take_ofW HT_.out HW_.out (by kernel_rfl)) (fun _ _ _ h => h) (Or.inl ⟨by rfl, ?_⟩) hHeld ?_ ?_
    rotate_left
    ·rintro w' ⟨s0, s1, s2, s3, s4, s5, s6⟩
     go_simp
     with_reducible rfl
    rotate_left
    ·simp only [Act.put, List.setIfInBounds_toArray, List.set_cons_zero, List.set_cons_succ, i64_w, i32_w]
     rfl
    refine take_ (i := 3) (N := some 66) (v := ?_) (a' := ?_) #[T1879, T1879, T1879, T1879, F1879, F1879, F1879, F1879] rfl rfl (take_ofW HT_.out HW_.out (by kernel_rfl)) (fun _ _ _ h => h) (Or.inl ⟨by rfl, ?_⟩) hHeld ?_ ?_
    rotate_left
    ·rintro w' ⟨s0, s1, s2, s3, s4, s5, s6⟩
     go_simp
     with_reducible rfl
    rotate_left
    ·simp only [Act.put, List.setIfInBounds_toArray, List.set_cons_zero, List.set_cons_succ, i64_w, i32_w]
     rfl
    refine take_ (i := 5) (N := some 68) (v := ?_) (a' := ?_) #[T1879, T1879, T1879, T1879, F1879, T1879, F1879, F1879] rfl rfl (take_ofW HT_.out HW_.out (by kernel_rfl)) (fun _ _ _ h => h) (Or.inl ⟨by rfl, ?_⟩) hHeld ?_ ?_
    rotate_left
    ·rintro w' ⟨s0, s1, s2, s3, s4, s5, s6⟩
     go_simp
     with_reducible rfl
    rotate_left
    ·simp only [Act.put, List.setIfInBounds_toArray, List.set_cons_zero, List.set_cons_succ, i64_w, i32_w]
     rfl
    refine one_ (i := 4) (N := some 67) #[T1879, T1879, T1879, T1879, T1879, T1879, F1879, F1879] rfl rfl (one_of HT_.out (by kernel_rfl)) (by decide) (fun K hK => ?_)
    refine Mr.top_d (by rfl) rfl _ _ rfl rfl rfl byq_4 A66.out ?_
    intro w81 hb
    have n0_ := Aside0.mk (Mr.R_below byq_4 hb)
    have n1_ := Aside0.mk (Mr.R_below byq_5 hb)
    have n2_ := Aside0.mk (blk_below (g := gb114) (o := .cells #[.int .i64 ((rd_T53 l0 x26_1).f0), .int .i64 ((rd_T53 l0 x26_1).f1), .slice (some ad118) ((rd_T53 l0 x26_1).f2).length c113_2] 53 (0, 0)) byq_1 hb)
    have n3_ := Aside0.mk (blk_below (g := gb119) (o := .cells #[.int .i64 ((rd_T58 ((rd_T53 l0 x26_1).f2) x34_2).f0), .int .i64 ((rd_T58 ((rd_T53 l0 x26_1).f2) x34_2).f1), .int .i64 ((rd_T58 ((rd_T53 l0 x26_1).f2) x34_2).f2), .int .i64 ((rd_T58 ((rd_T53 l0 x26_1).f2) x34_2).f3), .int .i64 ((rd_T58 ((rd_T53 l0 x26_1).f2) x34_2).f4), .int .i64 ((rd_T58 ((rd_T53 l0 x26_1).f2) x34_2).f5), .string ((rd_T58 ((rd_T53 l0 x26_1).f2) x34_2).f6), .string ((rd_T58 ((rd_T53 l0 x26_1).f2) x34_2).f7), .string ((rd_T58 ((rd_T53 l0 x26_1).f2) x34_2).f8), .int .i64 ((rd_T58 ((rd_T53 l0 x26_1).f2) x34_2).f9), .int .i64 ((rd_T58 ((rd_T53 l0 x26_1).f2) x34_2).f10), .bool ((rd_T58 ((rd_T53 l0 x26_1).f2) x34_2).f11), .slice A118_12 ((rd_T58 ((rd_T53 l0 x26_1).f2) x34_2).f12).length c118_12, .slice A118_13 ((rd_T58 ((rd_T53 l0 x26_1).f2) x34_2).f13).length c118_13] 58 (0, 0)) byq_2 hb)
    have n4_ := Aside0.mk (blk_below (g := gb123) (o := .cells #[.string t120, .string t121, .string t122] 39 (0, 0)) byq_3 hb)
    have n5_ := Aside0.mk (blk_below (g := gb125) (o := .cells #[.int .i64 ((rd_T53 l0 x26_1).f1), .int .i64 x126001_19, .int .i64 (wrap64 (((rd_T53 l0 x26_1).f1) * t124)), .int .i64 ((rd_T53 l0 x26_1).f1)] 37 (0, 0)) byq_7 hb)
    have n6_ := Aside0.mk (below_step byq_0 hb)
    clear HO_8
    clear HO_11
    clear BK114
    clear BK119
    clear BK123
    clear BK125
    clear HB
    have HO_8 := n0_
    have HO_11 := n1_
    have BK114 := n2_
    have BK119 := n3_
    have BK123 := n4_
    have BK125 := n5_
    have HB := n6_
    clear n0_ n1_ n2_ n3_ n4_ n5_ n6_
    (try clear hb)
    (try clear hb2)
    (try clear hk)
    (try clear hi)
    refine hK.out _ _ ⟨(blk_cell BK123.out 0).trans rfl, (blk_cell BK123.out 1).trans rfl, (blk_cell BK123.out 2).trans rfl, (blk_cell BK125.out 0).trans rfl, (blk_cell BK125.out 1).trans rfl, (blk_cell BK125.out 2).trans rfl, (blk_cell BK125.out 3).trans rfl⟩ (fun hHeld => ?_)
    clear hK K
    refine norm_ (a' := ?_) ?_ ?_
    rotate_left
    ·show Act.put _ (some 67) _ = _
     simp only [Act.put, List.setIfInBounds_toArray, List.set_cons_zero, List.set_cons_succ, i64_w, i32_w]
     rfl
    refine one_ (i := 6) (N := some 69) #[T1879, T1879, T1879, T1879, T1879, T1879, T1879, F1879] rfl rfl (one_of HT_.out (by kernel_rfl)) (by decide) (fun K hK => ?_)
    refine goes_ Try.func39 (by kernel_rfl) rfl #[.agg #[.int .i64 t137, .int .i64 t138, .int .i64 t139, .int .i64 t140], .agg #[.int .i64 ((rd_T53 l0 x26_1).f1), .int .i64 x126001_19, .int .i64 (wrap64 (((rd_T53 l0 x26_1).f1) * t124)), .int .i64 ((rd_T53 l0 x26_1).f1)]] (by rfl) rfl rfl byq_11 ?_
    with_reducible refine (estimate_Total_plus.calls t137 t138 t139 t140 ((rd_T53 l0 x26_1).f1) x126001_19 (wrap64 (((rd_T53 l0 x26_1).f1) * t124)) ((rd_T53 l0 x26_1).f1) t141 t142 t143 t144 _ A67.out).mono ?_
    rintro e w82 ⟨rfl, hb⟩
    refine ⟨_, rfl, ?_⟩
    have n0_ := Aside0.mk (Mr.R_below byq_4 hb)
    have n1_ := Aside0.mk (Mr.R_below byq_5 hb)
    have n2_ := Aside0.mk (blk_below (g := gb114) (o := .cells #[.int .i64 ((rd_T53 l0 x26_1).f0), .int .i64 ((rd_T53 l0 x26_1).f1), .slice (some ad118) ((rd_T53 l0 x26_1).f2).length c113_2] 53 (0, 0)) byq_1 hb)
    have n3_ := Aside0.mk (blk_below (g := gb119) (o := .cells #[.int .i64 ((rd_T58 ((rd_T53 l0 x26_1).f2) x34_2).f0), .int .i64 ((rd_T58 ((rd_T53 l0 x26_1).f2) x34_2).f1), .int .i64 ((rd_T58 ((rd_T53 l0 x26_1).f2) x34_2).f2), .int .i64 ((rd_T58 ((rd_T53 l0 x26_1).f2) x34_2).f3), .int .i64 ((rd_T58 ((rd_T53 l0 x26_1).f2) x34_2).f4), .int .i64 ((rd_T58 ((rd_T53 l0 x26_1).f2) x34_2).f5), .string ((rd_T58 ((rd_T53 l0 x26_1).f2) x34_2).f6), .string ((rd_T58 ((rd_T53 l0 x26_1).f2) x34_2).f7), .string ((rd_T58 ((rd_T53 l0 x26_1).f2) x34_2).f8), .int .i64 ((rd_T58 ((rd_T53 l0 x26_1).f2) x34_2).f9), .int .i64 ((rd_T58 ((rd_T53 l0 x26_1).f2) x34_2).f10), .bool ((rd_T58 ((rd_T53 l0 x26_1).f2) x34_2).f11), .slice A118_12 ((rd_T58 ((rd_T53 l0 x26_1).f2) x34_2).f12).length c118_12, .slice A118_13 ((rd_T58 ((rd_T53 l0 x26_1).f2) x34_2).f13).length c118_13] 58 (0, 0)) byq_2 hb)
    have n4_ := Aside0.mk (blk_below (g := gb123) (o := .cells #[.string t120, .string t121, .string t122] 39 (0, 0)) byq_3 hb)
    have n5_ := Aside0.mk (blk_below (g := gb125) (o := .cells #[.int .i64 ((rd_T53 l0 x26_1).f1), .int .i64 x126001_19, .int .i64 (wrap64 (((rd_T53 l0 x26_1).f1) * t124)), .int .i64 ((rd_T53 l0 x26_1).f1)] 37 (0, 0)) byq_7 hb)
    have n6_ := Aside0.mk (below_step byq_0 hb)
    clear HO_8
    clear HO_11
    clear BK114
    clear BK119
    clear BK123
    clear BK125
    clear HB
    have HO_8 := n0_
    have HO_11 := n1_
    have BK114 := n2_
    have BK119 := n3_
    have BK123 := n4_
    have BK125 := n5_
    have HB := n6_
    clear n0_ n1_ n2_ n3_ n4_ n5_ n6_
    (try clear hb)
    (try clear hb2)
    (try clear hk)
    (try clear hi)
    refine hK.out _ _ ⟨(blk_cell BK123.out 0).trans rfl, (blk_cell BK123.out 1).trans rfl, (blk_cell BK123.out 2).trans rfl, (blk_cell BK125.out 0).trans rfl, (blk_cell BK125.out 1).trans rfl, (blk_cell BK125.out 2).trans rfl, (blk_cell BK125.out 3).trans rfl⟩ (fun hHeld => ?_)
    clear hK K
    refine norm_ (a' := ?_) ?_ ?_
    rotate_left
    ·show Act.put _ (some 69) _ = _
     simp only [Act.put, List.setIfInBounds_toArray, List.set_cons_zero, List.set_cons_succ, i64_w, i32_w]
     rfl
    refine one_ (i := 7) (N := none) #[T1879, T1879, T1879, T1879, T1879, T1879, T1879, T1879] rfl rfl (one_of HT_.out (by kernel_rfl)) (by decide) (fun K hK => ?_)
    refine Mr.merge_d (ok := (fun k_ => some k_ = Mr.mB (.map (some bo80)))) (w0 := w) (by rfl) rfl _ _ _ rfl rfl rfl rfl ?side1 ?side2 A68.out ?_
    (case side1 => exact byq_0)
    (case side2 => exact Mr.R_tight rfl HO_8.out)
    intro w83 hy0 hb hkp
    have n0_ := Aside0.mk (Mr.R_reok rfl hy0 (fun k_ e_ => Mr.R_ok HO_8.out k_ e_))
    have n1_ := Aside0.mk (Mr.R_mono (ok' := fun k_ => some k_ ≠ Mr.mB (.map (some bo80))) (Mr.R_keptB (HO_11.out) hkp (fun k_ hk_ hs_ => (hk_) hs_)) (fun k_ hk_ => hk_.1))
    have n2_ := Aside0.mk (blk_kept byq_1 hkp (fun hs_ => (fun e_ => (Mr.R_ne HO_8.out BK114.out (by decide)) e_) hs_))
    have n3_ := Aside0.mk (blk_kept byq_2 hkp (fun hs_ => (fun e_ => (Mr.R_ne HO_8.out BK119.out (by decide)) e_) hs_))
    have n4_ := Aside0.mk (blk_kept byq_3 hkp (fun hs_ => (fun e_ => (Mr.R_ne HO_8.out BK123.out (by decide)) e_) hs_))
    have n5_ := Aside0.mk (blk_kept byq_7 hkp (fun hs_ => (fun e_ => (Mr.R_ne HO_8.out BK125.out (by decide)) e_) hs_))
    have n6_ := Aside0.mk (hb)
    clear HO_8
    clear HO_11
    clear BK114
    clear BK119
    clear BK123
    clear BK125
    clear HB
    have HO_8 := n0_
    have HO_11 := n1_
    have BK114 := n2_
    have BK119 := n3_
    have BK123 := n4_
    have BK125 := n5_
    have HB := n6_
    clear n0_ n1_ n2_ n3_ n4_ n5_ n6_
    (try clear hb)
    (try clear hkp)
    (try clear hy0)
    refine hK.out _ _ ⟨(blk_cell BK123.out 0).trans rfl, (blk_cell BK123.out 1).trans rfl, (blk_cell BK123.out 2).trans rfl, (blk_cell BK125.out 0).trans rfl, (blk_cell BK125.out 1).trans rfl, (blk_cell BK125.out 2).trans rfl, (blk_cell BK125.out 3).trans rfl⟩ (fun hHeld => ?_)
    clear hK K
    refine done_ (done_of HT_.out (by kernel_rfl)) ?_
    try go_wp2
    go_roundg kj19
    case measure => have := HK1.out; have := HK2.out; have := HJ19.out; omega
    case rel => exact ⟨(t145), (t136), (wrap64 (x34_2 + 1)), byq_13, H', ⟨by have := HK1.out; have := HK2.out; have := HJ19.out; omega⟩, ⟨byq_4⟩, ⟨byq_5⟩, ⟨byq_1⟩, ⟨byq_0⟩⟩

end Go.Proofs.Ythdifdnjodbdnaa.Q
