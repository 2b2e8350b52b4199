-- Laid by myprint.py (a program of this session's, over the kit's printer and with functions proved by hand)
import Derived.Test.YthdifdnjodbdnaaTy
import Derived.Test.YthdifdnjodbdnaaQgL13
import Derived.Test.YthdifdnjodbdnaaQgStH
namespace Go.Proofs.Ythdifdnjodbdnaa.Q
open Go.RowKit Go.Proofs.YthdifdnjodbdnaaW.PrintWords Go.Proofs.YthdifdnjodbdnaaW.PrintLast Go.Proofs.YthdifdnjodbdnaaW.PrintMore
attribute [local go_sem] max2_int min2_int max_two min_two max_three min_three max_four min_four   -- for this text's walks alone
set_option linter.unusedVariables false
set_option linter.unusedSimpArgs false

abbrev T3484 : Bool := true
abbrev F3484 : Bool := false
theorem qgtrs_0 {p : Prop} (h : p := by repeat (first | (with_reducible first | exact HB.out | apply below_alloc | apply pw_below_drewN | apply below_drew1 | refine below_set ?_ GE219.out | refine below_set ?_ GE225.out) | exact HB.out)) : p := h
theorem qgtrs_1 {p : Prop} (h : p := by (with_reducible repeat (first | refine blk_drewN ?_ _ | refine blk_drew ?_ | refine blk_alloc ?_ _)); exact BK219.out) : p := h
theorem qgtrs_2 {p : Prop} (h : p := by (with_reducible repeat (first | refine blk_drewN ?_ _ | refine blk_drew ?_ | refine blk_alloc ?_ _)); exact BK225.out) : p := h
theorem qgtrs_3 {p : Prop} (h : p := by (with_reducible repeat (first | apply Kd.N_alloc | apply Kd.N_drewN | apply Kd.N_drew)); exact HO_3.out) : p := h
theorem qgtrs_4 {p : Prop} (h : p := by repeat (first | (with_reducible first | exact HB.out | apply below_alloc | apply pw_below_drewN | apply below_drew1 | refine below_set ?_ GE219.out) | exact HB.out)) : p := h
theorem qgtrs_5 {p : Prop} (h : p := by first | (with_reducible assumption) | assumption) : p := h
theorem qgtrs_6 {p : Prop} (h : p := by repeat (first | exact (Kd.C_below HR0_0.out HB.out) | (with_reducible refine Kd.C_alloc ?_ _) | (with_reducible refine Kd.C_drewN ?_ _) | (with_reducible refine Kd.C_drew ?_))) : p := h
theorem qgtrs_7 {p : Prop} (h : p := by repeat (first | exact (Kd.C_below HR0_5.out HB.out) | (with_reducible refine Kd.C_alloc ?_ _) | (with_reducible refine Kd.C_drewN ?_ _) | (with_reducible refine Kd.C_drew ?_))) : p := h
theorem qgtrs_8 {p : Prop} (h : p := by (with_reducible repeat (first | apply Kd.N_alloc | apply Kd.N_drewN | apply Kd.N_drew)); exact HO_226002.out) : p := h
theorem qgtrs_9 {p : Prop} (h : p := by (with_reducible repeat (first | apply Kd.V_alloc | apply Kd.V_drewN | apply Kd.V_drew)); exact HO234.out) : p := h
theorem qgtrs_10 {p : Prop} (h : p := by (with_reducible repeat (first | apply Kd.V_alloc | apply Kd.V_drewN | apply Kd.V_drew)); exact HO248.out) : p := h
theorem qgtrs_11 {p : Prop} (h : p := by (try simp only [List.map_toArray, List.map_cons, List.map_nil]); first | done | rfl | (simp only [List.length_drop, List.length_take]; rfl)) : p := h
theorem qgtrs_12 {p : Prop} (h : p := by exact (fun k_ hk => ⟨(Nat.le_trans (below_size qgtrs_0) hk), Kd.fresh' (Kd.N_lt (by (with_reducible repeat (first | apply Kd.N_alloc | apply Kd.N_drewN | apply Kd.N_drew)); exact HO240.out)) k_ hk, Kd.freshB (g := gb219) (o := .cells #[.slice (some ad220) l0_0.length c0_0, .int .i8 a0_1, .int .i8 a0_2, .int .i8 a0_3, .int .i8 a0_4, .slice A0_5 l0_5.length c0_5, .int .u8 a0_6] 27 (0, 0)) qgtrs_1 k_ hk, Kd.freshB (g := gb225) (o := .cells #[.int .i64 t221, .int .i64 1, .slice Ao17 t222.length co17] 53 (0, 0)) qgtrs_2 k_ hk⟩)) : p := h
theorem qgtrs_13 {p : Prop} (h : p := by simp only [putAll, Act.put, List.setIfInBounds_toArray, List.set_cons_zero, List.set_cons_succ]) : p := h
theorem qgtrs_14 {p : Prop} (h : p := by exact (fun k_ hk => ⟨(Nat.le_trans (below_size qgtrs_0) hk), Kd.freshB (g := gb219) (o := .cells #[.slice (some ad220) l0_0.length c0_0, .int .i8 a0_1, .int .i8 a0_2, .int .i8 a0_3, .int .i8 a0_4, .slice A0_5 l0_5.length c0_5, .int .u8 a0_6] 27 (0, 0)) qgtrs_1 k_ hk, Kd.freshB (g := gb225) (o := .cells #[.int .i64 t221, .int .i64 1, .slice Ao17 t222.length co17] 53 (0, 0)) qgtrs_2 k_ hk⟩)) : p := h
theorem qgtrs_15 {p : Prop} (h : p := by (with_reducible repeat (first | apply Kd.N_alloc | apply Kd.N_drewN | apply Kd.N_drew)); exact HO237.out) : p := h
theorem qgtrs_16 {p : Prop} (h : p := by (with_reducible repeat (first | apply Kd.N_alloc | apply Kd.N_drewN | apply Kd.N_drew)); exact HO240.out) : p := h
theorem qgtrs_17 {p : Prop} (h : p := by repeat (first | (with_reducible first | exact HB.out | apply below_alloc | apply pw_below_drewN | apply below_drew1) | exact HB.out)) : p := h
theorem qgtrs_18 {p : Prop} (h : p := by first | rfl | (simp; done) | (simp [*]; done)) : p := h
theorem qgtrs_19 {p : Prop} (h : p := by (with_reducible repeat (first | apply Kd.N_alloc | apply Kd.N_drewN | apply Kd.N_drew)); exact HO224.out) : p := h
theorem qgtrs_20 {p : Prop} (h : p := by first | (go_simp; done) | (go_simp; rfl)) : p := h
theorem qgtrs_21 {p : Prop} (h : p := by (with_reducible repeat (first | apply Kd.V_alloc | apply Kd.V_drewN | apply Kd.V_drew)); exact Kd.V_mono HO234.out (fun _ hk => ⟨hk.1.1, ⟨hk.2, ⟨hk.1.2.1, ⟨hk.1.2.2.1, hk.1.2.2.2⟩⟩⟩⟩)) : p := h
theorem qgtrs_22 {p : Prop} (h : p := by (with_reducible repeat (first | apply Kd.N_alloc | apply Kd.N_drewN | apply Kd.N_drew)); exact Kd.N_mono HO240.out (fun _ hk => ⟨hk.1.1, ⟨hk.2, ⟨hk.1.2.1, ⟨hk.1.2.2.1, hk.1.2.2.2⟩⟩⟩⟩)) : p := h
theorem qgtrs_23 {p : Prop} (h : p := by (with_reducible repeat (first | apply Kd.V_alloc | apply Kd.V_drewN | apply Kd.V_drew)); exact Kd.V_mono HO248.out (fun _ hk => ⟨hk.1.1, ⟨hk.2, ⟨hk.1.2.1, ⟨hk.1.2.2.1, hk.1.2.2.2⟩⟩⟩⟩)) : p := h
theorem qgtrs_24 {p : Prop} (h : p := by (with_reducible repeat (first | apply Kd.N_alloc | apply Kd.N_drewN | apply Kd.N_drew)); exact Kd.N_mono HO_3.out (fun _ hk => ⟨hk.1.1, ⟨hk.2, ⟨hk.1.2.1, ⟨hk.1.2.2.1, hk.1.2.2.2⟩⟩⟩⟩)) : p := h
theorem qgtrs_25 {p : Prop} (h : p := by (with_reducible repeat (first | apply Kd.N_alloc | apply Kd.N_drewN | apply Kd.N_drew)); exact Kd.N_mono HO229.out (fun _ hk => ⟨hk.1, ⟨hk.2.2.1, ⟨hk.2.2.2.1, hk.2.2.2.2⟩⟩⟩)) : p := h
theorem qgtrs_26 {p : Prop} (h : p := by (with_reducible repeat (first | apply Kd.N_alloc | apply Kd.N_drewN | apply Kd.N_drew)); exact Kd.N_mono HO_3.out (fun _ hk => ⟨hk.1.1.1, ⟨hk.2, ⟨hk.1.1.2, hk.1.2⟩⟩⟩)) : p := h
/-! ### sleuthlaw13_Traces: function 17 -/
mutual
def sleuthlaw13_Traces.l0 : Nat → List (S53) → Int → List (S104) → Int → Int → Int → Int → List (S193) → Int → Option ((List (S53)))
 | 0, _, _, _, _, _, _, _, _, _ => none
 | k + 1, x3, x4, x220000, x220001, x220002, x220003, x220004, x220005, x220006 => if x4 < (x220000.length : Int) then (if 0 ≤ x4 then (if (((rd_T104 x220000 x4).f2).length : Int) = 0 then (sleuthlaw13_Traces.l0 k x3 (wrap64 (x4 + 1)) x220000 x220001 x220002 x220003 x220004 x220005 x220006) else ((sleuthlaw13_TraceId.f x220000 x220001 x220002 x220003 x220004 x220005 x220006 x4).bind fun t221 => ((sleuthlaw13_Trace.f x220000 x220001 x220002 x220003 x220004 x220005 x220006 x4 false).bind fun t222 => (sleuthlaw13_Traces.l1 k x3 x4 (x3.length : Int) x220000 x220001 x220002 x220003 x220004 x220005 x220006 t221 1 t222)))) else (none)) else (some x3)
def sleuthlaw13_Traces.j2 : Nat → List (S53) → Int → Int → List (S104) → Int → Int → Int → Int → List (S193) → Int → Int → Int → List (S58) → Option ((List (S53)))
 | 0, _, _, _, _, _, _, _, _, _, _, _, _, _ => none
 | k + 1, x3, x4, x6, x220000, x220001, x220002, x220003, x220004, x220005, x220006, x226000, x226001, x226002 => (some (([] : List (S53)) : List (S53))).bind fun y227 => (if 0 ≤ x6 then (if x6 ≤ (x3.length : Int) then ((some (x3.take (x6 : Int).toNat : List (S53))).bind fun y230 => (if y227.length + y230.length < 3518437208883 then ((some (y227 ++ y230 : List (S53))).bind fun y235 => ((some (([(⟨x226000, x226001, x226002⟩ : S53)] : List (S53)) : List (S53))).bind fun y238 => (if y235.length + y238.length < 3518437208883 then ((some (y235 ++ y238 : List (S53))).bind fun y241 => ((some (x3.drop (x6 : Int).toNat : List (S53))).bind fun y244 => (if y241.length + y244.length < 3518437208883 then (sleuthlaw13_Traces.l0 k (y241 ++ y244) (wrap64 (x4 + 1)) x220000 x220001 x220002 x220003 x220004 x220005 x220006) else (none)))) else (none)))) else (none))) else (none)) else (none))
def sleuthlaw13_Traces.l1 : Nat → List (S53) → Int → Int → List (S104) → Int → Int → Int → Int → List (S193) → Int → Int → Int → List (S58) → Option ((List (S53)))
 | 0, _, _, _, _, _, _, _, _, _, _, _, _, _ => none
 | k + 1, x3, x4, x6, x220000, x220001, x220002, x220003, x220004, x220005, x220006, x226000, x226001, x226002 => if x6 > 0 then (if 0 ≤ (wrap64 (x6 - 1)) then (if (wrap64 (x6 - 1)) < (x3.length : Int) then (if ((rd_T53 x3 (wrap64 (x6 - 1))).f0) > x226000 then (sleuthlaw13_Traces.l1 k x3 x4 (wrap64 (x6 - 1)) x220000 x220001 x220002 x220003 x220004 x220005 x220006 x226000 x226001 x226002) else (sleuthlaw13_Traces.j2 k x3 x4 x6 x220000 x220001 x220002 x220003 x220004 x220005 x220006 x226000 x226001 x226002)) else (none)) else (none)) else (sleuthlaw13_Traces.j2 k x3 x4 x6 x220000 x220001 x220002 x220003 x220004 x220005 x220006 x226000 x226001 x226002)
end
def sleuthlaw13_Traces.f (k : Nat) (l0_0 : List (S104)) (a0_1 : Int) (a0_2 : Int) (a0_3 : Int) (a0_4 : Int) (l0_5 : List (S193)) (a0_6 : Int) : Option ((List (S53))) := sleuthlaw13_Traces.l0 k ([] : List (S53)) 0 l0_0 a0_1 a0_2 a0_3 a0_4 l0_5 a0_6
theorem sleuthlaw13_Traces.mono_l : ∀ k, (∀ y0 y1 y2 y3 y4 y5 y6 y7 y8, LeO (sleuthlaw13_Traces.l0 k y0 y1 y2 y3 y4 y5 y6 y7 y8) (sleuthlaw13_Traces.l0 (k + 1) y0 y1 y2 y3 y4 y5 y6 y7 y8)) ∧ (∀ y0 y1 y2 y3 y4 y5 y6 y7 y8 y9 y10 y11 y12, LeO (sleuthlaw13_Traces.j2 k y0 y1 y2 y3 y4 y5 y6 y7 y8 y9 y10 y11 y12) (sleuthlaw13_Traces.j2 (k + 1) y0 y1 y2 y3 y4 y5 y6 y7 y8 y9 y10 y11 y12)) ∧ (∀ y0 y1 y2 y3 y4 y5 y6 y7 y8 y9 y10 y11 y12, LeO (sleuthlaw13_Traces.l1 k y0 y1 y2 y3 y4 y5 y6 y7 y8 y9 y10 y11 y12) (sleuthlaw13_Traces.l1 (k + 1) y0 y1 y2 y3 y4 y5 y6 y7 y8 y9 y10 y11 y12))
 | 0 => ⟨fun _ _ _ _ _ _ _ _ _ r h => by simp [sleuthlaw13_Traces.l0] at h, fun _ _ _ _ _ _ _ _ _ _ _ _ _ r h => by simp [sleuthlaw13_Traces.j2] at h, fun _ _ _ _ _ _ _ _ _ _ _ _ _ r h => by simp [sleuthlaw13_Traces.l1] at h⟩
 | k + 1 => by
  obtain ⟨ih0, ih1, ih2⟩ := sleuthlaw13_Traces.mono_l k
  refine ⟨?_, ?_, ?_⟩
  ·intro y0 y1 y2 y3 y4 y5 y6 y7 y8
   unfold sleuthlaw13_Traces.l0
   repeat' first
   | (with_reducible exact ih0 _ _ _ _ _ _ _ _ _)
   | (with_reducible exact ih1 _ _ _ _ _ _ _ _ _ _ _ _ _)
   | (with_reducible exact ih2 _ _ _ _ _ _ _ _ _ _ _ _ _)
   | (with_reducible exact LeO.refl _)
   | (with_reducible exact LeO.none _)
   | (with_reducible refine LeO.ite ?_ ?_)
   | (with_reducible refine LeO.bind ?_ (fun _ => ?_))
   | exact ih0 _ _ _ _ _ _ _ _ _
   | exact ih1 _ _ _ _ _ _ _ _ _ _ _ _ _
   | exact ih2 _ _ _ _ _ _ _ _ _ _ _ _ _
   | exact LeO.none _
   | refine LeO.ite ?_ ?_
   | refine LeO.bind ?_ (fun _ => ?_)
  ·intro y0 y1 y2 y3 y4 y5 y6 y7 y8 y9 y10 y11 y12
   unfold sleuthlaw13_Traces.j2
   repeat' first
   | (with_reducible exact ih0 _ _ _ _ _ _ _ _ _)
   | (with_reducible exact ih1 _ _ _ _ _ _ _ _ _ _ _ _ _)
   | (with_reducible exact ih2 _ _ _ _ _ _ _ _ _ _ _ _ _)
   | (with_reducible exact LeO.refl _)
   | (with_reducible exact LeO.none _)
   | (with_reducible refine LeO.ite ?_ ?_)
   | (with_reducible refine LeO.bind ?_ (fun _ => ?_))
   | exact ih0 _ _ _ _ _ _ _ _ _
   | exact ih1 _ _ _ _ _ _ _ _ _ _ _ _ _
   | exact ih2 _ _ _ _ _ _ _ _ _ _ _ _ _
   | exact LeO.none _
   | refine LeO.ite ?_ ?_
   | refine LeO.bind ?_ (fun _ => ?_)
  ·intro y0 y1 y2 y3 y4 y5 y6 y7 y8 y9 y10 y11 y12
   unfold sleuthlaw13_Traces.l1
   repeat' first
   | (with_reducible exact ih0 _ _ _ _ _ _ _ _ _)
   | (with_reducible exact ih1 _ _ _ _ _ _ _ _ _ _ _ _ _)
   | (with_reducible exact ih2 _ _ _ _ _ _ _ _ _ _ _ _ _)
   | (with_reducible exact LeO.refl _)
   | (with_reducible exact LeO.none _)
   | (with_reducible refine LeO.ite ?_ ?_)
   | (with_reducible refine LeO.bind ?_ (fun _ => ?_))
   | exact ih0 _ _ _ _ _ _ _ _ _
   | exact ih1 _ _ _ _ _ _ _ _ _ _ _ _ _
   | exact ih2 _ _ _ _ _ _ _ _ _ _ _ _ _
   | exact LeO.none _
   | refine LeO.ite ?_ ?_
   | refine LeO.bind ?_ (fun _ => ?_)
theorem sleuthlaw13_Traces.mono : ∀ a0 a1 a2 a3 a4 a5 a6 k, LeO (sleuthlaw13_Traces.f k a0 a1 a2 a3 a4 a5 a6) (sleuthlaw13_Traces.f (k + 1) a0 a1 a2 a3 a4 a5 a6) := by
 intro a0 a1 a2 a3 a4 a5 a6 k
 obtain ⟨ih0, ih1, ih2⟩ := sleuthlaw13_Traces.mono_l k
 unfold sleuthlaw13_Traces.f
 repeat' first
   | (with_reducible exact ih0 _ _ _ _ _ _ _ _ _)
   | (with_reducible exact ih1 _ _ _ _ _ _ _ _ _ _ _ _ _)
   | (with_reducible exact ih2 _ _ _ _ _ _ _ _ _ _ _ _ _)
   | (with_reducible exact LeO.refl _)
   | (with_reducible exact LeO.none _)
   | (with_reducible refine LeO.ite ?_ ?_)
   | (with_reducible refine LeO.bind ?_ (fun _ => ?_))
   | exact ih0 _ _ _ _ _ _ _ _ _
   | exact ih1 _ _ _ _ _ _ _ _ _ _ _ _ _
   | exact ih2 _ _ _ _ _ _ _ _ _ _ _ _ _
   | exact LeO.none _
   | refine LeO.ite ?_ ?_
   | refine LeO.bind ?_ (fun _ => ?_)
def sleuthlaw13_Traces.T6 : Bool × List (List Nat × List Nat) := (true, [([], []), ([], []), ([0, 1], [0, 1]), ([], []), ([], []), ([3, 4, 2], [3, 4]), ([2, 5], [2, 5]), ([], []), ([7, 6, 5, 0, 1, 2, 3, 4, 5, 6, 7], [6, 7])])
def sleuthlaw13_Traces.B6 : List Nat := [0, 0, 3, 0, 0, 31, 63, 0, 255]
theorem sleuthlaw13_Traces.tab6 : rtab .any (opsOf Try.f17 6) = sleuthlaw13_Traces.T6 := by kernel_rfl
theorem sleuthlaw13_Traces.bits6 : waitsOk sleuthlaw13_Traces.T6.2 sleuthlaw13_Traces.B6 = true := by kernel_rfl
def sleuthlaw13_Traces.T8 : Bool × List (List Nat × List Nat) := (true, [([], []), ([0], [0]), ([1], [1]), ([2], [2]), ([2], [2]), ([4, 2], [2, 4]), ([3, 5, 2], [2, 3, 5]), ([6, 2], [2, 6]), ([7, 2], [2, 7]), ([2], [2]), ([9, 2], [2, 9]), ([8, 10, 2], [2, 8, 10]), ([2, 11], [2, 11])])
def sleuthlaw13_Traces.B8 : List Nat := [0, 1, 3, 7, 7, 23, 63, 127, 255, 7, 519, 2047, 4095]
theorem sleuthlaw13_Traces.tab8 : rtab .any (opsOf Try.f17 8) = sleuthlaw13_Traces.T8 := by kernel_rfl
theorem sleuthlaw13_Traces.bits8 : waitsOk sleuthlaw13_Traces.T8.2 sleuthlaw13_Traces.B8 = true := by kernel_rfl
def sleuthlaw13_Traces.T10 : Bool × List (List Nat × List Nat) := (true, [([], []), ([], []), ([], []), ([1, 2], [1, 2]), ([0, 3], [0, 3]), ([], []), ([5], [5]), ([4, 6, 4], [4, 6]), ([], []), ([], []), ([8, 9], [8, 9]), ([7, 10, 7], [7, 10]), ([11, 11, 0, 1, 2, 3, 4, 5, 6, 7, 8, 9, 10, 11], [1, 8, 11])])
def sleuthlaw13_Traces.B10 : List Nat := [0, 0, 0, 6, 15, 0, 32, 127, 0, 0, 768, 2047, 4095]
theorem sleuthlaw13_Traces.tab10 : rtab .any (opsOf Try.f17 10) = sleuthlaw13_Traces.T10 := by kernel_rfl
theorem sleuthlaw13_Traces.bits10 : waitsOk sleuthlaw13_Traces.T10.2 sleuthlaw13_Traces.B10 = true := by kernel_rfl
set_option maxHeartbeats 8000000 in
set_option maxRecDepth 100000 in
theorem sleuthlaw13_Traces.calls (k : Nat) (A0_0 : Option Addr) (c0_0 : Nat) (l0_0 : List (S104)) (a0_1 : Int) (a0_2 : Int) (a0_3 : Int) (a0_4 : Int) (A0_5 : Option Addr) (c0_5 : Nat) (l0_5 : List (S193)) (a0_6 : Int) (r : List (S53)) (w : World) (hr0_0 : Kd.C k104 w A0_0 l0_0.length l0_0) (hc0_0 : l0_0.length ≤ c0_0) (hr0_5 : Kd.C k193 w A0_5 l0_5.length l0_5) (hc0_5 : l0_5.length ≤ c0_5) (h : sleuthlaw13_Traces.f k l0_0 a0_1 a0_2 a0_3 a0_4 l0_5 a0_6 = some r) :
  Calls Try.prog 17 #[.agg #[.slice A0_0 l0_0.length c0_0, .int .i8 a0_1, .int .i8 a0_2, .int .i8 a0_3, .int .i8 a0_4, .slice A0_5 l0_5.length c0_5, .int .u8 a0_6]] w fun e w' => ∃ v0_ : Value, e = .returned (v0_) ∧ Kd.N k53 53 w' w.heap.size (fun k_ => (w.heap.size ≤ k_)) v0_ r ∧ Below w.heap.size w w' := by
 have hu27 := Try.underlying27
 have hu53 := Try.underlying53
 have HR0_0 := Aside0.mk hr0_0
 have HC0_0 := Aside0.mk hc0_0
 clear hr0_0 hc0_0
 have HR0_5 := Aside0.mk hr0_5
 have HC0_5 := Aside0.mk hc0_5
 clear hr0_5 hc0_5
 have HB := Aside0.mk (Below.refl w.heap.size w)
 have H : (sleuthlaw13_Traces.l0 k ([] : List (S53)) 0 l0_0 a0_1 a0_2 a0_3 a0_4 l0_5 a0_6) = some r := h
 clear h
 have H' := Aside0.mk H
 clear H
 go_enter Try.func17, Try.ntmps17
 go_wp2_with (first | ((with_reducible refine gate_dst (N := 1) rfl ?_); refine box_event ?hg (N := 1) ?hd (cs := #[.slice A0_0 l0_0.length c0_0, .int .i8 a0_1, .int .i8 a0_2, .int .i8 a0_3, .int .i8 a0_4, .slice A0_5 l0_5.length c0_5, .int .u8 a0_6]) (t := 27) ?hr ?_; (case hd => rfl); (case hg => rfl); (case hr => exact qgtrs_20); intro gb219 hg w2 hbox hb; have n0_ := Aside0.mk (below_step qgtrs_17 hb); have n1_ := Aside0.mk (hbox); have n2_ := Aside0.mk ((by rw [hg]; exact (below_size qgtrs_17) : w.heap.size ≤ gb219)); have n3_ := Aside0.mk ((by rw [hg]; exact (below_size qgtrs_17) : w.heap.size ≤ gb219)); clear HB; have HB := n0_; have BK219 := n1_; have GW219 := n2_; have GE219 := n3_; clear n0_ n1_ n2_ n3_; clear hb hbox hg))
 go_loopg [3, 4] k (fun kq v3 v4 w' => ∃ (x3_1 : List (S53)) (x4_1 : Int), v4 = .int .i64 x4_1 ∧ Aside0 (sleuthlaw13_Traces.l0 kq x3_1 x4_1 l0_0 a0_1 a0_2 a0_3 a0_4 l0_5 a0_6 = some r) ∧ Aside0 (kq ≤ k) ∧ Aside0 (Kd.N k53 53 w' w.heap.size (fun k_ => (w.heap.size ≤ k_) ∧ k_ ≠ gb219) v3 x3_1) ∧ Aside0 (w'.heap[gb219]? = some (.cells #[(.slice A0_0 l0_0.length c0_0), .int .i8 a0_1, .int .i8 a0_2, .int .i8 a0_3, .int .i8 a0_4, (.slice A0_5 l0_5.length c0_5), .int .u8 a0_6] 27 (0, 0))) ∧ Aside0 (Below w.heap.size w w'))
 case atStart => exact ⟨(([] : List (S53))), (0), qgtrs_18, H', ⟨Nat.le_refl _⟩, ⟨by first | exact Kd.R_nil _ _ _ _ _ | exact Kd.N_nil _ _ _ _ _ | exact Kd.V_nil _ _ _ _ _ | exact Kd.Q_nil _ _ _ _ _ | exact Kd.S_nil _ _ _ _ _⟩, ⟨qgtrs_1⟩, ⟨qgtrs_4⟩⟩
 clear H'
 try clear c1
 try clear p2
 obtain ⟨x3_1, x4_1, rfl, HA, HK1, HO_3, BK219, HB⟩ := hrel
 cases gk with
 | zero => exact absurd HA.out (by simp [sleuthlaw13_Traces.l0])
 | succ k1 =>
  have H := HA.out
  clear HA
  simp only [sleuthlaw13_Traces.l0] at H
  by_cases c3 : x4_1 < (l0_0.length : Int)
  rotate_left
  ·rw [if_neg c3] at H
   have c3b0 : decide (x4_1 < (l0_0.length : Int)) = false := decide_eq_false c3
   clear c3
   obtain rfl := Option.some.inj H
   have hcz49_0 : wr.cell? ⟨gb219, 0, none⟩ = some (.slice A0_0 l0_0.length c0_0) := (blk_cell BK219.out 0).trans rfl
   have hcz49_1 : wr.cell? ⟨gb219, 1, none⟩ = some (.int .i8 a0_1) := (blk_cell BK219.out 1).trans rfl
   have hcz49_2 : wr.cell? ⟨gb219, 2, none⟩ = some (.int .i8 a0_2) := (blk_cell BK219.out 2).trans rfl
   have hcz49_3 : wr.cell? ⟨gb219, 3, none⟩ = some (.int .i8 a0_3) := (blk_cell BK219.out 3).trans rfl
   have hcz49_4 : wr.cell? ⟨gb219, 4, none⟩ = some (.int .i8 a0_4) := (blk_cell BK219.out 4).trans rfl
   have hcz49_5 : wr.cell? ⟨gb219, 5, none⟩ = some (.slice A0_5 l0_5.length c0_5) := (blk_cell BK219.out 5).trans rfl
   have hcz49_6 : wr.cell? ⟨gb219, 6, none⟩ = some (.int .u8 a0_6) := (blk_cell BK219.out 6).trans rfl
   have hfz49_0 := blk_frozen BK219.out 0
   have hfz49_1 := blk_frozen BK219.out 1
   have hfz49_2 := blk_frozen BK219.out 2
   have hfz49_3 := blk_frozen BK219.out 3
   have hfz49_4 := blk_frozen BK219.out 4
   have hfz49_5 := blk_frozen BK219.out 5
   have hfz49_6 := blk_frozen BK219.out 6
   go_wp2
   go_ret
   exact ⟨_, by first | rfl | (simp [errW_none, errW_some] <;> rfl) | (simp [*, errW_none, errW_some] <;> rfl), by (with_reducible repeat (first | apply Kd.N_alloc | apply Kd.N_drewN | apply Kd.N_drew)); exact Kd.N_mono HO_3.out (fun _ hk => hk.1), qgtrs_4⟩
  rw [if_pos c3] at H
  have c3b0 : decide (x4_1 < (l0_0.length : Int)) = true := decide_eq_true c3
  clear c3
  by_cases c4 : 0 ≤ x4_1
  rotate_left
  ·rw [if_neg c4] at H
   exact absurd H (by simp)
  rw [if_pos c4] at H
  have c4b0 : decide (0 ≤ x4_1) = true := decide_eq_true c4
  clear c4
  by_cases c5 : (((rd_T104 l0_0 x4_1).f2).length : Int) = 0
  ·rw [if_pos c5] at H
   have c5b0 : ((((rd_T104 l0_0 x4_1).f2).length : Int) == 0) = true := beq_iff_eq.mpr c5
   have c5b1 : ((((rd_T104 l0_0 x4_1).f2).length : Int) != 0) = false := bne_eq_false_iff_eq.mpr c5
   clear c5
   have H' := Aside0.mk H
   clear H
   have hcz6_0 : wr.cell? ⟨gb219, 0, none⟩ = some (.slice A0_0 l0_0.length c0_0) := (blk_cell BK219.out 0).trans rfl
   have hcz6_1 : wr.cell? ⟨gb219, 1, none⟩ = some (.int .i8 a0_1) := (blk_cell BK219.out 1).trans rfl
   have hcz6_2 : wr.cell? ⟨gb219, 2, none⟩ = some (.int .i8 a0_2) := (blk_cell BK219.out 2).trans rfl
   have hcz6_3 : wr.cell? ⟨gb219, 3, none⟩ = some (.int .i8 a0_3) := (blk_cell BK219.out 3).trans rfl
   have hcz6_4 : wr.cell? ⟨gb219, 4, none⟩ = some (.int .i8 a0_4) := (blk_cell BK219.out 4).trans rfl
   have hcz6_5 : wr.cell? ⟨gb219, 5, none⟩ = some (.slice A0_5 l0_5.length c0_5) := (blk_cell BK219.out 5).trans rfl
   have hcz6_6 : wr.cell? ⟨gb219, 6, none⟩ = some (.int .u8 a0_6) := (blk_cell BK219.out 6).trans rfl
   have hfz6_0 := blk_frozen BK219.out 0
   have hfz6_1 := blk_frozen BK219.out 1
   have hfz6_2 := blk_frozen BK219.out 2
   have hfz6_3 := blk_frozen BK219.out 3
   have hfz6_4 := blk_frozen BK219.out 4
   have hfz6_5 := blk_frozen BK219.out 5
   have hfz6_6 := blk_frozen BK219.out 6
   have p220 : 0 ≤ (x4_1 : Int) := of_decide_eq_true qgtrs_5
   have q220 : x4_1 < (l0_0.length : Int) := of_decide_eq_true qgtrs_5
   obtain ⟨ad220, A220_2, c220_2, e220, hx220_0, hx220_1, hx220_2, hl220_2, hi220_2⟩ := at_T104 HR0_0.out x4_1 p220 q220
   cases e220
   replace hx220_0 := (HB.out.cell (World.block_lt_of_cell? w _ hx220_0)).trans hx220_0
   replace hx220_1 := (HB.out.cell (World.block_lt_of_cell? w _ hx220_1)).trans hx220_1
   replace hx220_2 := (HB.out.cell (World.block_lt_of_cell? w _ hx220_2)).trans hx220_2
   have HR220_2 := Aside0.mk hi220_2
   have HC220_2 := Aside0.mk hl220_2
   clear hi220_2 hl220_2
   replace p220 := eq_true p220
   replace q220 := eq_true q220
   go_wp2
   go_roundg k1
   case measure => have := HK1.out; omega
   case rel => exact ⟨(x3_1), (wrap64 (x4_1 + 1)), qgtrs_18, H', ⟨by have := HK1.out; omega⟩, ⟨qgtrs_3⟩, ⟨qgtrs_1⟩, ⟨qgtrs_4⟩⟩
  rw [if_neg c5] at H
  have c5b0 : ((((rd_T104 l0_0 x4_1).f2).length : Int) == 0) = false := beq_eq_false_iff_ne.mpr c5
  have c5b1 : ((((rd_T104 l0_0 x4_1).f2).length : Int) != 0) = true := bne_iff_ne.mpr c5
  have c5b2 : ¬ (((rd_T104 l0_0 x4_1).f2) = []) := fun h_ => c5 (by rw [h_]; rfl)
  replace H := Option.bind_eq_some_iff.mp H
  obtain ⟨t221, A70, H⟩ := H
  replace H : ((sleuthlaw13_Trace.f l0_0 a0_1 a0_2 a0_3 a0_4 l0_5 a0_6 x4_1 false).bind fun t222 => (sleuthlaw13_Traces.l1 k1 x3_1 x4_1 (x3_1.length : Int) l0_0 a0_1 a0_2 a0_3 a0_4 l0_5 a0_6 t221 1 t222)) = some r := H
  have A7 := Aside0.mk A70
  clear A70
  replace H := Option.bind_eq_some_iff.mp H
  obtain ⟨t222, A80, H⟩ := H
  replace H : (sleuthlaw13_Traces.l1 k1 x3_1 x4_1 (x3_1.length : Int) l0_0 a0_1 a0_2 a0_3 a0_4 l0_5 a0_6 t221 1 t222) = some r := H
  have A8 := Aside0.mk A80
  clear A80
  have HC9 := Aside0.mk H
  clear H
  have hcz10_0 : wr.cell? ⟨gb219, 0, none⟩ = some (.slice A0_0 l0_0.length c0_0) := (blk_cell BK219.out 0).trans rfl
  have hcz10_1 : wr.cell? ⟨gb219, 1, none⟩ = some (.int .i8 a0_1) := (blk_cell BK219.out 1).trans rfl
  have hcz10_2 : wr.cell? ⟨gb219, 2, none⟩ = some (.int .i8 a0_2) := (blk_cell BK219.out 2).trans rfl
  have hcz10_3 : wr.cell? ⟨gb219, 3, none⟩ = some (.int .i8 a0_3) := (blk_cell BK219.out 3).trans rfl
  have hcz10_4 : wr.cell? ⟨gb219, 4, none⟩ = some (.int .i8 a0_4) := (blk_cell BK219.out 4).trans rfl
  have hcz10_5 : wr.cell? ⟨gb219, 5, none⟩ = some (.slice A0_5 l0_5.length c0_5) := (blk_cell BK219.out 5).trans rfl
  have hcz10_6 : wr.cell? ⟨gb219, 6, none⟩ = some (.int .u8 a0_6) := (blk_cell BK219.out 6).trans rfl
  have hfz10_0 := blk_frozen BK219.out 0
  have hfz10_1 := blk_frozen BK219.out 1
  have hfz10_2 := blk_frozen BK219.out 2
  have hfz10_3 := blk_frozen BK219.out 3
  have hfz10_4 := blk_frozen BK219.out 4
  have hfz10_5 := blk_frozen BK219.out 5
  have hfz10_6 := blk_frozen BK219.out 6
  have p220 : 0 ≤ (x4_1 : Int) := of_decide_eq_true qgtrs_5
  have q220 : x4_1 < (l0_0.length : Int) := of_decide_eq_true qgtrs_5
  obtain ⟨ad220, A220_2, c220_2, e220, hx220_0, hx220_1, hx220_2, hl220_2, hi220_2⟩ := at_T104 HR0_0.out x4_1 p220 q220
  cases e220
  replace hx220_0 := (HB.out.cell (World.block_lt_of_cell? w _ hx220_0)).trans hx220_0
  replace hx220_1 := (HB.out.cell (World.block_lt_of_cell? w _ hx220_1)).trans hx220_1
  replace hx220_2 := (HB.out.cell (World.block_lt_of_cell? w _ hx220_2)).trans hx220_2
  have HR220_2 := Aside0.mk hi220_2
  have HC220_2 := Aside0.mk hl220_2
  clear hi220_2 hl220_2
  replace p220 := eq_true p220
  replace q220 := eq_true q220
  try go_wp2
  have n0_ := Aside0.mk (Kd.N_drew HO_3.out)
  have n1_ := Aside0.mk (blk_drew BK219.out)
  have n2_ := Aside0.mk (below_drew1 HB.out)
  clear HO_3
  clear BK219
  clear HB
  have HO_3 := n0_
  have BK219 := n1_
  have HB := n2_
  clear n0_ n1_ n2_
  refine start_ (n := 9) (S := fun w' => w'.cell? ⟨gb219, 0, none⟩ = some (.slice (some ad220) l0_0.length c0_0) ∧ w'.cell? ⟨gb219, 1, none⟩ = some (.int .i8 a0_1) ∧ w'.cell? ⟨gb219, 2, none⟩ = some (.int .i8 a0_2) ∧ w'.cell? ⟨gb219, 3, none⟩ = some (.int .i8 a0_3) ∧ w'.cell? ⟨gb219, 4, none⟩ = some (.int .i8 a0_4) ∧ w'.cell? ⟨gb219, 5, none⟩ = some (.slice A0_5 l0_5.length c0_5) ∧ w'.cell? ⟨gb219, 6, none⟩ = some (.int .u8 a0_6)) (ds := []) #[F3484, F3484, F3484, F3484, F3484, F3484, F3484, F3484, F3484] (by kernel_rfl) rfl rfl ⟨(blk_cell BK219.out 0).trans rfl, (blk_cell BK219.out 1).trans rfl, (blk_cell BK219.out 2).trans rfl, (blk_cell BK219.out 3).trans rfl, (blk_cell BK219.out 4).trans rfl, (blk_cell BK219.out 5).trans rfl, (blk_cell BK219.out 6).trans rfl⟩ (fun hHeld => ?_); refine with_tabW sleuthlaw13_Traces.tab6 sleuthlaw13_Traces.bits6 (fun HT_ HW_ => ?_)
  generalize wr.drew = w11 at HO_3 BK219 HB hHeld ⊢
  refine pure_ (i := 1) (N := some 23) (v := ?_) (a' := ?_) #[F3484, T3484, F3484, F3484, F3484, F3484, F3484, F3484, F3484] rfl rfl (any_of HT_.out (by kernel_rfl)) (fun _ _ _ h => h) (Or.inl ⟨by rfl, ?_⟩) ?_ ?_
  rotate_left
  ·intro w'
   go_simp
   with_reducible rfl
  rotate_left
  ·simp only [Act.put, List.setIfInBounds_toArray, List.set_cons_zero, List.set_cons_succ, i64_w, i32_w]
   rfl
  refine pure_ (i := 4) (N := some 26) (v := ?_) (a' := ?_) #[F3484, T3484, F3484, F3484, T3484, F3484, F3484, F3484, F3484] rfl rfl (any_of HT_.out (by kernel_rfl)) (fun _ _ _ h => h) (Or.inl ⟨by rfl, ?_⟩) ?_ ?_
  rotate_left
  ·intro w'
   go_simp
   with_reducible rfl
  rotate_left
  ·simp only [Act.put, List.setIfInBounds_toArray, List.set_cons_zero, List.set_cons_succ, i64_w, i32_w]
   rfl
  refine take_ (i := 0) (N := some 22) (v := ?_) (a' := ?_) #[T3484, T3484, F3484, F3484, T3484, F3484, F3484, F3484, F3484] rfl rfl (take_ofW HT_.out HW_.out (by kernel_rfl)) (fun _ _ _ h => h) (Or.inl ⟨by rfl, ?_⟩) hHeld ?_ ?_
  rotate_left
  ·rintro w' ⟨s0, s1, s2, s3, s4, s5, s6⟩
   go_simp
   with_reducible rfl
  rotate_left
  ·simp only [Act.put, List.setIfInBounds_toArray, List.set_cons_zero, List.set_cons_succ, i64_w, i32_w]
   rfl
  refine take_ (i := 3) (N := some 25) (v := ?_) (a' := ?_) #[T3484, T3484, F3484, T3484, T3484, F3484, F3484, F3484, F3484] rfl rfl (take_ofW HT_.out HW_.out (by kernel_rfl)) (fun _ _ _ h => h) (Or.inl ⟨by rfl, ?_⟩) hHeld ?_ ?_
  rotate_left
  ·rintro w' ⟨s0, s1, s2, s3, s4, s5, s6⟩
   go_simp
   with_reducible rfl
  rotate_left
  ·simp only [Act.put, List.setIfInBounds_toArray, List.set_cons_zero, List.set_cons_succ, i64_w, i32_w]
   rfl
  refine join_ (σ := Value × Nat) 1 #[T3484, T3484, T3484, T3484, T3484, T3484, T3484, T3484, F3484] (fun s_ => [(24, .int .i64 t221), (27, s_.1), (5, .pointer (some ⟨s_.2, 0, none⟩)), (28, .agg #[.int .i64 t221, .int .i64 1, s_.1])]) (fun s_ w' => (w'.cell? ⟨gb219, 0, none⟩ = some (.slice (some ad220) l0_0.length c0_0) ∧ w'.cell? ⟨gb219, 1, none⟩ = some (.int .i8 a0_1) ∧ w'.cell? ⟨gb219, 2, none⟩ = some (.int .i8 a0_2) ∧ w'.cell? ⟨gb219, 3, none⟩ = some (.int .i8 a0_3) ∧ w'.cell? ⟨gb219, 4, none⟩ = some (.int .i8 a0_4) ∧ w'.cell? ⟨gb219, 5, none⟩ = some (.slice A0_5 l0_5.length c0_5) ∧ w'.cell? ⟨gb219, 6, none⟩ = some (.int .u8 a0_6)) ∧ (Kd.N k58 58 w' w.heap.size (fun k_ => (w.heap.size ≤ k_) ∧ some k_ ≠ (u3 : Value).ownBlock ∧ k_ ≠ gb219 ∧ k_ ≠ s_.2) s_.1 t222) ∧ (Kd.N k53 53 w' w.heap.size (fun k_ => (w.heap.size ≤ k_) ∧ some k_ ≠ (s_.1 : Value).ownBlock ∧ k_ ≠ gb219 ∧ k_ ≠ s_.2) u3 x3_1) ∧ (w'.heap[gb219]? = some (.cells #[.slice (some ad220) l0_0.length c0_0, .int .i8 a0_1, .int .i8 a0_2, .int .i8 a0_3, .int .i8 a0_4, .slice A0_5 l0_5.length c0_5, .int .u8 a0_6] 27 (0, 0))) ∧ (w'.heap[s_.2]? = some (.cells #[.int .i64 0, .int .i64 0, .slice none 0 0] 53 (0, 0))) ∧ (w.heap.size ≤ s_.2) ∧ (w.heap.size ≤ s_.2) ∧ (gb219 ≠ s_.2) ∧ (s_.2 ≠ gb219) ∧ (Below w.heap.size w w')) ?_ ?_
  rotate_left
  ·intro hCont
   refine two_ (i := 2) (j := 7) (Ni := some 24) (Nj := some 5) #[T3484, T3484, T3484, T3484, T3484, F3484, F3484, F3484, F3484] #[T3484, T3484, F3484, T3484, T3484, F3484, F3484, T3484, F3484] rfl rfl rfl rfl (two_of HT_.out (by kernel_rfl)) (by decide) (by decide) (fun K hK => ?_) (fun K hK => ?_)
   ·skip
    refine goes_ Try.func41 (by kernel_rfl) rfl #[.agg #[.slice (some ad220) l0_0.length c0_0, .int .i8 a0_1, .int .i8 a0_2, .int .i8 a0_3, .int .i8 a0_4, .slice A0_5 l0_5.length c0_5, .int .u8 a0_6], .int .i64 x4_1] (by rfl) rfl rfl qgtrs_11 ?_
    with_reducible refine (sleuthlaw13_TraceId.calls _ _ l0_0 a0_1 a0_2 a0_3 a0_4 _ _ l0_5 a0_6 x4_1 t221 _ ?side1 ?side2 ?side3 ?side4 A7.out).mono ?_
    (case side1 => exact qgtrs_6)
    (case side2 => exact HC0_0.out)
    (case side3 => exact qgtrs_7)
    (case side4 => exact HC0_5.out)
    rintro e w12 ⟨rfl, hb⟩
    refine ⟨_, rfl, ?_⟩
    have n0_ := Aside0.mk (Kd.N_below qgtrs_3 hb)
    have n1_ := Aside0.mk (blk_below (g := gb219) (o := .cells #[.slice (some ad220) l0_0.length c0_0, .int .i8 a0_1, .int .i8 a0_2, .int .i8 a0_3, .int .i8 a0_4, .slice A0_5 l0_5.length c0_5, .int .u8 a0_6] 27 (0, 0)) qgtrs_1 hb)
    have n2_ := Aside0.mk (below_step qgtrs_4 hb)
    clear HO_3
    clear BK219
    clear HB
    have HO_3 := n0_
    have BK219 := n1_
    have HB := n2_
    clear n0_ n1_ n2_
    (try clear hb)
    (try clear hb2)
    (try clear hk)
    (try clear hi)
    refine hK.out _ _ ⟨(blk_cell BK219.out 0).trans rfl, (blk_cell BK219.out 1).trans rfl, (blk_cell BK219.out 2).trans rfl, (blk_cell BK219.out 3).trans rfl, (blk_cell BK219.out 4).trans rfl, (blk_cell BK219.out 5).trans rfl, (blk_cell BK219.out 6).trans rfl⟩ (fun hHeld => ?_)
    clear hK K
    refine norm_ (a' := ?_) ?_ ?_
    rotate_left
    ·show Act.put _ (some 24) _ = _
     simp only [Act.put, List.setIfInBounds_toArray, List.set_cons_zero, List.set_cons_succ, i64_w, i32_w]
     rfl
    refine two_ (i := 5) (j := 7) (Ni := some 27) (Nj := some 5) #[T3484, T3484, T3484, T3484, T3484, T3484, F3484, F3484, F3484] #[T3484, T3484, T3484, T3484, T3484, F3484, F3484, T3484, F3484] rfl rfl rfl rfl (two_of HT_.out (by kernel_rfl)) (by decide) (by decide) (fun K hK => ?_) (fun K hK => ?_)
    ·skip
     refine goes_ Try.func42 (by kernel_rfl) rfl #[.agg #[.slice (some ad220) l0_0.length c0_0, .int .i8 a0_1, .int .i8 a0_2, .int .i8 a0_3, .int .i8 a0_4, .slice A0_5 l0_5.length c0_5, .int .u8 a0_6], .int .i64 x4_1, .bool false] (by rfl) rfl rfl qgtrs_11 ?_
     with_reducible refine (sleuthlaw13_Trace.calls _ _ l0_0 a0_1 a0_2 a0_3 a0_4 _ _ l0_5 a0_6 x4_1 false t222 _ ?side1 ?side2 ?side3 ?side4 A8.out).mono ?_
     (case side1 => exact qgtrs_6)
     (case side2 => exact HC0_0.out)
     (case side3 => exact qgtrs_7)
     (case side4 => exact HC0_5.out)
     rintro e w13 ⟨v223, rfl, ho0, hb⟩
     refine ⟨_, rfl, ?_⟩
     have n0_ := Aside0.mk (Kd.N_elder' qgtrs_3 (Kd.S_base ho0) hb)
     have n1_ := Aside0.mk (Kd.N_lower (Kd.N_mono (ok' := fun k_ => (w.heap.size ≤ k_) ∧ some k_ ≠ (u3 : Value).ownBlock ∧ k_ ≠ gb219) (Kd.S_N (Kd.S_bound ho0)) (fun k_ hk_ => ⟨(Nat.le_trans (below_size qgtrs_4) hk_.2.1), (Kd.fresh' (Kd.N_lt qgtrs_3) k_ hk_.2.1), (Kd.freshB (g := gb219) (o := .cells #[.slice (some ad220) l0_0.length c0_0, .int .i8 a0_1, .int .i8 a0_2, .int .i8 a0_3, .int .i8 a0_4, .slice A0_5 l0_5.length c0_5, .int .u8 a0_6] 27 (0, 0)) qgtrs_1 k_ hk_.2.1)⟩)) (below_size qgtrs_4))
     have n2_ := Aside0.mk (blk_below (g := gb219) (o := .cells #[.slice (some ad220) l0_0.length c0_0, .int .i8 a0_1, .int .i8 a0_2, .int .i8 a0_3, .int .i8 a0_4, .slice A0_5 l0_5.length c0_5, .int .u8 a0_6] 27 (0, 0)) qgtrs_1 hb)
     have n3_ := Aside0.mk (below_step qgtrs_4 hb)
     clear HO_3
     clear BK219
     clear HB
     have HO_3 := n0_
     have HO224 := n1_
     have BK219 := n2_
     have HB := n3_
     clear n0_ n1_ n2_ n3_
     (try clear hb)
     (try clear hb2)
     (try clear hk)
     (try clear hi)
     (try clear ho0)
     obtain ⟨Ao14, co14, eo14⟩ := Kd.N_slice HO224.out
     (first | subst eo14 | (injection eo14 with f1_ f2_ f3_; have f4_ := f1_.symm; have f5_ := f3_.symm; clear f1_ f2_ f3_; subst f4_; subst f5_))
     refine hK.out _ _ ⟨(blk_cell BK219.out 0).trans rfl, (blk_cell BK219.out 1).trans rfl, (blk_cell BK219.out 2).trans rfl, (blk_cell BK219.out 3).trans rfl, (blk_cell BK219.out 4).trans rfl, (blk_cell BK219.out 5).trans rfl, (blk_cell BK219.out 6).trans rfl⟩ (fun hHeld => ?_)
     clear hK K
     refine norm_ (a' := ?_) ?_ ?_
     rotate_left
     ·show Act.put _ (some 27) _ = _
      simp only [Act.put, List.setIfInBounds_toArray, List.set_cons_zero, List.set_cons_succ, i64_w, i32_w]
      rfl
     refine pure_ (i := 6) (N := some 28) (v := ?_) (a' := ?_) #[T3484, T3484, T3484, T3484, T3484, T3484, T3484, F3484, F3484] rfl rfl (any_of HT_.out (by kernel_rfl)) (fun _ _ _ h => h) (Or.inl ⟨by rfl, ?_⟩) ?_ ?_
     rotate_left
     ·intro w'
      go_simp
      with_reducible rfl
     rotate_left
     ·simp only [Act.put, List.setIfInBounds_toArray, List.set_cons_zero, List.set_cons_succ, i64_w, i32_w]
      rfl
     refine one_ (i := 7) (N := some 5) #[T3484, T3484, T3484, T3484, T3484, T3484, T3484, T3484, F3484] rfl rfl (one_of HT_.out (by kernel_rfl)) (by decide) (fun K hK => ?_)
     refine box_step ?hg (N := 5) ?hd (cs := #[.int .i64 0, .int .i64 0, .slice none 0 0]) (t := 53) ?hr ?_; (case hd => rfl); (case hg => rfl); (case hr => exact qgtrs_20)
     intro gb225 hg w15 hbox hb
     have n0_ := Aside0.mk (Kd.N_below (Kd.N_elderB qgtrs_3 gb225 (Nat.le_of_eq hg.symm)) hb)
     have n1_ := Aside0.mk (Kd.N_below (Kd.N_elderB qgtrs_19 gb225 (Nat.le_of_eq hg.symm)) hb)
     have n2_ := Aside0.mk (blk_below (g := gb219) (o := .cells #[.slice (some ad220) l0_0.length c0_0, .int .i8 a0_1, .int .i8 a0_2, .int .i8 a0_3, .int .i8 a0_4, .slice A0_5 l0_5.length c0_5, .int .u8 a0_6] 27 (0, 0)) qgtrs_1 hb)
     have n3_ := Aside0.mk (below_step qgtrs_4 hb)
     have n4_ := Aside0.mk (hbox)
     have n5_ := Aside0.mk ((by rw [hg]; exact (below_size qgtrs_4) : w.heap.size ≤ gb225))
     have n6_ := Aside0.mk ((by rw [hg]; exact (below_size qgtrs_4) : w.heap.size ≤ gb225))
     have n7_ := Aside0.mk ((by rw [hg]; exact Nat.ne_of_lt (blk_lt (g := gb219) (o := .cells #[.slice (some ad220) l0_0.length c0_0, .int .i8 a0_1, .int .i8 a0_2, .int .i8 a0_3, .int .i8 a0_4, .slice A0_5 l0_5.length c0_5, .int .u8 a0_6] 27 (0, 0)) qgtrs_1) : gb219 ≠ gb225))
     have n8_ := Aside0.mk ((by rw [hg]; exact Nat.ne_of_gt (blk_lt (g := gb219) (o := .cells #[.slice (some ad220) l0_0.length c0_0, .int .i8 a0_1, .int .i8 a0_2, .int .i8 a0_3, .int .i8 a0_4, .slice A0_5 l0_5.length c0_5, .int .u8 a0_6] 27 (0, 0)) qgtrs_1) : gb225 ≠ gb219))
     clear HO_3
     clear HO224
     clear BK219
     clear HB
     have HO_3 := n0_
     have HO224 := n1_
     have BK219 := n2_
     have HB := n3_
     have BK225 := n4_
     have GW225 := n5_
     have GE225 := n6_
     have NB219_225 := n7_
     have NB225_219 := n8_
     clear n0_ n1_ n2_ n3_ n4_ n5_ n6_ n7_ n8_
     clear hb hbox hg
     refine hK.out _ _ ⟨(blk_cell BK219.out 0).trans rfl, (blk_cell BK219.out 1).trans rfl, (blk_cell BK219.out 2).trans rfl, (blk_cell BK219.out 3).trans rfl, (blk_cell BK219.out 4).trans rfl, (blk_cell BK219.out 5).trans rfl, (blk_cell BK219.out 6).trans rfl⟩ (fun hHeld => ?_)
     clear hK K
     refine norm_ (a' := ?_) ?_ ?_
     rotate_left
     ·show Act.put _ (some 5) _ = _
      simp only [Act.put, List.setIfInBounds_toArray, List.set_cons_zero, List.set_cons_succ, i64_w, i32_w]
      rfl
     exact norm_ qgtrs_13 (hCont (.slice Ao14 t222.length co14, gb225) _ ⟨hHeld, (by (with_reducible repeat (first | apply Kd.N_alloc | apply Kd.N_drewN | apply Kd.N_drew)); exact Kd.N_mono HO224.out (fun _ hk => ⟨hk.1.1, ⟨hk.1.2.1, ⟨hk.1.2.2, hk.2⟩⟩⟩)), (by (with_reducible repeat (first | apply Kd.N_alloc | apply Kd.N_drewN | apply Kd.N_drew)); exact Kd.N_mono HO_3.out (fun _ hk => ⟨hk.1.1.1, ⟨hk.1.2, ⟨hk.1.1.2, hk.2⟩⟩⟩)), qgtrs_1, qgtrs_2, GW225.out, GE225.out, NB219_225.out, NB225_219.out, qgtrs_0⟩)
    ·skip
     refine box_step ?hg (N := 5) ?hd (cs := #[.int .i64 0, .int .i64 0, .slice none 0 0]) (t := 53) ?hr ?_; (case hd => rfl); (case hg => rfl); (case hr => exact qgtrs_20)
     intro gb225 hg w13 hbox hb
     have n0_ := Aside0.mk (Kd.N_below (Kd.N_elderB qgtrs_3 gb225 (Nat.le_of_eq hg.symm)) hb)
     have n1_ := Aside0.mk (blk_below (g := gb219) (o := .cells #[.slice (some ad220) l0_0.length c0_0, .int .i8 a0_1, .int .i8 a0_2, .int .i8 a0_3, .int .i8 a0_4, .slice A0_5 l0_5.length c0_5, .int .u8 a0_6] 27 (0, 0)) qgtrs_1 hb)
     have n2_ := Aside0.mk (below_step qgtrs_4 hb)
     have n3_ := Aside0.mk (hbox)
     have n4_ := Aside0.mk ((by rw [hg]; exact (below_size qgtrs_4) : w.heap.size ≤ gb225))
     have n5_ := Aside0.mk ((by rw [hg]; exact (below_size qgtrs_4) : w.heap.size ≤ gb225))
     have n6_ := Aside0.mk ((by rw [hg]; exact Nat.ne_of_lt (blk_lt (g := gb219) (o := .cells #[.slice (some ad220) l0_0.length c0_0, .int .i8 a0_1, .int .i8 a0_2, .int .i8 a0_3, .int .i8 a0_4, .slice A0_5 l0_5.length c0_5, .int .u8 a0_6] 27 (0, 0)) qgtrs_1) : gb219 ≠ gb225))
     have n7_ := Aside0.mk ((by rw [hg]; exact Nat.ne_of_gt (blk_lt (g := gb219) (o := .cells #[.slice (some ad220) l0_0.length c0_0, .int .i8 a0_1, .int .i8 a0_2, .int .i8 a0_3, .int .i8 a0_4, .slice A0_5 l0_5.length c0_5, .int .u8 a0_6] 27 (0, 0)) qgtrs_1) : gb225 ≠ gb219))
     clear HO_3
     clear BK219
     clear HB
     have HO_3 := n0_
     have BK219 := n1_
     have HB := n2_
     have BK225 := n3_
     have GW225 := n4_
     have GE225 := n5_
     have NB219_225 := n6_
     have NB225_219 := n7_
     clear n0_ n1_ n2_ n3_ n4_ n5_ n6_ n7_
     clear hb hbox hg
     refine hK.out _ _ ⟨(blk_cell BK219.out 0).trans rfl, (blk_cell BK219.out 1).trans rfl, (blk_cell BK219.out 2).trans rfl, (blk_cell BK219.out 3).trans rfl, (blk_cell BK219.out 4).trans rfl, (blk_cell BK219.out 5).trans rfl, (blk_cell BK219.out 6).trans rfl⟩ (fun hHeld => ?_)
     clear hK K
     refine norm_ (a' := ?_) ?_ ?_
     rotate_left
     ·show Act.put _ (some 5) _ = _
      simp only [Act.put, List.setIfInBounds_toArray, List.set_cons_zero, List.set_cons_succ, i64_w, i32_w]
      rfl
     refine one_ (i := 5) (N := some 27) #[T3484, T3484, T3484, T3484, T3484, T3484, F3484, T3484, F3484] rfl rfl (one_of HT_.out (by kernel_rfl)) (by decide) (fun K hK => ?_)
     refine goes_ Try.func42 (by kernel_rfl) rfl #[.agg #[.slice (some ad220) l0_0.length c0_0, .int .i8 a0_1, .int .i8 a0_2, .int .i8 a0_3, .int .i8 a0_4, .slice A0_5 l0_5.length c0_5, .int .u8 a0_6], .int .i64 x4_1, .bool false] (by rfl) rfl rfl qgtrs_11 ?_
     with_reducible refine (sleuthlaw13_Trace.calls _ _ l0_0 a0_1 a0_2 a0_3 a0_4 _ _ l0_5 a0_6 x4_1 false t222 _ ?side1 ?side2 ?side3 ?side4 A8.out).mono ?_
     (case side1 => exact qgtrs_6)
     (case side2 => exact HC0_0.out)
     (case side3 => exact qgtrs_7)
     (case side4 => exact HC0_5.out)
     rintro e w14 ⟨v223, rfl, ho0, hb⟩
     refine ⟨_, rfl, ?_⟩
     have n0_ := Aside0.mk (Kd.N_elder' qgtrs_3 (Kd.S_base ho0) hb)
     have n1_ := Aside0.mk (Kd.N_lower (Kd.N_mono (ok' := fun k_ => (w.heap.size ≤ k_) ∧ some k_ ≠ (u3 : Value).ownBlock ∧ k_ ≠ gb219 ∧ k_ ≠ gb225) (Kd.S_N (Kd.S_bound ho0)) (fun k_ hk_ => ⟨(Nat.le_trans (below_size qgtrs_0) hk_.2.1), (Kd.fresh' (Kd.N_lt qgtrs_3) k_ hk_.2.1), (Kd.freshB (g := gb219) (o := .cells #[.slice (some ad220) l0_0.length c0_0, .int .i8 a0_1, .int .i8 a0_2, .int .i8 a0_3, .int .i8 a0_4, .slice A0_5 l0_5.length c0_5, .int .u8 a0_6] 27 (0, 0)) qgtrs_1 k_ hk_.2.1), (Kd.freshB (g := gb225) (o := .cells #[.int .i64 0, .int .i64 0, .slice none 0 0] 53 (0, 0)) qgtrs_2 k_ hk_.2.1)⟩)) (below_size qgtrs_0))
     have n2_ := Aside0.mk (blk_below (g := gb219) (o := .cells #[.slice (some ad220) l0_0.length c0_0, .int .i8 a0_1, .int .i8 a0_2, .int .i8 a0_3, .int .i8 a0_4, .slice A0_5 l0_5.length c0_5, .int .u8 a0_6] 27 (0, 0)) qgtrs_1 hb)
     have n3_ := Aside0.mk (blk_below (g := gb225) (o := .cells #[.int .i64 0, .int .i64 0, .slice none 0 0] 53 (0, 0)) qgtrs_2 hb)
     have n4_ := Aside0.mk (below_step qgtrs_0 hb)
     clear HO_3
     clear BK219
     clear BK225
     clear HB
     have HO_3 := n0_
     have HO224 := n1_
     have BK219 := n2_
     have BK225 := n3_
     have HB := n4_
     clear n0_ n1_ n2_ n3_ n4_
     (try clear hb)
     (try clear hb2)
     (try clear hk)
     (try clear hi)
     (try clear ho0)
     obtain ⟨Ao15, co15, eo15⟩ := Kd.N_slice HO224.out
     (first | subst eo15 | (injection eo15 with f1_ f2_ f3_; have f4_ := f1_.symm; have f5_ := f3_.symm; clear f1_ f2_ f3_; subst f4_; subst f5_))
     refine hK.out _ _ ⟨(blk_cell BK219.out 0).trans rfl, (blk_cell BK219.out 1).trans rfl, (blk_cell BK219.out 2).trans rfl, (blk_cell BK219.out 3).trans rfl, (blk_cell BK219.out 4).trans rfl, (blk_cell BK219.out 5).trans rfl, (blk_cell BK219.out 6).trans rfl⟩ (fun hHeld => ?_)
     clear hK K
     refine norm_ (a' := ?_) ?_ ?_
     rotate_left
     ·show Act.put _ (some 27) _ = _
      simp only [Act.put, List.setIfInBounds_toArray, List.set_cons_zero, List.set_cons_succ, i64_w, i32_w]
      rfl
     refine pure_ (i := 6) (N := some 28) (v := ?_) (a' := ?_) #[T3484, T3484, T3484, T3484, T3484, T3484, T3484, T3484, F3484] rfl rfl (any_of HT_.out (by kernel_rfl)) (fun _ _ _ h => h) (Or.inl ⟨by rfl, ?_⟩) ?_ ?_
     rotate_left
     ·intro w'
      go_simp
      with_reducible rfl
     rotate_left
     ·simp only [Act.put, List.setIfInBounds_toArray, List.set_cons_zero, List.set_cons_succ, i64_w, i32_w]
      rfl
     exact norm_ qgtrs_13 (hCont (.slice Ao15 t222.length co15, gb225) _ ⟨hHeld, qgtrs_19, qgtrs_26, qgtrs_1, qgtrs_2, GW225.out, GE225.out, NB219_225.out, NB225_219.out, qgtrs_0⟩)
   ·skip
    refine box_step ?hg (N := 5) ?hd (cs := #[.int .i64 0, .int .i64 0, .slice none 0 0]) (t := 53) ?hr ?_; (case hd => rfl); (case hg => rfl); (case hr => exact qgtrs_20)
    intro gb225 hg w12 hbox hb
    have n0_ := Aside0.mk (Kd.N_below (Kd.N_elderB qgtrs_3 gb225 (Nat.le_of_eq hg.symm)) hb)
    have n1_ := Aside0.mk (blk_below (g := gb219) (o := .cells #[.slice (some ad220) l0_0.length c0_0, .int .i8 a0_1, .int .i8 a0_2, .int .i8 a0_3, .int .i8 a0_4, .slice A0_5 l0_5.length c0_5, .int .u8 a0_6] 27 (0, 0)) qgtrs_1 hb)
    have n2_ := Aside0.mk (below_step qgtrs_4 hb)
    have n3_ := Aside0.mk (hbox)
    have n4_ := Aside0.mk ((by rw [hg]; exact (below_size qgtrs_4) : w.heap.size ≤ gb225))
    have n5_ := Aside0.mk ((by rw [hg]; exact (below_size qgtrs_4) : w.heap.size ≤ gb225))
    have n6_ := Aside0.mk ((by rw [hg]; exact Nat.ne_of_lt (blk_lt (g := gb219) (o := .cells #[.slice (some ad220) l0_0.length c0_0, .int .i8 a0_1, .int .i8 a0_2, .int .i8 a0_3, .int .i8 a0_4, .slice A0_5 l0_5.length c0_5, .int .u8 a0_6] 27 (0, 0)) qgtrs_1) : gb219 ≠ gb225))
    have n7_ := Aside0.mk ((by rw [hg]; exact Nat.ne_of_gt (blk_lt (g := gb219) (o := .cells #[.slice (some ad220) l0_0.length c0_0, .int .i8 a0_1, .int .i8 a0_2, .int .i8 a0_3, .int .i8 a0_4, .slice A0_5 l0_5.length c0_5, .int .u8 a0_6] 27 (0, 0)) qgtrs_1) : gb225 ≠ gb219))
    clear HO_3
    clear BK219
    clear HB
    have HO_3 := n0_
    have BK219 := n1_
    have HB := n2_
    have BK225 := n3_
    have GW225 := n4_
    have GE225 := n5_
    have NB219_225 := n6_
    have NB225_219 := n7_
    clear n0_ n1_ n2_ n3_ n4_ n5_ n6_ n7_
    clear hb hbox hg
    refine hK.out _ _ ⟨(blk_cell BK219.out 0).trans rfl, (blk_cell BK219.out 1).trans rfl, (blk_cell BK219.out 2).trans rfl, (blk_cell BK219.out 3).trans rfl, (blk_cell BK219.out 4).trans rfl, (blk_cell BK219.out 5).trans rfl, (blk_cell BK219.out 6).trans rfl⟩ (fun hHeld => ?_)
    clear hK K
    refine norm_ (a' := ?_) ?_ ?_
    rotate_left
    ·show Act.put _ (some 5) _ = _
     simp only [Act.put, List.setIfInBounds_toArray, List.set_cons_zero, List.set_cons_succ, i64_w, i32_w]
     rfl
    refine one_ (i := 2) (N := some 24) #[T3484, T3484, T3484, T3484, T3484, F3484, F3484, T3484, F3484] rfl rfl (one_of HT_.out (by kernel_rfl)) (by decide) (fun K hK => ?_)
    refine goes_ Try.func41 (by kernel_rfl) rfl #[.agg #[.slice (some ad220) l0_0.length c0_0, .int .i8 a0_1, .int .i8 a0_2, .int .i8 a0_3, .int .i8 a0_4, .slice A0_5 l0_5.length c0_5, .int .u8 a0_6], .int .i64 x4_1] (by rfl) rfl rfl qgtrs_11 ?_
    with_reducible refine (sleuthlaw13_TraceId.calls _ _ l0_0 a0_1 a0_2 a0_3 a0_4 _ _ l0_5 a0_6 x4_1 t221 _ ?side1 ?side2 ?side3 ?side4 A7.out).mono ?_
    (case side1 => exact qgtrs_6)
    (case side2 => exact HC0_0.out)
    (case side3 => exact qgtrs_7)
    (case side4 => exact HC0_5.out)
    rintro e w13 ⟨rfl, hb⟩
    refine ⟨_, rfl, ?_⟩
    have n0_ := Aside0.mk (Kd.N_below qgtrs_3 hb)
    have n1_ := Aside0.mk (blk_below (g := gb219) (o := .cells #[.slice (some ad220) l0_0.length c0_0, .int .i8 a0_1, .int .i8 a0_2, .int .i8 a0_3, .int .i8 a0_4, .slice A0_5 l0_5.length c0_5, .int .u8 a0_6] 27 (0, 0)) qgtrs_1 hb)
    have n2_ := Aside0.mk (blk_below (g := gb225) (o := .cells #[.int .i64 0, .int .i64 0, .slice none 0 0] 53 (0, 0)) qgtrs_2 hb)
    have n3_ := Aside0.mk (below_step qgtrs_0 hb)
    clear HO_3
    clear BK219
    clear BK225
    clear HB
    have HO_3 := n0_
    have BK219 := n1_
    have BK225 := n2_
    have HB := n3_
    clear n0_ n1_ n2_ n3_
    (try clear hb)
    (try clear hb2)
    (try clear hk)
    (try clear hi)
    refine hK.out _ _ ⟨(blk_cell BK219.out 0).trans rfl, (blk_cell BK219.out 1).trans rfl, (blk_cell BK219.out 2).trans rfl, (blk_cell BK219.out 3).trans rfl, (blk_cell BK219.out 4).trans rfl, (blk_cell BK219.out 5).trans rfl, (blk_cell BK219.out 6).trans rfl⟩ (fun hHeld => ?_)
    clear hK K
    refine norm_ (a' := ?_) ?_ ?_
    rotate_left
    ·show Act.put _ (some 24) _ = _
     simp only [Act.put, List.setIfInBounds_toArray, List.set_cons_zero, List.set_cons_succ, i64_w, i32_w]
     rfl
    refine one_ (i := 5) (N := some 27) #[T3484, T3484, T3484, T3484, T3484, T3484, F3484, T3484, F3484] rfl rfl (one_of HT_.out (by kernel_rfl)) (by decide) (fun K hK => ?_)
    refine goes_ Try.func42 (by kernel_rfl) rfl #[.agg #[.slice (some ad220) l0_0.length c0_0, .int .i8 a0_1, .int .i8 a0_2, .int .i8 a0_3, .int .i8 a0_4, .slice A0_5 l0_5.length c0_5, .int .u8 a0_6], .int .i64 x4_1, .bool false] (by rfl) rfl rfl qgtrs_11 ?_
    with_reducible refine (sleuthlaw13_Trace.calls _ _ l0_0 a0_1 a0_2 a0_3 a0_4 _ _ l0_5 a0_6 x4_1 false t222 _ ?side1 ?side2 ?side3 ?side4 A8.out).mono ?_
    (case side1 => exact qgtrs_6)
    (case side2 => exact HC0_0.out)
    (case side3 => exact qgtrs_7)
    (case side4 => exact HC0_5.out)
    rintro e w14 ⟨v223, rfl, ho0, hb⟩
    refine ⟨_, rfl, ?_⟩
    have n0_ := Aside0.mk (Kd.N_elder' qgtrs_3 (Kd.S_base ho0) hb)
    have n1_ := Aside0.mk (Kd.N_lower (Kd.N_mono (ok' := fun k_ => (w.heap.size ≤ k_) ∧ some k_ ≠ (u3 : Value).ownBlock ∧ k_ ≠ gb219 ∧ k_ ≠ gb225) (Kd.S_N (Kd.S_bound ho0)) (fun k_ hk_ => ⟨(Nat.le_trans (below_size qgtrs_0) hk_.2.1), (Kd.fresh' (Kd.N_lt qgtrs_3) k_ hk_.2.1), (Kd.freshB (g := gb219) (o := .cells #[.slice (some ad220) l0_0.length c0_0, .int .i8 a0_1, .int .i8 a0_2, .int .i8 a0_3, .int .i8 a0_4, .slice A0_5 l0_5.length c0_5, .int .u8 a0_6] 27 (0, 0)) qgtrs_1 k_ hk_.2.1), (Kd.freshB (g := gb225) (o := .cells #[.int .i64 0, .int .i64 0, .slice none 0 0] 53 (0, 0)) qgtrs_2 k_ hk_.2.1)⟩)) (below_size qgtrs_0))
    have n2_ := Aside0.mk (blk_below (g := gb219) (o := .cells #[.slice (some ad220) l0_0.length c0_0, .int .i8 a0_1, .int .i8 a0_2, .int .i8 a0_3, .int .i8 a0_4, .slice A0_5 l0_5.length c0_5, .int .u8 a0_6] 27 (0, 0)) qgtrs_1 hb)
    have n3_ := Aside0.mk (blk_below (g := gb225) (o := .cells #[.int .i64 0, .int .i64 0, .slice none 0 0] 53 (0, 0)) qgtrs_2 hb)
    have n4_ := Aside0.mk (below_step qgtrs_0 hb)
    clear HO_3
    clear BK219
    clear BK225
    clear HB
    have HO_3 := n0_
    have HO224 := n1_
    have BK219 := n2_
    have BK225 := n3_
    have HB := n4_
    clear n0_ n1_ n2_ n3_ n4_
    (try clear hb)
    (try clear hb2)
    (try clear hk)
    (try clear hi)
    (try clear ho0)
    obtain ⟨Ao15, co15, eo15⟩ := Kd.N_slice HO224.out
    (first | subst eo15 | (injection eo15 with f1_ f2_ f3_; have f4_ := f1_.symm; have f5_ := f3_.symm; clear f1_ f2_ f3_; subst f4_; subst f5_))
    refine hK.out _ _ ⟨(blk_cell BK219.out 0).trans rfl, (blk_cell BK219.out 1).trans rfl, (blk_cell BK219.out 2).trans rfl, (blk_cell BK219.out 3).trans rfl, (blk_cell BK219.out 4).trans rfl, (blk_cell BK219.out 5).trans rfl, (blk_cell BK219.out 6).trans rfl⟩ (fun hHeld => ?_)
    clear hK K
    refine norm_ (a' := ?_) ?_ ?_
    rotate_left
    ·show Act.put _ (some 27) _ = _
     simp only [Act.put, List.setIfInBounds_toArray, List.set_cons_zero, List.set_cons_succ, i64_w, i32_w]
     rfl
    refine pure_ (i := 6) (N := some 28) (v := ?_) (a' := ?_) #[T3484, T3484, T3484, T3484, T3484, T3484, T3484, T3484, F3484] rfl rfl (any_of HT_.out (by kernel_rfl)) (fun _ _ _ h => h) (Or.inl ⟨by rfl, ?_⟩) ?_ ?_
    rotate_left
    ·intro w'
     go_simp
     with_reducible rfl
    rotate_left
    ·simp only [Act.put, List.setIfInBounds_toArray, List.set_cons_zero, List.set_cons_succ, i64_w, i32_w]
     rfl
    exact norm_ qgtrs_13 (hCont (.slice Ao15 t222.length co15, gb225) _ ⟨hHeld, qgtrs_19, qgtrs_26, qgtrs_1, qgtrs_2, GW225.out, GE225.out, NB219_225.out, NB225_219.out, qgtrs_0⟩)
  rintro ⟨v223, gb225⟩ w16 ⟨hS_, h0_, h1_, h2_, h3_, h4_, h5_, h6_, h7_, h8_⟩
  have n0_ : Aside0 (Kd.N k58 58 w16 w.heap.size (fun k_ => (w.heap.size ≤ k_) ∧ some k_ ≠ (u3 : Value).ownBlock ∧ k_ ≠ gb219 ∧ k_ ≠ gb225) v223 t222) := ⟨h0_⟩
  have n1_ : Aside0 (Kd.N k53 53 w16 w.heap.size (fun k_ => (w.heap.size ≤ k_) ∧ some k_ ≠ (v223 : Value).ownBlock ∧ k_ ≠ gb219 ∧ k_ ≠ gb225) u3 x3_1) := ⟨h1_⟩
  have n2_ : Aside0 (w16.heap[gb219]? = some (.cells #[.slice (some ad220) l0_0.length c0_0, .int .i8 a0_1, .int .i8 a0_2, .int .i8 a0_3, .int .i8 a0_4, .slice A0_5 l0_5.length c0_5, .int .u8 a0_6] 27 (0, 0))) := ⟨h2_⟩
  have n3_ : Aside0 (w16.heap[gb225]? = some (.cells #[.int .i64 0, .int .i64 0, .slice none 0 0] 53 (0, 0))) := ⟨h3_⟩
  have n4_ : Aside0 (w.heap.size ≤ gb225) := ⟨h4_⟩
  have n5_ : Aside0 (w.heap.size ≤ gb225) := ⟨h5_⟩
  have n6_ : Aside0 (gb219 ≠ gb225) := ⟨h6_⟩
  have n7_ : Aside0 (gb225 ≠ gb219) := ⟨h7_⟩
  have n8_ : Aside0 (Below w.heap.size w w16) := ⟨h8_⟩
  clear HO_3
  clear BK219
  clear HB
  clear h0_ h1_ h2_ h3_ h4_ h5_ h6_ h7_ h8_
  have HO224 := n0_
  have HO_3 := n1_
  have BK219 := n2_
  have BK225 := n3_
  have GW225 := n4_
  have GE225 := n5_
  have NB219_225 := n6_
  have NB225_219 := n7_
  have HB := n8_
  clear n0_ n1_ n2_ n3_ n4_ n5_ n6_ n7_ n8_
  have hHeld : w16.cell? ⟨gb219, 0, none⟩ = some (.slice (some ad220) l0_0.length c0_0) ∧ w16.cell? ⟨gb219, 1, none⟩ = some (.int .i8 a0_1) ∧ w16.cell? ⟨gb219, 2, none⟩ = some (.int .i8 a0_2) ∧ w16.cell? ⟨gb219, 3, none⟩ = some (.int .i8 a0_3) ∧ w16.cell? ⟨gb219, 4, none⟩ = some (.int .i8 a0_4) ∧ w16.cell? ⟨gb219, 5, none⟩ = some (.slice A0_5 l0_5.length c0_5) ∧ w16.cell? ⟨gb219, 6, none⟩ = some (.int .u8 a0_6) := hS_
  obtain ⟨Ao17, co17, eo17⟩ := Kd.N_slice HO224.out
  (first | subst eo17 | (injection eo17 with f1_ f2_ f3_; have f4_ := f1_.symm; have f5_ := f3_.symm; clear f1_ f2_ f3_; subst f4_; subst f5_))
  refine norm_ (a' := ?_) ?_ ?_
  rotate_left
  ·simp only [putAll, Act.put, List.setIfInBounds_toArray, List.set_cons_zero, List.set_cons_succ]
   rfl
  refine one_ (i := 8) (N := none) #[T3484, T3484, T3484, T3484, T3484, T3484, T3484, T3484, T3484] rfl rfl (one_of HT_.out (by kernel_rfl)) (by decide) (fun K hK => ?_)
  have hs18 : w16.cell? ⟨gb225, 0, none⟩ = some (.int .i64 0) := (blk_cell BK225.out 0).trans rfl
  have hfs18 := blk_frozen BK225.out 0
  have hns18_0 := NB219_225.out
  have hms18_0 := NB225_219.out
  have hs19 : w16.cell? ⟨gb225, 1, none⟩ = some (.int .i64 0) := (blk_cell BK225.out 1).trans rfl
  have hfs19 := blk_frozen BK225.out 1
  have hns19_0 := NB219_225.out
  have hms19_0 := NB225_219.out
  have hs20 : w16.cell? ⟨gb225, 2, none⟩ = some (.slice none 0 0) := (blk_cell BK225.out 2).trans rfl
  have hfs20 := blk_frozen BK225.out 2
  have hns20_0 := NB219_225.out
  have hms20_0 := NB225_219.out
  refine skip_ (w1 := ?_) (by rfl) rfl ?_ ?_
  rotate_left
  ·go_simp
   rfl
  refine hK.out _ _ ⟨((cell_far (p := ⟨gb225, _, none⟩) NB219_225.out _).trans (((cell_far (p := ⟨gb225, _, none⟩) NB219_225.out _).trans (((cell_far (p := ⟨gb225, _, none⟩) NB219_225.out _).trans (hHeld.1)))))), ((cell_far (p := ⟨gb225, _, none⟩) NB219_225.out _).trans (((cell_far (p := ⟨gb225, _, none⟩) NB219_225.out _).trans (((cell_far (p := ⟨gb225, _, none⟩) NB219_225.out _).trans (hHeld.2.1)))))), ((cell_far (p := ⟨gb225, _, none⟩) NB219_225.out _).trans (((cell_far (p := ⟨gb225, _, none⟩) NB219_225.out _).trans (((cell_far (p := ⟨gb225, _, none⟩) NB219_225.out _).trans (hHeld.2.2.1)))))), ((cell_far (p := ⟨gb225, _, none⟩) NB219_225.out _).trans (((cell_far (p := ⟨gb225, _, none⟩) NB219_225.out _).trans (((cell_far (p := ⟨gb225, _, none⟩) NB219_225.out _).trans (hHeld.2.2.2.1)))))), ((cell_far (p := ⟨gb225, _, none⟩) NB219_225.out _).trans (((cell_far (p := ⟨gb225, _, none⟩) NB219_225.out _).trans (((cell_far (p := ⟨gb225, _, none⟩) NB219_225.out _).trans (hHeld.2.2.2.2.1)))))), ((cell_far (p := ⟨gb225, _, none⟩) NB219_225.out _).trans (((cell_far (p := ⟨gb225, _, none⟩) NB219_225.out _).trans (((cell_far (p := ⟨gb225, _, none⟩) NB219_225.out _).trans (hHeld.2.2.2.2.2.1)))))), ((cell_far (p := ⟨gb225, _, none⟩) NB219_225.out _).trans (((cell_far (p := ⟨gb225, _, none⟩) NB219_225.out _).trans (((cell_far (p := ⟨gb225, _, none⟩) NB219_225.out _).trans (hHeld.2.2.2.2.2.2))))))⟩ (fun hHeld => ?_)
  clear hK K
  refine done_ (done_of HT_.out (by kernel_rfl)) ?_
  obtain ⟨Ao21, co21, eo21⟩ := Kd.N_slice HO_3.out
  subst eo21
  go_upto_block 2 with (fail)
  go_cut [6] (fun v6 wc => ∃ (kq : Nat) (x6_8 : Int), v6 = .int .i64 x6_8 ∧ Aside0 (sleuthlaw13_Traces.j2 kq x3_1 x4_1 x6_8 l0_0 a0_1 a0_2 a0_3 a0_4 l0_5 a0_6 t221 1 t222 = some r) ∧ Aside0 (kq ≤ k1) ∧ Aside0 (Kd.N k53 53 wc w.heap.size (fun k_ => (w.heap.size ≤ k_) ∧ some k_ ≠ ((.slice Ao17 t222.length co17) : Value).ownBlock ∧ k_ ≠ gb219 ∧ k_ ≠ gb225) (.slice Ao21 x3_1.length co21) x3_1) ∧ Aside0 (Kd.N k58 58 wc w.heap.size (fun k_ => (w.heap.size ≤ k_) ∧ some k_ ≠ ((.slice Ao21 x3_1.length co21) : Value).ownBlock ∧ k_ ≠ gb219 ∧ k_ ≠ gb225) (.slice Ao17 t222.length co17) t222) ∧ Aside0 (wc.heap[gb219]? = some (.cells #[(.slice (some ad220) l0_0.length c0_0), .int .i8 a0_1, .int .i8 a0_2, .int .i8 a0_3, .int .i8 a0_4, (.slice A0_5 l0_5.length c0_5), .int .u8 a0_6] 27 (0, 0))) ∧ Aside0 (wc.heap[gb225]? = some (.cells #[.int .i64 t221, .int .i64 1, (.slice Ao17 t222.length co17)] 53 (0, 0))) ∧ Aside0 (Below w.heap.size w wc))
  case first =>
   have H := HC9.out
   clear HC9
   have H' := Aside0.mk H
   clear H
   go_wp2
   go_loopg [6] k1 (fun kq v6 w' => ∃ (x6_2 : Int), v6 = .int .i64 x6_2 ∧ Aside0 (sleuthlaw13_Traces.l1 kq x3_1 x4_1 x6_2 l0_0 a0_1 a0_2 a0_3 a0_4 l0_5 a0_6 t221 1 t222 = some r) ∧ Aside0 (kq ≤ k1) ∧ Aside0 (Kd.N k53 53 w' w.heap.size (fun k_ => (w.heap.size ≤ k_) ∧ some k_ ≠ ((.slice Ao17 t222.length co17) : Value).ownBlock ∧ k_ ≠ gb219 ∧ k_ ≠ gb225) (.slice Ao21 x3_1.length co21) x3_1) ∧ Aside0 (Kd.N k58 58 w' w.heap.size (fun k_ => (w.heap.size ≤ k_) ∧ some k_ ≠ ((.slice Ao21 x3_1.length co21) : Value).ownBlock ∧ k_ ≠ gb219 ∧ k_ ≠ gb225) (.slice Ao17 t222.length co17) t222) ∧ Aside0 (w'.heap[gb219]? = some (.cells #[(.slice (some ad220) l0_0.length c0_0), .int .i8 a0_1, .int .i8 a0_2, .int .i8 a0_3, .int .i8 a0_4, (.slice A0_5 l0_5.length c0_5), .int .u8 a0_6] 27 (0, 0))) ∧ Aside0 (w'.heap[gb225]? = some (.cells #[.int .i64 t221, .int .i64 1, (.slice Ao17 t222.length co17)] 53 (0, 0))) ∧ Aside0 (Below w.heap.size w w'))
   case atStart => exact ⟨((x3_1.length : Int)), qgtrs_18, H', ⟨Nat.le_refl _⟩, ⟨by (with_reducible repeat (first | apply Kd.N_alloc | apply Kd.N_drewN | apply Kd.N_drew)); exact Kd.N_mono (Kd.N_far (p := ⟨gb225, 2, none⟩) (Kd.N_far (p := ⟨gb225, 1, none⟩) (Kd.N_far (p := ⟨gb225, 0, none⟩) (Kd.N_mono HO_3.out (fun k_ hk => (⟨hk, hk.2.2.2⟩ : _ ∧ k_ ≠ gb225))) (fun _ hk => hk.2) (.int .i64 t221)) (fun _ hk => hk.2) (.int .i64 1)) (fun _ hk => hk.2) (.slice Ao17 t222.length co17)) (fun _ hk => ⟨hk.1.1, ⟨hk.1.2.1, ⟨hk.1.2.2.1, hk.1.2.2.2⟩⟩⟩)⟩, ⟨by (with_reducible repeat (first | apply Kd.N_alloc | apply Kd.N_drewN | apply Kd.N_drew)); exact Kd.N_mono (Kd.N_far (p := ⟨gb225, 2, none⟩) (Kd.N_far (p := ⟨gb225, 1, none⟩) (Kd.N_far (p := ⟨gb225, 0, none⟩) (Kd.N_mono HO224.out (fun k_ hk => (⟨hk, hk.2.2.2⟩ : _ ∧ k_ ≠ gb225))) (fun _ hk => hk.2) (.int .i64 t221)) (fun _ hk => hk.2) (.int .i64 1)) (fun _ hk => hk.2) (.slice Ao17 t222.length co17)) (fun _ hk => ⟨hk.1.1, ⟨hk.1.2.1, ⟨hk.1.2.2.1, hk.1.2.2.2⟩⟩⟩)⟩, ⟨by (with_reducible repeat (first | refine blk_drewN ?_ _ | refine blk_drew ?_ | refine blk_alloc ?_ _)); refine blk_far ?_ NB219_225.out _; (with_reducible repeat (first | refine blk_drewN ?_ _ | refine blk_drew ?_ | refine blk_alloc ?_ _)); refine blk_far ?_ NB219_225.out _; (with_reducible repeat (first | refine blk_drewN ?_ _ | refine blk_drew ?_ | refine blk_alloc ?_ _)); refine blk_far ?_ NB219_225.out _; (with_reducible repeat (first | refine blk_drewN ?_ _ | refine blk_drew ?_ | refine blk_alloc ?_ _)); exact BK219.out⟩, ⟨by (with_reducible repeat (first | refine blk_drewN ?_ _ | refine blk_drew ?_ | refine blk_alloc ?_ _)); refine blk_put (cs := #[.int .i64 t221, .int .i64 1, .slice none 0 0]) ?_ 2 _ rfl; (with_reducible repeat (first | refine blk_drewN ?_ _ | refine blk_drew ?_ | refine blk_alloc ?_ _)); refine blk_put (cs := #[.int .i64 t221, .int .i64 0, .slice none 0 0]) ?_ 1 _ rfl; (with_reducible repeat (first | refine blk_drewN ?_ _ | refine blk_drew ?_ | refine blk_alloc ?_ _)); refine blk_put (cs := #[.int .i64 0, .int .i64 0, .slice none 0 0]) ?_ 0 _ rfl; (with_reducible repeat (first | refine blk_drewN ?_ _ | refine blk_drew ?_ | refine blk_alloc ?_ _)); exact BK225.out⟩, ⟨qgtrs_0⟩⟩
   clear H'
   try clear c1
   try clear c2
   try clear p2
   try clear q2
   try clear hx2
   try clear c3
   try clear c3b0
   try clear c4
   try clear c4b0
   try clear c5
   try clear c5b0
   try clear c5b1
   try clear c5b2
   try clear p6
   try clear c17
   try clear hcz10_0
   try clear hcz10_1
   try clear hcz10_2
   try clear hcz10_3
   try clear hcz10_4
   try clear hcz10_5
   try clear hcz10_6
   try clear hcz6_0
   try clear hcz6_1
   try clear hcz6_2
   try clear hcz6_3
   try clear hcz6_4
   try clear hcz6_5
   try clear hcz6_6
   try clear hfz10_0
   try clear hfz10_1
   try clear hfz10_2
   try clear hfz10_3
   try clear hfz10_4
   try clear hfz10_5
   try clear hfz10_6
   try clear hfz6_0
   try clear hfz6_1
   try clear hfz6_2
   try clear hfz6_3
   try clear hfz6_4
   try clear hfz6_5
   try clear hfz6_6
   try clear hx220_0
   try clear hx220_1
   try clear hx220_2
   try clear p2
   try clear p220
   try clear q220
   obtain ⟨x6_2, rfl, HA, HK2, HO_3, HO_226002, BK219, BK225, HB⟩ := hrel
   cases gk with
   | zero => exact absurd HA.out (by simp [sleuthlaw13_Traces.l1])
   | succ k2 =>
    have H := HA.out
    clear HA
    simp only [sleuthlaw13_Traces.l1] at H
    by_cases c22 : x6_2 > 0
    rotate_left
    ·rw [if_neg c22] at H
     have c22b0 : decide (0 < x6_2) = false := decide_eq_false c22
     clear c22
     (first | rw [c22b0] | (simp only [i64_w, i32_w]; rw [c22b0]) | skip)
     have H' := Aside0.mk H
     clear H
     try go_wp2
     have n0_ := Aside0.mk (Kd.N_drew HO_3.out)
     have n1_ := Aside0.mk (Kd.N_drew HO_226002.out)
     have n2_ := Aside0.mk (blk_drew BK219.out)
     have n3_ := Aside0.mk (blk_drew BK225.out)
     have n4_ := Aside0.mk (below_drew1 HB.out)
     clear HO_3
     clear HO_226002
     clear BK219
     clear BK225
     clear HB
     have HO_3 := n0_
     have HO_226002 := n1_
     have BK219 := n2_
     have BK225 := n3_
     have HB := n4_
     clear n0_ n1_ n2_ n3_ n4_
     refine start_ (n := 13) (S := fun w' => True) (ds := []) #[F3484, F3484, F3484, F3484, F3484, F3484, F3484, F3484, F3484, F3484, F3484, F3484, F3484] (by kernel_rfl) rfl rfl trivial (fun hHeld => ?_); refine with_tabW sleuthlaw13_Traces.tab8 sleuthlaw13_Traces.bits8 (fun HT_ HW_ => ?_)
     generalize wr.drew = w29 at HO_3 HO_226002 BK219 BK225 HB hHeld ⊢
     refine pure_ (i := 0) (N := some 31) (v := ?_) (a' := ?_) #[T3484, F3484, F3484, F3484, F3484, F3484, F3484, F3484, F3484, F3484, F3484, F3484, F3484] rfl rfl (any_of HT_.out (by kernel_rfl)) (fun _ _ _ h => h) (Or.inl ⟨by rfl, ?_⟩) ?_ ?_
     rotate_left
     ·intro w'
      go_simp
      with_reducible rfl
     rotate_left
     ·simp only [Act.put, List.setIfInBounds_toArray, List.set_cons_zero, List.set_cons_succ, i64_w, i32_w]
      rfl
     refine pure_ (i := 1) (N := some 32) (v := ?_) (a' := ?_) #[T3484, T3484, F3484, F3484, F3484, F3484, F3484, F3484, F3484, F3484, F3484, F3484, F3484] rfl rfl (any_of HT_.out (by kernel_rfl)) (fun _ _ _ h => h) (Or.inl ⟨by rfl, ?_⟩) ?_ ?_
     rotate_left
     ·intro w'
      go_simp
      with_reducible rfl
     rotate_left
     ·simp only [Act.put, List.setIfInBounds_toArray, List.set_cons_zero, List.set_cons_succ, i64_w, i32_w]
      rfl
     refine pure_ (i := 2) (N := some 33) (v := ?_) (a' := ?_) #[T3484, T3484, T3484, F3484, F3484, F3484, F3484, F3484, F3484, F3484, F3484, F3484, F3484] rfl rfl (any_of HT_.out (by kernel_rfl)) (fun _ _ _ h => h) (Or.inl ⟨by rfl, ?_⟩) ?_ ?_
     rotate_left
     ·intro w'
      go_simp
      with_reducible rfl
     rotate_left
     ·simp only [Act.put, List.setIfInBounds_toArray, List.set_cons_zero, List.set_cons_succ, i64_w, i32_w]
      rfl
     refine pure_ (i := 3) (N := some 34) (v := undef) (a' := ?_) #[T3484, T3484, T3484, T3484, F3484, F3484, F3484, F3484, F3484, F3484, F3484, F3484, F3484] rfl rfl (any_of HT_.out (by kernel_rfl)) (fun _ _ _ h => h) (Or.inr ⟨by rfl, rfl⟩) ?_ ?_
     rotate_left
     ·simp only [Act.put, List.setIfInBounds_toArray, List.set_cons_zero, List.set_cons_succ, i64_w, i32_w]
      rfl
     refine pure_ (i := 4) (N := some 35) (v := undef) (a' := ?_) #[T3484, T3484, T3484, T3484, T3484, F3484, F3484, F3484, F3484, F3484, F3484, F3484, F3484] rfl rfl (any_of HT_.out (by kernel_rfl)) (fun _ _ _ h => h) (Or.inr ⟨by rfl, rfl⟩) ?_ ?_
     rotate_left
     ·simp only [Act.put, List.setIfInBounds_toArray, List.set_cons_zero, List.set_cons_succ, i64_w, i32_w]
      rfl
     refine pure_ (i := 5) (N := some 36) (v := undef) (a' := ?_) #[T3484, T3484, T3484, T3484, T3484, T3484, F3484, F3484, F3484, F3484, F3484, F3484, F3484] rfl rfl (any_of HT_.out (by kernel_rfl)) (fun _ _ _ h => h) (Or.inr ⟨by rfl, rfl⟩) ?_ ?_
     rotate_left
     ·simp only [Act.put, List.setIfInBounds_toArray, List.set_cons_zero, List.set_cons_succ, i64_w, i32_w]
      rfl
     refine pure_ (i := 6) (N := some 37) (v := undef) (a' := ?_) #[T3484, T3484, T3484, T3484, T3484, T3484, T3484, F3484, F3484, F3484, F3484, F3484, F3484] rfl rfl (any_of HT_.out (by kernel_rfl)) (fun _ _ _ h => h) (Or.inr ⟨by rfl, rfl⟩) ?_ ?_
     rotate_left
     ·simp only [Act.put, List.setIfInBounds_toArray, List.set_cons_zero, List.set_cons_succ, i64_w, i32_w]
      rfl
     refine pure_ (i := 7) (N := some 38) (v := undef) (a' := ?_) #[T3484, T3484, T3484, T3484, T3484, T3484, T3484, T3484, F3484, F3484, F3484, F3484, F3484] rfl rfl (any_of HT_.out (by kernel_rfl)) (fun _ _ _ h => h) (Or.inr ⟨by rfl, rfl⟩) ?_ ?_
     rotate_left
     ·simp only [Act.put, List.setIfInBounds_toArray, List.set_cons_zero, List.set_cons_succ, i64_w, i32_w]
      rfl
     refine pure_ (i := 8) (N := some 39) (v := undef) (a' := ?_) #[T3484, T3484, T3484, T3484, T3484, T3484, T3484, T3484, T3484, F3484, F3484, F3484, F3484] rfl rfl (any_of HT_.out (by kernel_rfl)) (fun _ _ _ h => h) (Or.inr ⟨by rfl, rfl⟩) ?_ ?_
     rotate_left
     ·simp only [Act.put, List.setIfInBounds_toArray, List.set_cons_zero, List.set_cons_succ, i64_w, i32_w]
      rfl
     refine pure_ (i := 9) (N := some 40) (v := undef) (a' := ?_) #[T3484, T3484, T3484, T3484, T3484, T3484, T3484, T3484, T3484, T3484, F3484, F3484, F3484] rfl rfl (any_of HT_.out (by kernel_rfl)) (fun _ _ _ h => h) (Or.inr ⟨by rfl, rfl⟩) ?_ ?_
     rotate_left
     ·simp only [Act.put, List.setIfInBounds_toArray, List.set_cons_zero, List.set_cons_succ, i64_w, i32_w]
      rfl
     refine pure_ (i := 10) (N := some 41) (v := undef) (a' := ?_) #[T3484, T3484, T3484, T3484, T3484, T3484, T3484, T3484, T3484, T3484, T3484, F3484, F3484] rfl rfl (any_of HT_.out (by kernel_rfl)) (fun _ _ _ h => h) (Or.inr ⟨by rfl, rfl⟩) ?_ ?_
     rotate_left
     ·simp only [Act.put, List.setIfInBounds_toArray, List.set_cons_zero, List.set_cons_succ, i64_w, i32_w]
      rfl
     refine pure_ (i := 11) (N := some 42) (v := undef) (a' := ?_) #[T3484, T3484, T3484, T3484, T3484, T3484, T3484, T3484, T3484, T3484, T3484, T3484, F3484] rfl rfl (any_of HT_.out (by kernel_rfl)) (fun _ _ _ h => h) (Or.inr ⟨by rfl, rfl⟩) ?_ ?_
     rotate_left
     ·simp only [Act.put, List.setIfInBounds_toArray, List.set_cons_zero, List.set_cons_succ, i64_w, i32_w]
      rfl
     refine pure_ (i := 12) (N := some 43) (v := ?_) (a' := ?_) #[T3484, T3484, T3484, T3484, T3484, T3484, T3484, T3484, T3484, T3484, T3484, T3484, T3484] rfl rfl (any_of HT_.out (by kernel_rfl)) (fun _ _ _ h => h) (Or.inl ⟨by rfl, ?_⟩) ?_ ?_
     rotate_left
     ·intro w'
      go_simp
      with_reducible rfl
     rotate_left
     ·simp only [Act.put, List.setIfInBounds_toArray, List.set_cons_zero, List.set_cons_succ, i64_w, i32_w]
      rfl
     refine done_ (done_of HT_.out (by kernel_rfl)) ?_
     try go_wp2
     go_meet
     case rel => exact ⟨_, (x6_2), qgtrs_18, H', ⟨by have := HK1.out; have := HK2.out; first | omega | exact Nat.le_refl _⟩, ⟨qgtrs_3⟩, ⟨qgtrs_8⟩, ⟨qgtrs_1⟩, ⟨qgtrs_2⟩, ⟨qgtrs_0⟩⟩
    rw [if_pos c22] at H
    have c22b0 : decide (0 < x6_2) = true := decide_eq_true c22
    clear c22
    (first | rw [c22b0] | (simp only [i64_w, i32_w]; rw [c22b0]) | skip)
    obtain ⟨ji23, hji23⟩ : ∃ j_ : Int, (wrap64 (x6_2 - 1)) = j_ := ⟨_, rfl⟩
    replace H : (if 0 ≤ (ji23) then (if (ji23) < (x3_1.length : Int) then (if ((rd_T53 x3_1 (ji23)).f0) > t221 then (sleuthlaw13_Traces.l1 k2 x3_1 x4_1 ji23 l0_0 a0_1 a0_2 a0_3 a0_4 l0_5 a0_6 t221 1 t222) else (sleuthlaw13_Traces.j2 k2 x3_1 x4_1 x6_2 l0_0 a0_1 a0_2 a0_3 a0_4 l0_5 a0_6 t221 1 t222)) else (none)) else (none)) = some r := by first | (rw [hji23] at H; exact H) | (simp only [hji23] at H ⊢; exact H)
    have hji23w : (IntKind.i64.wrap (x6_2 - 1)) = ji23 := (i64_w _).trans hji23
    by_cases c24 : 0 ≤ (ji23)
    rotate_left
    ·rw [if_neg c24] at H
     exact absurd H (by simp)
    rw [if_pos c24] at H
    have c24b0 : decide (0 ≤ (ji23)) = true := decide_eq_true c24
    clear c24
    by_cases c25 : (ji23) < (x3_1.length : Int)
    rotate_left
    ·rw [if_neg c25] at H
     exact absurd H (by simp)
    rw [if_pos c25] at H
    have c25b0 : decide ((ji23) < (x3_1.length : Int)) = true := decide_eq_true c25
    clear c25
    by_cases c26 : ((rd_T53 x3_1 (ji23)).f0) > t221
    rotate_left
    ·rw [if_neg c26] at H
     have c26b0 : decide (t221 < ((rd_T53 x3_1 (ji23)).f0)) = false := decide_eq_false c26
     clear c26
     have H' := Aside0.mk H
     clear H
     try go_wp2
     have n0_ := Aside0.mk (Kd.N_drew HO_3.out)
     have n1_ := Aside0.mk (Kd.N_drew HO_226002.out)
     have n2_ := Aside0.mk (blk_drew BK219.out)
     have n3_ := Aside0.mk (blk_drew BK225.out)
     have n4_ := Aside0.mk (below_drew1 HB.out)
     clear HO_3
     clear HO_226002
     clear BK219
     clear BK225
     clear HB
     have HO_3 := n0_
     have HO_226002 := n1_
     have BK219 := n2_
     have BK225 := n3_
     have HB := n4_
     clear n0_ n1_ n2_ n3_ n4_
     have p226 : 0 ≤ ((ji23) : Int) := of_decide_eq_true qgtrs_5
     have q226 : (ji23) < (x3_1.length : Int) := of_decide_eq_true qgtrs_5
     obtain ⟨ad226, A226_2, c226_2, e226, hx226_0, hx226_1, hx226_2, hl226_2, hi226_2⟩ := at_T53 (Kd.N_reads' HO_3.out).2.2 (ji23) p226 q226
     cases e226
     obtain ⟨ce226, hce226, hMe226, hcc226⟩ := Kd.N_get HO_3.out z53 (ji23) p226 (by first | exact q226 | exact of_decide_eq_true qgtrs_5 | (have e_ := (Kd.N_reads' HO_3.out).1; omega))
     obtain ⟨ua226_2, uc226_2, rfl, ul226_2, ge226_2⟩ := k53_openF hMe226
     have hv226_2 := hcc226 2 _ rfl
     rw [add_field _ _ 2 (by omega)] at hv226_2
     replace hv226_2 := Option.some.inj (hv226_2.symm.trans hx226_2)
     injection hv226_2 with hva_ hvn_ hvc_
     rw [hva_] at ge226_2
     rw [hvc_] at ul226_2
     have HL226_2 := Aside0.mk (show Kd.V k58 58 _ w.heap.size _ _ ((rd_T53 x3_1 (ji23)).f2) from Kd.V_mk ul226_2 ge226_2)
     clear hva_ hvn_ hvc_ ge226_2 ul226_2
     clear hcc226 hce226
     have HR226_2 := Aside0.mk hi226_2
     have HC226_2 := Aside0.mk hl226_2
     clear hi226_2 hl226_2
     replace p226 := eq_true p226
     replace q226 := eq_true q226
     refine start_ (n := 13) (S := fun w' => w'.cell? ⟨gb225, 0, none⟩ = some (.int .i64 t221) ∧ w'.cell? ⟨gb225, 1, none⟩ = some (.int .i64 1) ∧ w'.cell? ⟨gb225, 2, none⟩ = some (.slice Ao17 t222.length co17) ∧ w'.cell? (ad226.add (((ji23)).toNat * 3)) = some (.int .i64 ((rd_T53 x3_1 (ji23)).f0)) ∧ w'.cell? ⟨(ad226.add (((ji23)).toNat * 3)).block, (ad226.add (((ji23)).toNat * 3)).off + 1, none⟩ = some (.int .i64 ((rd_T53 x3_1 (ji23)).f1)) ∧ w'.cell? ⟨(ad226.add (((ji23)).toNat * 3)).block, (ad226.add (((ji23)).toNat * 3)).off + 2, none⟩ = some (.slice A226_2 ((rd_T53 x3_1 (ji23)).f2).length c226_2)) (ds := []) #[F3484, F3484, F3484, F3484, F3484, F3484, F3484, F3484, F3484, F3484, F3484, F3484, F3484] (by kernel_rfl) rfl rfl ⟨(blk_cell BK225.out 0).trans rfl, (blk_cell BK225.out 1).trans rfl, (blk_cell BK225.out 2).trans rfl, hx226_0, hx226_1, hx226_2⟩ (fun hHeld => ?_); refine with_tabW sleuthlaw13_Traces.tab8 sleuthlaw13_Traces.bits8 (fun HT_ HW_ => ?_)
     generalize wr.drew = w28 at HO_3 HO_226002 BK219 BK225 HB HL226_2 HR226_2 hx226_0 hx226_1 hx226_2 hHeld ⊢
     refine pure_ (i := 0) (N := some 31) (v := ?_) (a' := ?_) #[T3484, F3484, F3484, F3484, F3484, F3484, F3484, F3484, F3484, F3484, F3484, F3484, F3484] rfl rfl (any_of HT_.out (by kernel_rfl)) (fun _ _ _ h => h) (Or.inl ⟨by rfl, ?_⟩) ?_ ?_
     rotate_left
     ·intro w'
      go_simp
      with_reducible rfl
     rotate_left
     ·simp only [Act.put, List.setIfInBounds_toArray, List.set_cons_zero, List.set_cons_succ, i64_w, i32_w]
      rfl
     refine pure_ (i := 1) (N := some 32) (v := ?_) (a' := ?_) #[T3484, T3484, F3484, F3484, F3484, F3484, F3484, F3484, F3484, F3484, F3484, F3484, F3484] rfl rfl (any_of HT_.out (by kernel_rfl)) (fun _ _ _ h => h) (Or.inl ⟨by rfl, ?_⟩) ?_ ?_
     rotate_left
     ·intro w'
      go_simp
      with_reducible rfl
     rotate_left
     ·simp only [Act.put, List.setIfInBounds_toArray, List.set_cons_zero, List.set_cons_succ, i64_w, i32_w]
      rfl
     refine pure_ (i := 2) (N := some 33) (v := ?_) (a' := ?_) #[T3484, T3484, T3484, F3484, F3484, F3484, F3484, F3484, F3484, F3484, F3484, F3484, F3484] rfl rfl (any_of HT_.out (by kernel_rfl)) (fun _ _ _ h => h) (Or.inl ⟨by rfl, ?_⟩) ?_ ?_
     rotate_left
     ·intro w'
      go_simp
      with_reducible rfl
     rotate_left
     ·simp only [Act.put, List.setIfInBounds_toArray, List.set_cons_zero, List.set_cons_succ, i64_w, i32_w]
      rfl
     refine pure_ (i := 3) (N := some 34) (v := ?_) (a' := ?_) #[T3484, T3484, T3484, T3484, F3484, F3484, F3484, F3484, F3484, F3484, F3484, F3484, F3484] rfl rfl (any_of HT_.out (by kernel_rfl)) (fun _ _ _ h => h) (Or.inl ⟨by rfl, ?_⟩) ?_ ?_
     rotate_left
     ·intro w'
      go_simp
      with_reducible rfl
     rotate_left
     ·simp only [Act.put, List.setIfInBounds_toArray, List.set_cons_zero, List.set_cons_succ, i64_w, i32_w]
      rfl
     refine pure_ (i := 4) (N := some 35) (v := ?_) (a' := ?_) #[T3484, T3484, T3484, T3484, T3484, F3484, F3484, F3484, F3484, F3484, F3484, F3484, F3484] rfl rfl (any_of HT_.out (by kernel_rfl)) (fun _ _ _ h => h) (Or.inl ⟨by rfl, ?_⟩) ?_ ?_
     rotate_left
     ·intro w'
      go_simp
      with_reducible rfl
     rotate_left
     ·simp only [Act.put, List.setIfInBounds_toArray, List.set_cons_zero, List.set_cons_succ, i64_w, i32_w]
      rfl
     refine pure_ (i := 5) (N := some 36) (v := ?_) (a' := ?_) #[T3484, T3484, T3484, T3484, T3484, T3484, F3484, F3484, F3484, F3484, F3484, F3484, F3484] rfl rfl (any_of HT_.out (by kernel_rfl)) (fun _ _ _ h => h) (Or.inl ⟨by rfl, ?_⟩) ?_ ?_
     rotate_left
     ·intro w'
      go_simp
      with_reducible rfl
     rotate_left
     ·simp only [Act.put, List.setIfInBounds_toArray, List.set_cons_zero, List.set_cons_succ, i64_w, i32_w]
      rfl
     refine pure_ (i := 6) (N := some 37) (v := ?_) (a' := ?_) #[T3484, T3484, T3484, T3484, T3484, T3484, T3484, F3484, F3484, F3484, F3484, F3484, F3484] rfl rfl (any_of HT_.out (by kernel_rfl)) (fun _ _ _ h => h) (Or.inl ⟨by rfl, ?_⟩) ?_ ?_
     rotate_left
     ·intro w'
      go_simp
      with_reducible rfl
     rotate_left
     ·simp only [Act.put, List.setIfInBounds_toArray, List.set_cons_zero, List.set_cons_succ, i64_w, i32_w]
      rfl
     refine pure_ (i := 7) (N := some 38) (v := ?_) (a' := ?_) #[T3484, T3484, T3484, T3484, T3484, T3484, T3484, T3484, F3484, F3484, F3484, F3484, F3484] rfl rfl (any_of HT_.out (by kernel_rfl)) (fun _ _ _ h => h) (Or.inl ⟨by rfl, ?_⟩) ?_ ?_
     rotate_left
     ·intro w'
      go_simp
      with_reducible rfl
     rotate_left
     ·simp only [Act.put, List.setIfInBounds_toArray, List.set_cons_zero, List.set_cons_succ, i64_w, i32_w]
      rfl
     refine pure_ (i := 9) (N := some 40) (v := ?_) (a' := ?_) #[T3484, T3484, T3484, T3484, T3484, T3484, T3484, T3484, F3484, T3484, F3484, F3484, F3484] rfl rfl (any_of HT_.out (by kernel_rfl)) (fun _ _ _ h => h) (Or.inl ⟨by rfl, ?_⟩) ?_ ?_
     rotate_left
     ·intro w'
      go_simp
      with_reducible rfl
     rotate_left
     ·simp only [Act.put, List.setIfInBounds_toArray, List.set_cons_zero, List.set_cons_succ, i64_w, i32_w]
      rfl
     refine take_ (i := 8) (N := some 39) (v := ?_) (a' := ?_) #[T3484, T3484, T3484, T3484, T3484, T3484, T3484, T3484, T3484, T3484, F3484, F3484, F3484] rfl rfl (take_ofW HT_.out HW_.out (by kernel_rfl)) (fun _ _ _ h => h) (Or.inl ⟨by rfl, ?_⟩) hHeld ?_ ?_
     rotate_left
     ·rintro w' ⟨s0, s1, s2, s3, s4, s5⟩
      go_simp
      with_reducible rfl
     rotate_left
     ·simp only [Act.put, List.setIfInBounds_toArray, List.set_cons_zero, List.set_cons_succ, i64_w, i32_w]
      rfl
     refine take_ (i := 10) (N := some 41) (v := ?_) (a' := ?_) #[T3484, T3484, T3484, T3484, T3484, T3484, T3484, T3484, T3484, T3484, T3484, F3484, F3484] rfl rfl (take_ofW HT_.out HW_.out (by kernel_rfl)) (fun _ _ _ h => h) (Or.inl ⟨by rfl, ?_⟩) hHeld ?_ ?_
     rotate_left
     ·rintro w' ⟨s0, s1, s2, s3, s4, s5⟩
      go_simp
      with_reducible rfl
     rotate_left
     ·simp only [Act.put, List.setIfInBounds_toArray, List.set_cons_zero, List.set_cons_succ, i64_w, i32_w]
      rfl
     refine pure_ (i := 11) (N := some 42) (v := ?_) (a' := ?_) #[T3484, T3484, T3484, T3484, T3484, T3484, T3484, T3484, T3484, T3484, T3484, T3484, F3484] rfl rfl (any_of HT_.out (by kernel_rfl)) (fun _ _ _ h => h) (Or.inl ⟨by rfl, ?_⟩) ?_ ?_
     rotate_left
     ·intro w'
      go_simp
      with_reducible rfl
     rotate_left
     ·simp only [Act.put, List.setIfInBounds_toArray, List.set_cons_zero, List.set_cons_succ, i64_w, i32_w]
      rfl
     refine pure_ (i := 12) (N := some 43) (v := ?_) (a' := ?_) #[T3484, T3484, T3484, T3484, T3484, T3484, T3484, T3484, T3484, T3484, T3484, T3484, T3484] rfl rfl (any_of HT_.out (by kernel_rfl)) (fun _ _ _ h => h) (Or.inl ⟨by rfl, ?_⟩) ?_ ?_
     rotate_left
     ·intro w'
      go_simp
      with_reducible rfl
     rotate_left
     ·simp only [Act.put, List.setIfInBounds_toArray, List.set_cons_zero, List.set_cons_succ, i64_w, i32_w]
      rfl
     refine done_ (done_of HT_.out (by kernel_rfl)) ?_
     try go_wp2
     go_meet
     case rel => exact ⟨_, (x6_2), qgtrs_18, H', ⟨by have := HK1.out; have := HK2.out; first | omega | exact Nat.le_refl _⟩, ⟨qgtrs_3⟩, ⟨qgtrs_8⟩, ⟨qgtrs_1⟩, ⟨qgtrs_2⟩, ⟨qgtrs_0⟩⟩
    rw [if_pos c26] at H
    have c26b0 : decide (t221 < ((rd_T53 x3_1 (ji23)).f0)) = true := decide_eq_true c26
    clear c26
    have H' := Aside0.mk H
    clear H
    try go_wp2
    have n0_ := Aside0.mk (Kd.N_drew HO_3.out)
    have n1_ := Aside0.mk (Kd.N_drew HO_226002.out)
    have n2_ := Aside0.mk (blk_drew BK219.out)
    have n3_ := Aside0.mk (blk_drew BK225.out)
    have n4_ := Aside0.mk (below_drew1 HB.out)
    clear HO_3
    clear HO_226002
    clear BK219
    clear BK225
    clear HB
    have HO_3 := n0_
    have HO_226002 := n1_
    have BK219 := n2_
    have BK225 := n3_
    have HB := n4_
    clear n0_ n1_ n2_ n3_ n4_
    have p226 : 0 ≤ ((ji23) : Int) := of_decide_eq_true qgtrs_5
    have q226 : (ji23) < (x3_1.length : Int) := of_decide_eq_true qgtrs_5
    obtain ⟨ad226, A226_2, c226_2, e226, hx226_0, hx226_1, hx226_2, hl226_2, hi226_2⟩ := at_T53 (Kd.N_reads' HO_3.out).2.2 (ji23) p226 q226
    cases e226
    obtain ⟨ce226, hce226, hMe226, hcc226⟩ := Kd.N_get HO_3.out z53 (ji23) p226 (by first | exact q226 | exact of_decide_eq_true qgtrs_5 | (have e_ := (Kd.N_reads' HO_3.out).1; omega))
    obtain ⟨ua226_2, uc226_2, rfl, ul226_2, ge226_2⟩ := k53_openF hMe226
    have hv226_2 := hcc226 2 _ rfl
    rw [add_field _ _ 2 (by omega)] at hv226_2
    replace hv226_2 := Option.some.inj (hv226_2.symm.trans hx226_2)
    injection hv226_2 with hva_ hvn_ hvc_
    rw [hva_] at ge226_2
    rw [hvc_] at ul226_2
    have HL226_2 := Aside0.mk (show Kd.V k58 58 _ w.heap.size _ _ ((rd_T53 x3_1 (ji23)).f2) from Kd.V_mk ul226_2 ge226_2)
    clear hva_ hvn_ hvc_ ge226_2 ul226_2
    clear hcc226 hce226
    have HR226_2 := Aside0.mk hi226_2
    have HC226_2 := Aside0.mk hl226_2
    clear hi226_2 hl226_2
    replace p226 := eq_true p226
    replace q226 := eq_true q226
    refine start_ (n := 13) (S := fun w' => w'.cell? ⟨gb225, 0, none⟩ = some (.int .i64 t221) ∧ w'.cell? ⟨gb225, 1, none⟩ = some (.int .i64 1) ∧ w'.cell? ⟨gb225, 2, none⟩ = some (.slice Ao17 t222.length co17) ∧ w'.cell? (ad226.add (((ji23)).toNat * 3)) = some (.int .i64 ((rd_T53 x3_1 (ji23)).f0)) ∧ w'.cell? ⟨(ad226.add (((ji23)).toNat * 3)).block, (ad226.add (((ji23)).toNat * 3)).off + 1, none⟩ = some (.int .i64 ((rd_T53 x3_1 (ji23)).f1)) ∧ w'.cell? ⟨(ad226.add (((ji23)).toNat * 3)).block, (ad226.add (((ji23)).toNat * 3)).off + 2, none⟩ = some (.slice A226_2 ((rd_T53 x3_1 (ji23)).f2).length c226_2)) (ds := []) #[F3484, F3484, F3484, F3484, F3484, F3484, F3484, F3484, F3484, F3484, F3484, F3484, F3484] (by kernel_rfl) rfl rfl ⟨(blk_cell BK225.out 0).trans rfl, (blk_cell BK225.out 1).trans rfl, (blk_cell BK225.out 2).trans rfl, hx226_0, hx226_1, hx226_2⟩ (fun hHeld => ?_); refine with_tabW sleuthlaw13_Traces.tab8 sleuthlaw13_Traces.bits8 (fun HT_ HW_ => ?_)
    generalize wr.drew = w27 at HO_3 HO_226002 BK219 BK225 HB HL226_2 HR226_2 hx226_0 hx226_1 hx226_2 hHeld ⊢
    refine pure_ (i := 0) (N := some 31) (v := ?_) (a' := ?_) #[T3484, F3484, F3484, F3484, F3484, F3484, F3484, F3484, F3484, F3484, F3484, F3484, F3484] rfl rfl (any_of HT_.out (by kernel_rfl)) (fun _ _ _ h => h) (Or.inl ⟨by rfl, ?_⟩) ?_ ?_
    rotate_left
    ·intro w'
     go_simp
     with_reducible rfl
    rotate_left
    ·simp only [Act.put, List.setIfInBounds_toArray, List.set_cons_zero, List.set_cons_succ, i64_w, i32_w]
     rfl
    refine pure_ (i := 1) (N := some 32) (v := ?_) (a' := ?_) #[T3484, T3484, F3484, F3484, F3484, F3484, F3484, F3484, F3484, F3484, F3484, F3484, F3484] rfl rfl (any_of HT_.out (by kernel_rfl)) (fun _ _ _ h => h) (Or.inl ⟨by rfl, ?_⟩) ?_ ?_
    rotate_left
    ·intro w'
     go_simp
     with_reducible rfl
    rotate_left
    ·simp only [Act.put, List.setIfInBounds_toArray, List.set_cons_zero, List.set_cons_succ, i64_w, i32_w]
     rfl
    refine pure_ (i := 2) (N := some 33) (v := ?_) (a' := ?_) #[T3484, T3484, T3484, F3484, F3484, F3484, F3484, F3484, F3484, F3484, F3484, F3484, F3484] rfl rfl (any_of HT_.out (by kernel_rfl)) (fun _ _ _ h => h) (Or.inl ⟨by rfl, ?_⟩) ?_ ?_
    rotate_left
    ·intro w'
     go_simp
     with_reducible rfl
    rotate_left
    ·simp only [Act.put, List.setIfInBounds_toArray, List.set_cons_zero, List.set_cons_succ, i64_w, i32_w]
     rfl
    refine pure_ (i := 3) (N := some 34) (v := ?_) (a' := ?_) #[T3484, T3484, T3484, T3484, F3484, F3484, F3484, F3484, F3484, F3484, F3484, F3484, F3484] rfl rfl (any_of HT_.out (by kernel_rfl)) (fun _ _ _ h => h) (Or.inl ⟨by rfl, ?_⟩) ?_ ?_
    rotate_left
    ·intro w'
     go_simp
     with_reducible rfl
    rotate_left
    ·simp only [Act.put, List.setIfInBounds_toArray, List.set_cons_zero, List.set_cons_succ, i64_w, i32_w]
     rfl
    refine pure_ (i := 4) (N := some 35) (v := ?_) (a' := ?_) #[T3484, T3484, T3484, T3484, T3484, F3484, F3484, F3484, F3484, F3484, F3484, F3484, F3484] rfl rfl (any_of HT_.out (by kernel_rfl)) (fun _ _ _ h => h) (Or.inl ⟨by rfl, ?_⟩) ?_ ?_
    rotate_left
    ·intro w'
     go_simp
     with_reducible rfl
    rotate_left
    ·simp only [Act.put, List.setIfInBounds_toArray, List.set_cons_zero, List.set_cons_succ, i64_w, i32_w]
     rfl
    refine pure_ (i := 5) (N := some 36) (v := ?_) (a' := ?_) #[T3484, T3484, T3484, T3484, T3484, T3484, F3484, F3484, F3484, F3484, F3484, F3484, F3484] rfl rfl (any_of HT_.out (by kernel_rfl)) (fun _ _ _ h => h) (Or.inl ⟨by rfl, ?_⟩) ?_ ?_
    rotate_left
    ·intro w'
     go_simp
     with_reducible rfl
    rotate_left
    ·simp only [Act.put, List.setIfInBounds_toArray, List.set_cons_zero, List.set_cons_succ, i64_w, i32_w]
     rfl
    refine pure_ (i := 6) (N := some 37) (v := ?_) (a' := ?_) #[T3484, T3484, T3484, T3484, T3484, T3484, T3484, F3484, F3484, F3484, F3484, F3484, F3484] rfl rfl (any_of HT_.out (by kernel_rfl)) (fun _ _ _ h => h) (Or.inl ⟨by rfl, ?_⟩) ?_ ?_
    rotate_left
    ·intro w'
     go_simp
     with_reducible rfl
    rotate_left
    ·simp only [Act.put, List.setIfInBounds_toArray, List.set_cons_zero, List.set_cons_succ, i64_w, i32_w]
     rfl
    refine pure_ (i := 7) (N := some 38) (v := ?_) (a' := ?_) #[T3484, T3484, T3484, T3484, T3484, T3484, T3484, T3484, F3484, F3484, F3484, F3484, F3484] rfl rfl (any_of HT_.out (by kernel_rfl)) (fun _ _ _ h => h) (Or.inl ⟨by rfl, ?_⟩) ?_ ?_
    rotate_left
    ·intro w'
     go_simp
     with_reducible rfl
    rotate_left
    ·simp only [Act.put, List.setIfInBounds_toArray, List.set_cons_zero, List.set_cons_succ, i64_w, i32_w]
     rfl
    refine pure_ (i := 9) (N := some 40) (v := ?_) (a' := ?_) #[T3484, T3484, T3484, T3484, T3484, T3484, T3484, T3484, F3484, T3484, F3484, F3484, F3484] rfl rfl (any_of HT_.out (by kernel_rfl)) (fun _ _ _ h => h) (Or.inl ⟨by rfl, ?_⟩) ?_ ?_
    rotate_left
    ·intro w'
     go_simp
     with_reducible rfl
    rotate_left
    ·simp only [Act.put, List.setIfInBounds_toArray, List.set_cons_zero, List.set_cons_succ, i64_w, i32_w]
     rfl
    refine take_ (i := 8) (N := some 39) (v := ?_) (a' := ?_) #[T3484, T3484, T3484, T3484, T3484, T3484, T3484, T3484, T3484, T3484, F3484, F3484, F3484] rfl rfl (take_ofW HT_.out HW_.out (by kernel_rfl)) (fun _ _ _ h => h) (Or.inl ⟨by rfl, ?_⟩) hHeld ?_ ?_
    rotate_left
    ·rintro w' ⟨s0, s1, s2, s3, s4, s5⟩
     go_simp
     with_reducible rfl
    rotate_left
    ·simp only [Act.put, List.setIfInBounds_toArray, List.set_cons_zero, List.set_cons_succ, i64_w, i32_w]
     rfl
    refine take_ (i := 10) (N := some 41) (v := ?_) (a' := ?_) #[T3484, T3484, T3484, T3484, T3484, T3484, T3484, T3484, T3484, T3484, T3484, F3484, F3484] rfl rfl (take_ofW HT_.out HW_.out (by kernel_rfl)) (fun _ _ _ h => h) (Or.inl ⟨by rfl, ?_⟩) hHeld ?_ ?_
    rotate_left
    ·rintro w' ⟨s0, s1, s2, s3, s4, s5⟩
     go_simp
     with_reducible rfl
    rotate_left
    ·simp only [Act.put, List.setIfInBounds_toArray, List.set_cons_zero, List.set_cons_succ, i64_w, i32_w]
     rfl
    refine pure_ (i := 11) (N := some 42) (v := ?_) (a' := ?_) #[T3484, T3484, T3484, T3484, T3484, T3484, T3484, T3484, T3484, T3484, T3484, T3484, F3484] rfl rfl (any_of HT_.out (by kernel_rfl)) (fun _ _ _ h => h) (Or.inl ⟨by rfl, ?_⟩) ?_ ?_
    rotate_left
    ·intro w'
     go_simp
     with_reducible rfl
    rotate_left
    ·simp only [Act.put, List.setIfInBounds_toArray, List.set_cons_zero, List.set_cons_succ, i64_w, i32_w]
     rfl
    refine pure_ (i := 12) (N := some 43) (v := ?_) (a' := ?_) #[T3484, T3484, T3484, T3484, T3484, T3484, T3484, T3484, T3484, T3484, T3484, T3484, T3484] rfl rfl (any_of HT_.out (by kernel_rfl)) (fun _ _ _ h => h) (Or.inl ⟨by rfl, ?_⟩) ?_ ?_
    rotate_left
    ·intro w'
     go_simp
     with_reducible rfl
    rotate_left
    ·simp only [Act.put, List.setIfInBounds_toArray, List.set_cons_zero, List.set_cons_succ, i64_w, i32_w]
     rfl
    refine done_ (done_of HT_.out (by kernel_rfl)) ?_
    try go_wp2
    go_roundg k2
    case measure => have := HK1.out; have := HK2.out; omega
    case rel => exact ⟨(ji23), (by first | rfl | (simp; done) | (simp only [← hji23] <;> (first | rfl | simp)) | (simp [*]; done)), H', ⟨by have := HK1.out; have := HK2.out; omega⟩, ⟨qgtrs_3⟩, ⟨qgtrs_8⟩, ⟨qgtrs_1⟩, ⟨qgtrs_2⟩, ⟨qgtrs_0⟩⟩
  clear HC9
  try clear c1
  try clear c2
  try clear p2
  try clear q2
  try clear hx2
  try clear c3
  try clear c3b0
  try clear c4
  try clear c4b0
  try clear c5
  try clear c5b0
  try clear c5b1
  try clear c5b2
  try clear p6
  try clear c17
  try clear c22
  try clear c22b0
  try clear p22
  try clear q22
  try clear hx22
  try clear c24
  try clear c24b0
  try clear c25
  try clear c25b0
  try clear c26
  try clear c26b0
  try clear hcz10_0
  try clear hcz10_1
  try clear hcz10_2
  try clear hcz10_3
  try clear hcz10_4
  try clear hcz10_5
  try clear hcz10_6
  try clear hcz6_0
  try clear hcz6_1
  try clear hcz6_2
  try clear hcz6_3
  try clear hcz6_4
  try clear hcz6_5
  try clear hcz6_6
  try clear hfz10_0
  try clear hfz10_1
  try clear hfz10_2
  try clear hfz10_3
  try clear hfz10_4
  try clear hfz10_5
  try clear hfz10_6
  try clear hfz6_0
  try clear hfz6_1
  try clear hfz6_2
  try clear hfz6_3
  try clear hfz6_4
  try clear hfz6_5
  try clear hfz6_6
  try clear hx220_0
  try clear hx220_1
  try clear hx220_2
  try clear hx226_0
  try clear hx226_1
  try clear hx226_2
  try clear p2
  try clear p220
  try clear p226
  try clear p6
  try clear q2
  try clear q220
  try clear q226
  obtain ⟨kq, x6_8, rfl, HA, HJ8, HO_3, HO_226002, BK219, BK225, HB⟩ := hcut
  cases kq with
  | zero => exact absurd HA.out (by simp [sleuthlaw13_Traces.j2])
  | succ kj8 =>
   have H := HA.out
   clear HA
   simp only [sleuthlaw13_Traces.j2] at H
   obtain ⟨y227, hy227⟩ : ∃ y_ : List (S53), y_ = (([] : List (S53))) := ⟨_, rfl⟩
   replace H : (if 0 ≤ x6_8 then (if x6_8 ≤ (x3_1.length : Int) then ((some (x3_1.take (x6_8 : Int).toNat : List (S53))).bind fun y230 => (if y227.length + y230.length < 3518437208883 then ((some (y227 ++ y230 : List (S53))).bind fun y235 => ((some (([(⟨t221, 1, t222⟩ : S53)] : List (S53)) : List (S53))).bind fun y238 => (if y235.length + y238.length < 3518437208883 then ((some (y235 ++ y238 : List (S53))).bind fun y241 => ((some (x3_1.drop (x6_8 : Int).toNat : List (S53))).bind fun y244 => (if y241.length + y244.length < 3518437208883 then (sleuthlaw13_Traces.l0 kj8 (y241 ++ y244) (wrap64 (x4_1 + 1)) l0_0 a0_1 a0_2 a0_3 a0_4 l0_5 a0_6) else (none)))) else (none)))) else (none))) else (none)) else (none)) = some r := by first | (rw [hy227]; with_reducible exact H) | (have H2_ := (Option.bind_some _ _).symm.trans H; rw [hy227]; with_reducible exact H2_) | (have H2_ := (Option.bind_some _ _).symm.trans H; with_reducible exact H2_) | with_reducible exact H | (rw [hy227]; exact H) | exact H
   have Ny227 := Aside0.mk hy227
   clear hy227
   by_cases c30 : 0 ≤ x6_8
   rotate_left
   ·rw [if_neg c30] at H
    exact absurd H (by simp)
   rw [if_pos c30] at H
   have c30b0 := eq_true c30
   have c30b1 : decide (0 ≤ x6_8) = true := decide_eq_true c30
   clear c30
   by_cases c31 : x6_8 ≤ (x3_1.length : Int)
   rotate_left
   ·rw [if_neg c31] at H
    exact absurd H (by simp)
   rw [if_pos c31] at H
   have c31b0 := eq_true c31
   have c31b1 : decide (x6_8 ≤ (x3_1.length : Int)) = true := decide_eq_true c31
   clear c31
   obtain ⟨y230, hy230⟩ : ∃ y_ : List (S53), y_ = (x3_1.take (x6_8 : Int).toNat) := ⟨_, rfl⟩
   replace H : (if y227.length + y230.length < 3518437208883 then ((some (y227 ++ y230 : List (S53))).bind fun y235 => ((some (([(⟨t221, 1, t222⟩ : S53)] : List (S53)) : List (S53))).bind fun y238 => (if y235.length + y238.length < 3518437208883 then ((some (y235 ++ y238 : List (S53))).bind fun y241 => ((some (x3_1.drop (x6_8 : Int).toNat : List (S53))).bind fun y244 => (if y241.length + y244.length < 3518437208883 then (sleuthlaw13_Traces.l0 kj8 (y241 ++ y244) (wrap64 (x4_1 + 1)) l0_0 a0_1 a0_2 a0_3 a0_4 l0_5 a0_6) else (none)))) else (none)))) else (none)) = some r := by first | (rw [hy230]; with_reducible exact H) | (have H2_ := (Option.bind_some _ _).symm.trans H; rw [hy230]; with_reducible exact H2_) | (have H2_ := (Option.bind_some _ _).symm.trans H; with_reducible exact H2_) | with_reducible exact H | (rw [hy230]; exact H) | exact H
   have Ny230 := Aside0.mk hy230
   clear hy230
   by_cases c32 : y227.length + y230.length < 3518437208883
   rotate_left
   ·rw [if_neg c32] at H
    exact absurd H (by simp)
   rw [if_pos c32] at H
   have LMc32 := Aside0.mk c32
   clear c32
   obtain ⟨y235, hy235⟩ : ∃ y_ : List (S53), y_ = (y227 ++ y230) := ⟨_, rfl⟩
   replace H : ((some (([(⟨t221, 1, t222⟩ : S53)] : List (S53)) : List (S53))).bind fun y238 => (if y235.length + y238.length < 3518437208883 then ((some (y235 ++ y238 : List (S53))).bind fun y241 => ((some (x3_1.drop (x6_8 : Int).toNat : List (S53))).bind fun y244 => (if y241.length + y244.length < 3518437208883 then (sleuthlaw13_Traces.l0 kj8 (y241 ++ y244) (wrap64 (x4_1 + 1)) l0_0 a0_1 a0_2 a0_3 a0_4 l0_5 a0_6) else (none)))) else (none))) = some r := by first | (rw [hy235]; with_reducible exact H) | (have H2_ := (Option.bind_some _ _).symm.trans H; rw [hy235]; with_reducible exact H2_) | (have H2_ := (Option.bind_some _ _).symm.trans H; with_reducible exact H2_) | with_reducible exact H | (rw [hy235]; exact H) | exact H
   have Ny235 := Aside0.mk hy235
   clear hy235
   obtain ⟨y238, hy238⟩ : ∃ y_ : List (S53), y_ = (([(⟨t221, 1, t222⟩ : S53)] : List (S53))) := ⟨_, rfl⟩
   replace H : (if y235.length + y238.length < 3518437208883 then ((some (y235 ++ y238 : List (S53))).bind fun y241 => ((some (x3_1.drop (x6_8 : Int).toNat : List (S53))).bind fun y244 => (if y241.length + y244.length < 3518437208883 then (sleuthlaw13_Traces.l0 kj8 (y241 ++ y244) (wrap64 (x4_1 + 1)) l0_0 a0_1 a0_2 a0_3 a0_4 l0_5 a0_6) else (none)))) else (none)) = some r := by first | (rw [hy238]; with_reducible exact H) | (have H2_ := (Option.bind_some _ _).symm.trans H; rw [hy238]; with_reducible exact H2_) | (have H2_ := (Option.bind_some _ _).symm.trans H; with_reducible exact H2_) | with_reducible exact H | (rw [hy238]; exact H) | exact H
   have Ny238 := Aside0.mk hy238
   clear hy238
   by_cases c33 : y235.length + y238.length < 3518437208883
   rotate_left
   ·rw [if_neg c33] at H
    exact absurd H (by simp)
   rw [if_pos c33] at H
   have LMc33 := Aside0.mk c33
   clear c33
   obtain ⟨y241, hy241⟩ : ∃ y_ : List (S53), y_ = (y235 ++ y238) := ⟨_, rfl⟩
   replace H : ((some (x3_1.drop (x6_8 : Int).toNat : List (S53))).bind fun y244 => (if y241.length + y244.length < 3518437208883 then (sleuthlaw13_Traces.l0 kj8 (y241 ++ y244) (wrap64 (x4_1 + 1)) l0_0 a0_1 a0_2 a0_3 a0_4 l0_5 a0_6) else (none))) = some r := by first | (rw [hy241]; with_reducible exact H) | (have H2_ := (Option.bind_some _ _).symm.trans H; rw [hy241]; with_reducible exact H2_) | (have H2_ := (Option.bind_some _ _).symm.trans H; with_reducible exact H2_) | with_reducible exact H | (rw [hy241]; exact H) | exact H
   have Ny241 := Aside0.mk hy241
   clear hy241
   have c34b0 := eq_true (of_decide_eq_true qgtrs_5 : 0 ≤ x6_8)
   have c35b0 := eq_true (of_decide_eq_true qgtrs_5 : x6_8 ≤ (x3_1.length : Int))
   obtain ⟨y244, hy244⟩ : ∃ y_ : List (S53), y_ = (x3_1.drop (x6_8 : Int).toNat) := ⟨_, rfl⟩
   replace H : (if y241.length + y244.length < 3518437208883 then (sleuthlaw13_Traces.l0 kj8 (y241 ++ y244) (wrap64 (x4_1 + 1)) l0_0 a0_1 a0_2 a0_3 a0_4 l0_5 a0_6) else (none)) = some r := by first | (rw [hy244]; with_reducible exact H) | (have H2_ := (Option.bind_some _ _).symm.trans H; rw [hy244]; with_reducible exact H2_) | (have H2_ := (Option.bind_some _ _).symm.trans H; with_reducible exact H2_) | with_reducible exact H | (rw [hy244]; exact H) | exact H
   have Ny244 := Aside0.mk hy244
   clear hy244
   by_cases c36 : y241.length + y244.length < 3518437208883
   rotate_left
   ·rw [if_neg c36] at H
    exact absurd H (by simp)
   rw [if_pos c36] at H
   have LMc36 := Aside0.mk c36
   clear c36
   obtain ⟨y249, hy249⟩ : ∃ y_ : List (S53), y_ = (y241 ++ y244) := ⟨_, rfl⟩
   replace H : (sleuthlaw13_Traces.l0 kj8 y249 (wrap64 (x4_1 + 1)) l0_0 a0_1 a0_2 a0_3 a0_4 l0_5 a0_6) = some r := by first | (rw [hy249]; with_reducible exact H) | (have H2_ := (Option.bind_some _ _).symm.trans H; rw [hy249]; with_reducible exact H2_) | (have H2_ := (Option.bind_some _ _).symm.trans H; with_reducible exact H2_) | with_reducible exact H | (rw [hy249]; exact H) | exact H
   have Ny249 := Aside0.mk hy249
   clear hy249
   have H' := Aside0.mk H
   clear H
   try go_wp2
   have n0_ := Aside0.mk (Kd.N_drew HO_3.out)
   have n1_ := Aside0.mk (Kd.N_drew HO_226002.out)
   have n2_ := Aside0.mk (blk_drew BK219.out)
   have n3_ := Aside0.mk (blk_drew BK225.out)
   have n4_ := Aside0.mk (below_drew1 HB.out)
   clear HO_3
   clear HO_226002
   clear BK219
   clear BK225
   clear HB
   have HO_3 := n0_
   have HO_226002 := n1_
   have BK219 := n2_
   have BK225 := n3_
   have HB := n4_
   clear n0_ n1_ n2_ n3_ n4_
   have q38 : (x6_8 : Int) ≤ ((x3_1.length : Int) : Int) := of_decide_eq_true qgtrs_5
   obtain ⟨i038, hi038, _, hsz38, _⟩ := info_parts info53
   have hroom38 : x3_1.length ≤ co21 := (Kd.N_reads' HO_3.out).2.1
   have hC38 : Kd.F k53 _ _ Ao21 x3_1.length x3_1 := (Kd.V_at (base := w.heap.size) (Kd.N_V HO_3.out)).2.2
   have hcut38 := cut_to (P := Try.prog) 30 53 .i64 Try.underlying30 hi038 Ao21 x3_1.length co21 x6_8 (of_decide_eq_true qgtrs_5) q38 hroom38
   have hr38 := Kd.F_take (m := (x6_8 : Int).toNat) hC38 (by omega)
   have hy38 : y230.length = (x6_8 : Int).toNat := (by rw [Ny230.out, List.length_take]; omega)
   rw [← Ny230.out] at hr38
   rw [← hy38] at hcut38
   have HO234 := Aside0.mk (show Kd.V k53 53 _ w.heap.size _ (.slice Ao21 y230.length co21) y230 from Kd.V_mk (by omega) hr38)
   have HC234 := Aside0.mk (show y230.length ≤ co21 from by omega)
   clear hr38 hC38 hroom38 hi038 hsz38
   have KY38 := Aside0.mk hy38
   clear hy38
   replace q38 := eq_true q38
   have q39 : (x6_8 : Int) ≤ ((x3_1.length : Int) : Int) := of_decide_eq_true qgtrs_5
   obtain ⟨i039, hi039, _, hsz39, _⟩ := info_parts info53
   have hroom39 : x3_1.length ≤ co21 := (Kd.N_reads' HO_3.out).2.1
   have hC39 : Kd.F k53 _ _ Ao21 x3_1.length x3_1 := (Kd.V_at (base := w.heap.size) (Kd.N_V HO_3.out)).2.2
   have q039 : (0 : Int) ≤ (x6_8 : Int) := of_decide_eq_true qgtrs_5
   have hcut39 := cut_from (P := Try.prog) 30 53 .i64 Try.underlying30 hi039 3 hsz39 Ao21 x3_1.length co21 x6_8 q039 q39
   have hr39 := Kd.F_cut (m := (x6_8 : Int).toNat) (c := co21) hC39 (by omega) hroom39
   obtain ⟨A39, hA39⟩ : ∃ A1, A1 = (if co21 = (x6_8 : Int).toNat then Ao21 else (Ao21 : Option Addr).map (·.add ((x6_8 : Int).toNat * 3))) := ⟨_, rfl⟩
   obtain ⟨c39, hc39⟩ : ∃ c1, c1 = co21 - (x6_8 : Int).toNat := ⟨_, rfl⟩
   have hy39 : y244.length = x3_1.length - (x6_8 : Int).toNat := (by rw [Ny244.out, List.length_drop] <;> omega)
   rw [show (x3_1).drop (x6_8 : Int).toNat = y244 from Ny244.out.symm] at hr39
   replace hr39 : Kd.F k53 _ _ A39 y244.length y244 := (by rw [hA39]; exact hr39)
   rw [← hy39, ← hA39, ← hc39] at hcut39
   have HO248 := Aside0.mk (show Kd.V k53 53 _ w.heap.size _ (.slice A39 y244.length c39) y244 from Kd.V_mk (by rw [hy39, hc39]; exact Nat.sub_le_sub_right hroom39 _) hr39)
   have HC248 := Aside0.mk (show y244.length ≤ c39 from by rw [hy39, hc39]; exact Nat.sub_le_sub_right hroom39 _)
   clear hr39 hC39 hroom39 hi039 hsz39 hc39
   have KY39 := Aside0.mk hy39
   have KA39 := Aside0.mk hA39
   clear hy39 hA39
   replace q39 := eq_true q39
   refine start_ (n := 13) (S := fun w' => w'.cell? ⟨gb225, 0, none⟩ = some (.int .i64 t221) ∧ w'.cell? ⟨gb225, 1, none⟩ = some (.int .i64 1) ∧ w'.cell? ⟨gb225, 2, none⟩ = some (.slice Ao17 t222.length co17)) (ds := []) #[F3484, F3484, F3484, F3484, F3484, F3484, F3484, F3484, F3484, F3484, F3484, F3484, F3484] (by kernel_rfl) rfl rfl ⟨(blk_cell BK225.out 0).trans rfl, (blk_cell BK225.out 1).trans rfl, (blk_cell BK225.out 2).trans rfl⟩ (fun hHeld => ?_); refine with_tabW sleuthlaw13_Traces.tab10 sleuthlaw13_Traces.bits10 (fun HT_ HW_ => ?_)
   generalize wc.drew = w37 at HO_3 HO_226002 BK219 BK225 HB HO234 HO248 hHeld ⊢
   refine pure_ (i := 1) (N := some 47) (v := ?_) (a' := ?_) #[F3484, T3484, F3484, F3484, F3484, F3484, F3484, F3484, F3484, F3484, F3484, F3484, F3484] rfl rfl (any_of HT_.out (by kernel_rfl)) (fun _ _ _ h => h) (Or.inl ⟨by rfl, ?_⟩) ?_ ?_
   rotate_left
   ·intro w'
    go_simp
    with_reducible rfl
   rotate_left
   ·simp only [Act.put, List.setIfInBounds_toArray, List.set_cons_zero, List.set_cons_succ, i64_w, i32_w]
    rfl
   refine pure_ (i := 2) (N := some 48) (v := ?_) (a' := ?_) #[F3484, T3484, T3484, F3484, F3484, F3484, F3484, F3484, F3484, F3484, F3484, F3484, F3484] rfl rfl (any_of HT_.out (by kernel_rfl)) (fun _ _ _ h => h) (Or.inl ⟨by rfl, ?_⟩) ?_ ?_
   rotate_left
   ·intro w'
    go_simp
    with_reducible rfl
   rotate_left
   ·simp only [Act.put, List.setIfInBounds_toArray, List.set_cons_zero, List.set_cons_succ, i64_w, i32_w]
    rfl
   refine pure_ (i := 3) (N := some 49) (v := ?_) (a' := ?_) #[F3484, T3484, T3484, T3484, F3484, F3484, F3484, F3484, F3484, F3484, F3484, F3484, F3484] rfl rfl (any_of HT_.out (by kernel_rfl)) (fun _ _ _ h => h) (Or.inl ⟨by rfl, ?_⟩) ?_ ?_
   rotate_left
   ·intro w'
    go_simp
    with_reducible rfl
   rotate_left
   ·simp only [Act.put, List.setIfInBounds_toArray, List.set_cons_zero, List.set_cons_succ, i64_w, i32_w]
    rfl
   refine pure_ (i := 8) (N := some 54) (v := ?_) (a' := ?_) #[F3484, T3484, T3484, T3484, F3484, F3484, F3484, F3484, T3484, F3484, F3484, F3484, F3484] rfl rfl (any_of HT_.out (by kernel_rfl)) (fun _ _ _ h => h) (Or.inl ⟨by rfl, ?_⟩) ?_ ?_
   rotate_left
   ·intro w'
    go_simp
    with_reducible rfl
   rotate_left
   ·simp only [Act.put, List.setIfInBounds_toArray, List.set_cons_zero, List.set_cons_succ, i64_w, i32_w]
    rfl
   refine pure_ (i := 9) (N := some 55) (v := ?_) (a' := ?_) #[F3484, T3484, T3484, T3484, F3484, F3484, F3484, F3484, T3484, T3484, F3484, F3484, F3484] rfl rfl (any_of HT_.out (by kernel_rfl)) (fun _ _ _ h => h) (Or.inl ⟨by rfl, ?_⟩) ?_ ?_
   rotate_left
   ·intro w'
    go_simp
    with_reducible rfl
   rotate_left
   ·simp only [Act.put, List.setIfInBounds_toArray, List.set_cons_zero, List.set_cons_succ, i64_w, i32_w]
    rfl
   refine pure_ (i := 10) (N := some 56) (v := ?_) (a' := ?_) #[F3484, T3484, T3484, T3484, F3484, F3484, F3484, F3484, T3484, T3484, T3484, F3484, F3484] rfl rfl (any_of HT_.out (by kernel_rfl)) (fun _ _ _ h => h) (Or.inl ⟨by rfl, ?_⟩) ?_ ?_
   rotate_left
   ·intro w'
    go_simp
    with_reducible rfl
   rotate_left
   ·simp only [Act.put, List.setIfInBounds_toArray, List.set_cons_zero, List.set_cons_succ, i64_w, i32_w]
    rfl
   refine take_ (i := 5) (N := some 51) (v := ?_) (a' := ?_) #[F3484, T3484, T3484, T3484, F3484, T3484, F3484, F3484, T3484, T3484, T3484, F3484, F3484] rfl rfl (take_ofW HT_.out HW_.out (by kernel_rfl)) (fun _ _ _ h => h) (Or.inl ⟨by rfl, ?_⟩) hHeld ?_ ?_
   rotate_left
   ·rintro w' ⟨s0, s1, s2⟩
    go_simp
    with_reducible rfl
   rotate_left
   ·simp only [Act.put, List.setIfInBounds_toArray, List.set_cons_zero, List.set_cons_succ, i64_w, i32_w]
    rfl
   refine join_ (σ := Value × Value × Value) 3 #[T3484, T3484, T3484, T3484, T3484, T3484, T3484, F3484, T3484, T3484, T3484, F3484, F3484] (fun s_ => [(46, s_.1), (50, s_.2.1), (52, s_.2.2)]) (fun s_ w' => (w'.cell? ⟨gb225, 0, none⟩ = some (.int .i64 t221) ∧ w'.cell? ⟨gb225, 1, none⟩ = some (.int .i64 1) ∧ w'.cell? ⟨gb225, 2, none⟩ = some (.slice Ao17 t222.length co17)) ∧ (Kd.V k53 53 w' w.heap.size (fun k_ => (w.heap.size ≤ k_) ∧ some k_ ≠ (s_.2.1 : Value).ownBlock ∧ some k_ ≠ (s_.2.2 : Value).ownBlock ∧ k_ ≠ gb219 ∧ k_ ≠ gb225) (.slice Ao21 y230.length co21) y230) ∧ (Kd.N k53 53 w' w.heap.size (fun k_ => (w.heap.size ≤ k_) ∧ some k_ ≠ (s_.2.2 : Value).ownBlock ∧ k_ ≠ gb219 ∧ k_ ≠ gb225) s_.2.1 y235) ∧ (Kd.N k53 53 w' w.heap.size (fun k_ => (w.heap.size ≤ k_) ∧ some k_ ≠ (s_.2.1 : Value).ownBlock ∧ some k_ ≠ (.slice Ao21 x3_1.length co21 : Value).ownBlock ∧ k_ ≠ gb219 ∧ k_ ≠ gb225) s_.2.2 y238) ∧ (Kd.V k53 53 w' w.heap.size (fun k_ => (w.heap.size ≤ k_) ∧ some k_ ≠ (s_.2.1 : Value).ownBlock ∧ some k_ ≠ (s_.2.2 : Value).ownBlock ∧ k_ ≠ gb219 ∧ k_ ≠ gb225) (.slice A39 y244.length c39) y244) ∧ (Kd.N k53 53 w' w.heap.size (fun k_ => (w.heap.size ≤ k_) ∧ some k_ ≠ (s_.2.1 : Value).ownBlock ∧ some k_ ≠ (s_.2.2 : Value).ownBlock ∧ k_ ≠ gb219 ∧ k_ ≠ gb225) (.slice Ao21 x3_1.length co21) x3_1) ∧ (w'.heap[gb219]? = some (.cells #[.slice (some ad220) l0_0.length c0_0, .int .i8 a0_1, .int .i8 a0_2, .int .i8 a0_3, .int .i8 a0_4, .slice A0_5 l0_5.length c0_5, .int .u8 a0_6] 27 (0, 0))) ∧ (w'.heap[gb225]? = some (.cells #[.int .i64 t221, .int .i64 1, .slice Ao17 t222.length co17] 53 (0, 0))) ∧ (Below w.heap.size w w')) ?_ ?_
   rotate_left
   ·intro hCont
    refine two_ (i := 0) (j := 6) (Ni := some 46) (Nj := some 52) #[T3484, T3484, T3484, T3484, F3484, T3484, F3484, F3484, T3484, T3484, T3484, F3484, F3484] #[F3484, T3484, T3484, T3484, F3484, T3484, T3484, F3484, T3484, T3484, T3484, F3484, F3484] rfl rfl rfl rfl (two_of HT_.out (by kernel_rfl)) (by decide) (by decide) (fun K hK => ?_) (fun K hK => ?_)
    ·skip
     refine Kd.N_lit_step k53 _ 53 ?hg (N' := 46) ?hd (xs := ([] : List (S53))) (inner := []) (ok := (fun k_ => (w.heap.size ≤ k_) ∧ some k_ ≠ (.slice Ao21 x3_1.length co21 : Value).ownBlock ∧ some k_ ≠ (.slice Ao17 t222.length co17 : Value).ownBlock ∧ k_ ≠ gb219 ∧ k_ ≠ gb225)) (okp := (fun k_ => (w.heap.size ≤ k_) ∧ some k_ ≠ (.slice Ao21 x3_1.length co21 : Value).ownBlock ∧ some k_ ≠ (.slice Ao17 t222.length co17 : Value).ownBlock ∧ k_ ≠ gb219 ∧ k_ ≠ gb225)) ?hr ?hp (fun _ hk => hk) ((show ∀ k_, w37.heap.size ≤ k_ → (fun k_ => (w.heap.size ≤ k_) ∧ some k_ ≠ (.slice Ao21 x3_1.length co21 : Value).ownBlock ∧ some k_ ≠ (.slice Ao17 t222.length co17 : Value).ownBlock ∧ k_ ≠ gb219 ∧ k_ ≠ gb225) k_ from fun k_ hk => ⟨(Nat.le_trans (below_size qgtrs_0) hk), Kd.fresh' (Kd.N_lt qgtrs_3) k_ hk, Kd.fresh' (Kd.N_lt qgtrs_8) k_ hk, Kd.freshB (g := gb219) (o := .cells #[.slice (some ad220) l0_0.length c0_0, .int .i8 a0_1, .int .i8 a0_2, .int .i8 a0_3, .int .i8 a0_4, .slice A0_5 l0_5.length c0_5, .int .u8 a0_6] 27 (0, 0)) qgtrs_1 k_ hk, Kd.freshB (g := gb225) (o := .cells #[.int .i64 t221, .int .i64 1, .slice Ao17 t222.length co17] 53 (0, 0)) qgtrs_2 k_ hk⟩) _ (Nat.le_refl _)) (Below.refl _ _) (Nat.le_refl _) (by simp) ?_; (case hd => rfl); (case hg => rfl); (case hr => exact qgtrs_20); (case hp => exact (Reps.none _ _))
     intro v228 w40 ho41 hb hg_ hnew_
     clear hg_ hnew_
     (first | rw [← Ny227.out] at ho41 | (simp only [Int.reduceToNat] at ho41; rw [← Ny227.out] at ho41))
     have n0_ := Aside0.mk (Kd.N_elder' qgtrs_3 (Kd.N_base ho41) hb)
     have n1_ := Aside0.mk (Kd.N_elder' qgtrs_8 (Kd.N_base ho41) hb)
     have n2_ := Aside0.mk (Kd.V_elder' qgtrs_9 (Kd.N_base ho41) hb)
     have n3_ := Aside0.mk (Kd.V_elder' qgtrs_10 (Kd.N_base ho41) hb)
     have n4_ := Aside0.mk (Kd.N_lower ho41 (below_size qgtrs_0))
     have n5_ := Aside0.mk (blk_below (g := gb219) (o := .cells #[.slice (some ad220) l0_0.length c0_0, .int .i8 a0_1, .int .i8 a0_2, .int .i8 a0_3, .int .i8 a0_4, .slice A0_5 l0_5.length c0_5, .int .u8 a0_6] 27 (0, 0)) qgtrs_1 hb)
     have n6_ := Aside0.mk (blk_below (g := gb225) (o := .cells #[.int .i64 t221, .int .i64 1, .slice Ao17 t222.length co17] 53 (0, 0)) qgtrs_2 hb)
     have n7_ := Aside0.mk (below_step qgtrs_0 hb)
     clear HO_3
     clear HO_226002
     clear HO234
     clear HO248
     clear BK219
     clear BK225
     clear HB
     have HO_3 := n0_
     have HO_226002 := n1_
     have HO234 := n2_
     have HO248 := n3_
     have HO229 := n4_
     have BK219 := n5_
     have BK225 := n6_
     have HB := n7_
     clear n0_ n1_ n2_ n3_ n4_ n5_ n6_ n7_
     clear hb ho41
     refine hK.out _ _ ⟨(blk_cell BK225.out 0).trans rfl, (blk_cell BK225.out 1).trans rfl, (blk_cell BK225.out 2).trans rfl⟩ (fun hHeld => ?_)
     clear hK K
     refine norm_ (a' := ?_) ?_ ?_
     rotate_left
     ·show Act.put _ (some 46) _ = _
      simp only [Act.put, List.setIfInBounds_toArray, List.set_cons_zero, List.set_cons_succ, i64_w, i32_w]
      rfl
     refine two_ (i := 4) (j := 6) (Ni := some 50) (Nj := some 52) #[T3484, T3484, T3484, T3484, T3484, T3484, F3484, F3484, T3484, T3484, T3484, F3484, F3484] #[T3484, T3484, T3484, T3484, F3484, T3484, T3484, F3484, T3484, T3484, T3484, F3484, F3484] rfl rfl rfl rfl (two_of HT_.out (by kernel_rfl)) (by decide) (by decide) (fun K hK => ?_) (fun K hK => ?_)
     ·skip
      refine Kd.N_append_rows_step k53 (w0 := w) w.heap.size (by rfl) (.tmp 46) (.tmp 49) 30 53 (.agg #[(.int .i64 0), (.int .i64 0), (.slice none 0 0)]) 40 rfl Try.underlying30 info53 rfl (by decide) (by omega) v228 y227 y230 _ _ _ (fun k_ => (w.heap.size ≤ k_) ∧ some k_ ≠ (.slice Ao17 t222.length co17 : Value).ownBlock ∧ k_ ≠ gb219 ∧ k_ ≠ gb225) (fun k_ => ((fun k_ => (w.heap.size ≤ k_) ∧ some k_ ≠ (.slice Ao17 t222.length co17 : Value).ownBlock ∧ k_ ≠ gb219 ∧ k_ ≠ gb225)) k_ ∧ some k_ ≠ (v228 : Value).ownBlock) rfl rfl ?aO ?aR (fun _ hk => hk) ?aF ?aB ?aS ?aL ?_
      (case aR => exact (by skip; exact Kd.V_F (Kd.V_mono (ok' := (fun k_ => ((fun k_ => (w.heap.size ≤ k_) ∧ some k_ ≠ (.slice Ao17 t222.length co17 : Value).ownBlock ∧ k_ ≠ gb219 ∧ k_ ≠ gb225)) k_ ∧ some k_ ≠ (v228 : Value).ownBlock)) (HO234.out) (fun k_ hk => ⟨⟨hk.1.1, ⟨hk.1.2.1, ⟨hk.1.2.2.1, hk.1.2.2.2⟩⟩⟩, hk.2⟩))))
      (case aB => exact qgtrs_0)
      (case aF => exact (fun k_ hk => ⟨(Nat.le_trans (below_size qgtrs_0) hk), Kd.fresh' (Kd.N_lt qgtrs_8) k_ hk, Kd.freshB (g := gb219) (o := .cells #[.slice (some ad220) l0_0.length c0_0, .int .i8 a0_1, .int .i8 a0_2, .int .i8 a0_3, .int .i8 a0_4, .slice A0_5 l0_5.length c0_5, .int .u8 a0_6] 27 (0, 0)) qgtrs_1 k_ hk, Kd.freshB (g := gb225) (o := .cells #[.int .i64 t221, .int .i64 1, .slice Ao17 t222.length co17] 53 (0, 0)) qgtrs_2 k_ hk⟩))
      (case aO => exact qgtrs_25)
      (case aS => exact (below_size qgtrs_0))
      (case aL => have := LMc32.out; omega)
      intro v236 w42 ho hb hg hat
      rw [← Ny235.out] at ho
      have n0_ := Aside0.mk (Kd.N_afterv (ok := (fun k_ => (w.heap.size ≤ k_) ∧ some k_ ≠ (.slice Ao17 t222.length co17 : Value).ownBlock ∧ k_ ≠ gb219 ∧ k_ ≠ gb225)) qgtrs_3 hg hat)
      have n1_ := Aside0.mk (Kd.N_afterv (ok := (fun k_ => (w.heap.size ≤ k_) ∧ some k_ ≠ (.slice Ao21 x3_1.length co21 : Value).ownBlock ∧ k_ ≠ gb219 ∧ k_ ≠ gb225)) qgtrs_8 hg hat)
      have n2_ := Aside0.mk (blk_grown (g := gb219) (o := .cells #[.slice (some ad220) l0_0.length c0_0, .int .i8 a0_1, .int .i8 a0_2, .int .i8 a0_3, .int .i8 a0_4, .slice A0_5 l0_5.length c0_5, .int .u8 a0_6] 27 (0, 0)) qgtrs_1 hg (Kd.N_ne HO229.out BK219.out (by decide)))
      have n3_ := Aside0.mk (blk_grown (g := gb225) (o := .cells #[.int .i64 t221, .int .i64 1, .slice Ao17 t222.length co17] 53 (0, 0)) qgtrs_2 hg (Kd.N_away HO229.out (fun _ hk => hk.2.2.2.2)))
      have n4_ := Aside0.mk (Kd.V_afterv (ok := (fun k_ => (w.heap.size ≤ k_) ∧ some k_ ≠ (.slice Ao17 t222.length co17 : Value).ownBlock ∧ k_ ≠ gb219 ∧ k_ ≠ gb225)) qgtrs_9 hg hat)
      have n5_ := Aside0.mk (Kd.V_afterv (ok := (fun k_ => (w.heap.size ≤ k_) ∧ some k_ ≠ (.slice Ao17 t222.length co17 : Value).ownBlock ∧ k_ ≠ gb219 ∧ k_ ≠ gb225)) qgtrs_10 hg hat)
      have n6_ := Aside0.mk (hb)
      have n7_ := Aside0.mk (ho)
      clear HO_3
      clear HO_226002
      clear BK219
      clear BK225
      clear HO234
      clear HO248
      clear HB
      clear HO229
      have HO_3 := n0_
      have HO_226002 := n1_
      have BK219 := n2_
      have BK225 := n3_
      have HO234 := n4_
      have HO248 := n5_
      have HB := n6_
      have HO237 := n7_
      clear n0_ n1_ n2_ n3_ n4_ n5_ n6_ n7_
      clear ho hb hg hat
      refine hK.out _ _ ⟨(blk_cell BK225.out 0).trans rfl, (blk_cell BK225.out 1).trans rfl, (blk_cell BK225.out 2).trans rfl⟩ (fun hHeld => ?_)
      clear hK K
      refine norm_ (a' := ?_) ?_ ?_
      rotate_left
      ·show Act.put _ (some 50) _ = _
       simp only [Act.put, List.setIfInBounds_toArray, List.set_cons_zero, List.set_cons_succ, i64_w, i32_w]
       rfl
      refine one_ (i := 6) (N := some 52) #[T3484, T3484, T3484, T3484, T3484, T3484, T3484, F3484, T3484, T3484, T3484, F3484, F3484] rfl rfl (one_of HT_.out (by kernel_rfl)) (by decide) (fun K hK => ?_)
      refine Kd.N_lit_step k53 _ 53 ?hg (N' := 52) ?hd (xs := ([(⟨t221, 1, t222⟩ : S53)] : List (S53))) (inner := [.int .i64 t221, .int .i64 1, .slice Ao17 t222.length co17]) (ok := (fun k_ => (w.heap.size ≤ k_) ∧ some k_ ≠ (.slice Ao21 x3_1.length co21 : Value).ownBlock ∧ some k_ ≠ (v236 : Value).ownBlock ∧ k_ ≠ gb219 ∧ k_ ≠ gb225)) (okp := (fun k_ => (w.heap.size ≤ k_) ∧ some k_ ≠ (.slice Ao21 x3_1.length co21 : Value).ownBlock ∧ some k_ ≠ (v236 : Value).ownBlock ∧ k_ ≠ gb219 ∧ k_ ≠ gb225)) ?hr ?hp (fun _ hk => hk) ((show ∀ k_, w42.heap.size ≤ k_ → (fun k_ => (w.heap.size ≤ k_) ∧ some k_ ≠ (.slice Ao21 x3_1.length co21 : Value).ownBlock ∧ some k_ ≠ (v236 : Value).ownBlock ∧ k_ ≠ gb219 ∧ k_ ≠ gb225) k_ from fun k_ hk => ⟨(Nat.le_trans (below_size qgtrs_0) hk), Kd.fresh' (Kd.N_lt qgtrs_3) k_ hk, Kd.fresh' (Kd.N_lt qgtrs_15) k_ hk, Kd.freshB (g := gb219) (o := .cells #[.slice (some ad220) l0_0.length c0_0, .int .i8 a0_1, .int .i8 a0_2, .int .i8 a0_3, .int .i8 a0_4, .slice A0_5 l0_5.length c0_5, .int .u8 a0_6] 27 (0, 0)) qgtrs_1 k_ hk, Kd.freshB (g := gb225) (o := .cells #[.int .i64 t221, .int .i64 1, .slice Ao17 t222.length co17] 53 (0, 0)) qgtrs_2 k_ hk⟩) _ (Nat.le_refl _)) (Below.refl _ _) (Nat.le_refl _) (by simp) ?_; (case hd => rfl); (case hg => rfl); (case hr => exact qgtrs_20); (case hp => exact (Reps.c3 (show Kd.FK k53 _ _ (⟨t221, 1, t222⟩ : S53) [.int .i64 t221, .int .i64 1, .slice Ao17 t222.length co17] from (k53_mkF _ _ (⟨t221, 1, t222⟩ : S53) (Kd.N_reads' (Kd.N_mono (ok' := (fun k_ => (w.heap.size ≤ k_) ∧ some k_ ≠ (.slice Ao21 x3_1.length co21 : Value).ownBlock ∧ some k_ ≠ (v236 : Value).ownBlock ∧ k_ ≠ gb219 ∧ k_ ≠ gb225)) (HO_226002.out) (fun k_ hk => ⟨hk.1.1, ⟨hk.1.2.1, ⟨hk.2, ⟨hk.1.2.2.1, hk.1.2.2.2⟩⟩⟩⟩))).2.1 (Kd.N_F (Kd.N_mono (ok' := (fun k_ => (w.heap.size ≤ k_) ∧ some k_ ≠ (.slice Ao21 x3_1.length co21 : Value).ownBlock ∧ some k_ ≠ (v236 : Value).ownBlock ∧ k_ ≠ gb219 ∧ k_ ≠ gb225)) (HO_226002.out) (fun k_ hk => ⟨hk.1.1, ⟨hk.1.2.1, ⟨hk.2, ⟨hk.1.2.2.1, hk.1.2.2.2⟩⟩⟩⟩))))) (Reps.none _ _)))
      intro v239 w43 ho44 hb hg_ hnew_
      clear hg_ hnew_
      (first | rw [← Ny238.out] at ho44 | (simp only [Int.reduceToNat] at ho44; rw [← Ny238.out] at ho44))
      have n0_ := Aside0.mk (Kd.N_elder' qgtrs_3 (Kd.N_base ho44) hb)
      have n1_ := Aside0.mk (Kd.V_elder' qgtrs_9 (Kd.N_base ho44) hb)
      have n2_ := Aside0.mk (Kd.V_elder' qgtrs_10 (Kd.N_base ho44) hb)
      have n3_ := Aside0.mk (Kd.N_elder' qgtrs_15 (Kd.N_base ho44) hb)
      have n4_ := Aside0.mk (Kd.N_lower ho44 (below_size qgtrs_0))
      have n5_ := Aside0.mk (blk_below (g := gb219) (o := .cells #[.slice (some ad220) l0_0.length c0_0, .int .i8 a0_1, .int .i8 a0_2, .int .i8 a0_3, .int .i8 a0_4, .slice A0_5 l0_5.length c0_5, .int .u8 a0_6] 27 (0, 0)) qgtrs_1 hb)
      have n6_ := Aside0.mk (blk_below (g := gb225) (o := .cells #[.int .i64 t221, .int .i64 1, .slice Ao17 t222.length co17] 53 (0, 0)) qgtrs_2 hb)
      have n7_ := Aside0.mk (below_step qgtrs_0 hb)
      clear HO_3
      clear HO234
      clear HO248
      clear HO237
      clear BK219
      clear BK225
      clear HB
      clear HO_226002
      have HO_3 := n0_
      have HO234 := n1_
      have HO248 := n2_
      have HO237 := n3_
      have HO240 := n4_
      have BK219 := n5_
      have BK225 := n6_
      have HB := n7_
      clear n0_ n1_ n2_ n3_ n4_ n5_ n6_ n7_
      clear hb ho44
      refine hK.out _ _ ⟨(blk_cell BK225.out 0).trans rfl, (blk_cell BK225.out 1).trans rfl, (blk_cell BK225.out 2).trans rfl⟩ (fun hHeld => ?_)
      clear hK K
      refine norm_ (a' := ?_) ?_ ?_
      rotate_left
      ·show Act.put _ (some 52) _ = _
       simp only [Act.put, List.setIfInBounds_toArray, List.set_cons_zero, List.set_cons_succ, i64_w, i32_w]
       rfl
      exact norm_ qgtrs_13 (hCont (v228, v236, v239) _ ⟨hHeld, (by (with_reducible repeat (first | apply Kd.V_alloc | apply Kd.V_drewN | apply Kd.V_drew)); exact Kd.V_mono HO234.out (fun _ hk => ⟨hk.1.1.1, ⟨hk.1.2, ⟨hk.2, ⟨hk.1.1.2.2.1, hk.1.1.2.2.2⟩⟩⟩⟩)), (by (with_reducible repeat (first | apply Kd.N_alloc | apply Kd.N_drewN | apply Kd.N_drew)); exact Kd.N_mono HO237.out (fun _ hk => ⟨hk.1.1, ⟨hk.2, ⟨hk.1.2.2.1, hk.1.2.2.2⟩⟩⟩)), (by (with_reducible repeat (first | apply Kd.N_alloc | apply Kd.N_drewN | apply Kd.N_drew)); exact Kd.N_mono HO240.out (fun _ hk => ⟨hk.1, ⟨hk.2.2.1, ⟨hk.2.1, ⟨hk.2.2.2.1, hk.2.2.2.2⟩⟩⟩⟩)), (by (with_reducible repeat (first | apply Kd.V_alloc | apply Kd.V_drewN | apply Kd.V_drew)); exact Kd.V_mono HO248.out (fun _ hk => ⟨hk.1.1.1, ⟨hk.1.2, ⟨hk.2, ⟨hk.1.1.2.2.1, hk.1.1.2.2.2⟩⟩⟩⟩)), (by (with_reducible repeat (first | apply Kd.N_alloc | apply Kd.N_drewN | apply Kd.N_drew)); exact Kd.N_mono HO_3.out (fun _ hk => ⟨hk.1.1.1, ⟨hk.1.2, ⟨hk.2, ⟨hk.1.1.2.2.1, hk.1.1.2.2.2⟩⟩⟩⟩)), qgtrs_1, qgtrs_2, qgtrs_0⟩)
     ·skip
      refine Kd.N_lit_step k53 _ 53 ?hg (N' := 52) ?hd (xs := ([(⟨t221, 1, t222⟩ : S53)] : List (S53))) (inner := [.int .i64 t221, .int .i64 1, .slice Ao17 t222.length co17]) (ok := (fun k_ => (w.heap.size ≤ k_) ∧ some k_ ≠ (.slice Ao21 x3_1.length co21 : Value).ownBlock ∧ some k_ ≠ (v228 : Value).ownBlock ∧ k_ ≠ gb219 ∧ k_ ≠ gb225)) (okp := (fun k_ => (w.heap.size ≤ k_) ∧ some k_ ≠ (.slice Ao21 x3_1.length co21 : Value).ownBlock ∧ some k_ ≠ (v228 : Value).ownBlock ∧ k_ ≠ gb219 ∧ k_ ≠ gb225)) ?hr ?hp (fun _ hk => hk) ((show ∀ k_, w40.heap.size ≤ k_ → (fun k_ => (w.heap.size ≤ k_) ∧ some k_ ≠ (.slice Ao21 x3_1.length co21 : Value).ownBlock ∧ some k_ ≠ (v228 : Value).ownBlock ∧ k_ ≠ gb219 ∧ k_ ≠ gb225) k_ from fun k_ hk => ⟨(Nat.le_trans (below_size qgtrs_0) hk), Kd.fresh' (Kd.N_lt qgtrs_3) k_ hk, Kd.fresh' (Kd.N_lt (by (with_reducible repeat (first | apply Kd.N_alloc | apply Kd.N_drewN | apply Kd.N_drew)); exact HO229.out)) k_ hk, Kd.freshB (g := gb219) (o := .cells #[.slice (some ad220) l0_0.length c0_0, .int .i8 a0_1, .int .i8 a0_2, .int .i8 a0_3, .int .i8 a0_4, .slice A0_5 l0_5.length c0_5, .int .u8 a0_6] 27 (0, 0)) qgtrs_1 k_ hk, Kd.freshB (g := gb225) (o := .cells #[.int .i64 t221, .int .i64 1, .slice Ao17 t222.length co17] 53 (0, 0)) qgtrs_2 k_ hk⟩) _ (Nat.le_refl _)) (Below.refl _ _) (Nat.le_refl _) (by simp) ?_; (case hd => rfl); (case hg => rfl); (case hr => exact qgtrs_20); (case hp => exact (Reps.c3 (show Kd.FK k53 _ _ (⟨t221, 1, t222⟩ : S53) [.int .i64 t221, .int .i64 1, .slice Ao17 t222.length co17] from (k53_mkF _ _ (⟨t221, 1, t222⟩ : S53) (Kd.N_reads' (Kd.N_mono (ok' := (fun k_ => (w.heap.size ≤ k_) ∧ some k_ ≠ (.slice Ao21 x3_1.length co21 : Value).ownBlock ∧ some k_ ≠ (v228 : Value).ownBlock ∧ k_ ≠ gb219 ∧ k_ ≠ gb225)) (HO_226002.out) (fun k_ hk => ⟨hk.1.1, ⟨hk.1.2.1, ⟨hk.2, ⟨hk.1.2.2.1, hk.1.2.2.2⟩⟩⟩⟩))).2.1 (Kd.N_F (Kd.N_mono (ok' := (fun k_ => (w.heap.size ≤ k_) ∧ some k_ ≠ (.slice Ao21 x3_1.length co21 : Value).ownBlock ∧ some k_ ≠ (v228 : Value).ownBlock ∧ k_ ≠ gb219 ∧ k_ ≠ gb225)) (HO_226002.out) (fun k_ hk => ⟨hk.1.1, ⟨hk.1.2.1, ⟨hk.2, ⟨hk.1.2.2.1, hk.1.2.2.2⟩⟩⟩⟩))))) (Reps.none _ _)))
      intro v239 w42 ho43 hb hg_ hnew_
      clear hg_ hnew_
      (first | rw [← Ny238.out] at ho43 | (simp only [Int.reduceToNat] at ho43; rw [← Ny238.out] at ho43))
      have n0_ := Aside0.mk (Kd.N_elder' qgtrs_3 (Kd.N_base ho43) hb)
      have n1_ := Aside0.mk (Kd.V_elder' qgtrs_9 (Kd.N_base ho43) hb)
      have n2_ := Aside0.mk (Kd.V_elder' qgtrs_10 (Kd.N_base ho43) hb)
      have n3_ := Aside0.mk (Kd.N_elder' (by (with_reducible repeat (first | apply Kd.N_alloc | apply Kd.N_drewN | apply Kd.N_drew)); exact HO229.out) (Kd.N_base ho43) hb)
      have n4_ := Aside0.mk (Kd.N_lower ho43 (below_size qgtrs_0))
      have n5_ := Aside0.mk (blk_below (g := gb219) (o := .cells #[.slice (some ad220) l0_0.length c0_0, .int .i8 a0_1, .int .i8 a0_2, .int .i8 a0_3, .int .i8 a0_4, .slice A0_5 l0_5.length c0_5, .int .u8 a0_6] 27 (0, 0)) qgtrs_1 hb)
      have n6_ := Aside0.mk (blk_below (g := gb225) (o := .cells #[.int .i64 t221, .int .i64 1, .slice Ao17 t222.length co17] 53 (0, 0)) qgtrs_2 hb)
      have n7_ := Aside0.mk (below_step qgtrs_0 hb)
      clear HO_3
      clear HO234
      clear HO248
      clear HO229
      clear BK219
      clear BK225
      clear HB
      clear HO_226002
      have HO_3 := n0_
      have HO234 := n1_
      have HO248 := n2_
      have HO229 := n3_
      have HO240 := n4_
      have BK219 := n5_
      have BK225 := n6_
      have HB := n7_
      clear n0_ n1_ n2_ n3_ n4_ n5_ n6_ n7_
      clear hb ho43
      refine hK.out _ _ ⟨(blk_cell BK225.out 0).trans rfl, (blk_cell BK225.out 1).trans rfl, (blk_cell BK225.out 2).trans rfl⟩ (fun hHeld => ?_)
      clear hK K
      refine norm_ (a' := ?_) ?_ ?_
      rotate_left
      ·show Act.put _ (some 52) _ = _
       simp only [Act.put, List.setIfInBounds_toArray, List.set_cons_zero, List.set_cons_succ, i64_w, i32_w]
       rfl
      refine one_ (i := 4) (N := some 50) #[T3484, T3484, T3484, T3484, T3484, T3484, T3484, F3484, T3484, T3484, T3484, F3484, F3484] rfl rfl (one_of HT_.out (by kernel_rfl)) (by decide) (fun K hK => ?_)
      refine Kd.N_append_rows_step k53 (w0 := w) w.heap.size (by rfl) (.tmp 46) (.tmp 49) 30 53 (.agg #[(.int .i64 0), (.int .i64 0), (.slice none 0 0)]) 40 rfl Try.underlying30 info53 rfl (by decide) (by omega) v228 y227 y230 _ _ _ (fun k_ => (w.heap.size ≤ k_) ∧ some k_ ≠ (v239 : Value).ownBlock ∧ k_ ≠ gb219 ∧ k_ ≠ gb225) (fun k_ => ((fun k_ => (w.heap.size ≤ k_) ∧ some k_ ≠ (v239 : Value).ownBlock ∧ k_ ≠ gb219 ∧ k_ ≠ gb225)) k_ ∧ some k_ ≠ (v228 : Value).ownBlock) rfl rfl ?aO ?aR (fun _ hk => hk) ?aF ?aB ?aS ?aL ?_
      (case aR => exact (by skip; exact Kd.V_F (Kd.V_mono (ok' := (fun k_ => ((fun k_ => (w.heap.size ≤ k_) ∧ some k_ ≠ (v239 : Value).ownBlock ∧ k_ ≠ gb219 ∧ k_ ≠ gb225)) k_ ∧ some k_ ≠ (v228 : Value).ownBlock)) (HO234.out) (fun k_ hk => ⟨⟨hk.1.1.1, ⟨hk.2, ⟨hk.1.1.2.2.1, hk.1.1.2.2.2⟩⟩⟩, hk.1.2⟩))))
      (case aB => exact qgtrs_0)
      (case aF => exact qgtrs_12)
      (case aO => exact (by (with_reducible repeat (first | apply Kd.N_alloc | apply Kd.N_drewN | apply Kd.N_drew)); exact Kd.N_mono HO229.out (fun _ hk => ⟨hk.1.1, ⟨hk.2, ⟨hk.1.2.2.2.1, hk.1.2.2.2.2⟩⟩⟩)))
      (case aS => exact (below_size qgtrs_0))
      (case aL => have := LMc32.out; omega)
      intro v236 w44 ho hb hg hat
      rw [← Ny235.out] at ho
      have n0_ := Aside0.mk (Kd.N_afterv (ok := (fun k_ => (w.heap.size ≤ k_) ∧ some k_ ≠ (v239 : Value).ownBlock ∧ k_ ≠ gb219 ∧ k_ ≠ gb225)) (by (with_reducible repeat (first | apply Kd.N_alloc | apply Kd.N_drewN | apply Kd.N_drew)); exact Kd.N_mono HO_3.out (fun _ hk => ⟨⟨hk.1.1.1, ⟨hk.2, ⟨hk.1.1.2.2.1, hk.1.1.2.2.2⟩⟩⟩, hk.1.2⟩)) hg hat)
      have n1_ := Aside0.mk (blk_grown (g := gb219) (o := .cells #[.slice (some ad220) l0_0.length c0_0, .int .i8 a0_1, .int .i8 a0_2, .int .i8 a0_3, .int .i8 a0_4, .slice A0_5 l0_5.length c0_5, .int .u8 a0_6] 27 (0, 0)) qgtrs_1 hg (Kd.N_ne HO229.out BK219.out (by decide)))
      have n2_ := Aside0.mk (blk_grown (g := gb225) (o := .cells #[.int .i64 t221, .int .i64 1, .slice Ao17 t222.length co17] 53 (0, 0)) qgtrs_2 hg (Kd.N_away HO229.out (fun _ hk => hk.1.2.2.2.2)))
      have n3_ := Aside0.mk (Kd.V_afterv (ok := (fun k_ => (w.heap.size ≤ k_) ∧ some k_ ≠ (v239 : Value).ownBlock ∧ k_ ≠ gb219 ∧ k_ ≠ gb225)) (by (with_reducible repeat (first | apply Kd.V_alloc | apply Kd.V_drewN | apply Kd.V_drew)); exact Kd.V_mono HO234.out (fun _ hk => ⟨⟨hk.1.1.1, ⟨hk.2, ⟨hk.1.1.2.2.1, hk.1.1.2.2.2⟩⟩⟩, hk.1.2⟩)) hg hat)
      have n4_ := Aside0.mk (Kd.V_afterv (ok := (fun k_ => (w.heap.size ≤ k_) ∧ some k_ ≠ (v239 : Value).ownBlock ∧ k_ ≠ gb219 ∧ k_ ≠ gb225)) (by (with_reducible repeat (first | apply Kd.V_alloc | apply Kd.V_drewN | apply Kd.V_drew)); exact Kd.V_mono HO248.out (fun _ hk => ⟨⟨hk.1.1.1, ⟨hk.2, ⟨hk.1.1.2.2.1, hk.1.1.2.2.2⟩⟩⟩, hk.1.2⟩)) hg hat)
      have n5_ := Aside0.mk (Kd.N_afterv (ok := (fun k_ => (w.heap.size ≤ k_) ∧ some k_ ≠ (.slice Ao21 x3_1.length co21 : Value).ownBlock ∧ k_ ≠ gb219 ∧ k_ ≠ gb225)) (by (with_reducible repeat (first | apply Kd.N_alloc | apply Kd.N_drewN | apply Kd.N_drew)); exact Kd.N_mono HO240.out (fun _ hk => ⟨⟨hk.1, ⟨hk.2.1, ⟨hk.2.2.2.1, hk.2.2.2.2⟩⟩⟩, hk.2.2.1⟩)) hg hat)
      have n6_ := Aside0.mk (hb)
      have n7_ := Aside0.mk (ho)
      clear HO_3
      clear BK219
      clear BK225
      clear HO234
      clear HO248
      clear HO240
      clear HB
      clear HO229
      have HO_3 := n0_
      have BK219 := n1_
      have BK225 := n2_
      have HO234 := n3_
      have HO248 := n4_
      have HO240 := n5_
      have HB := n6_
      have HO237 := n7_
      clear n0_ n1_ n2_ n3_ n4_ n5_ n6_ n7_
      clear ho hb hg hat
      refine hK.out _ _ ⟨(blk_cell BK225.out 0).trans rfl, (blk_cell BK225.out 1).trans rfl, (blk_cell BK225.out 2).trans rfl⟩ (fun hHeld => ?_)
      clear hK K
      refine norm_ (a' := ?_) ?_ ?_
      rotate_left
      ·show Act.put _ (some 50) _ = _
       simp only [Act.put, List.setIfInBounds_toArray, List.set_cons_zero, List.set_cons_succ, i64_w, i32_w]
       rfl
      exact norm_ qgtrs_13 (hCont (v228, v236, v239) _ ⟨hHeld, qgtrs_21, qgtrs_15, qgtrs_22, qgtrs_23, qgtrs_24, qgtrs_1, qgtrs_2, qgtrs_0⟩)
    ·skip
     refine Kd.N_lit_step k53 _ 53 ?hg (N' := 52) ?hd (xs := ([(⟨t221, 1, t222⟩ : S53)] : List (S53))) (inner := [.int .i64 t221, .int .i64 1, .slice Ao17 t222.length co17]) (ok := (fun k_ => (w.heap.size ≤ k_) ∧ some k_ ≠ (.slice Ao21 x3_1.length co21 : Value).ownBlock ∧ k_ ≠ gb219 ∧ k_ ≠ gb225)) (okp := (fun k_ => (w.heap.size ≤ k_) ∧ some k_ ≠ (.slice Ao21 x3_1.length co21 : Value).ownBlock ∧ k_ ≠ gb219 ∧ k_ ≠ gb225)) ?hr ?hp (fun _ hk => hk) ((show ∀ k_, w37.heap.size ≤ k_ → (fun k_ => (w.heap.size ≤ k_) ∧ some k_ ≠ (.slice Ao21 x3_1.length co21 : Value).ownBlock ∧ k_ ≠ gb219 ∧ k_ ≠ gb225) k_ from fun k_ hk => ⟨(Nat.le_trans (below_size qgtrs_0) hk), Kd.fresh' (Kd.N_lt qgtrs_3) k_ hk, Kd.freshB (g := gb219) (o := .cells #[.slice (some ad220) l0_0.length c0_0, .int .i8 a0_1, .int .i8 a0_2, .int .i8 a0_3, .int .i8 a0_4, .slice A0_5 l0_5.length c0_5, .int .u8 a0_6] 27 (0, 0)) qgtrs_1 k_ hk, Kd.freshB (g := gb225) (o := .cells #[.int .i64 t221, .int .i64 1, .slice Ao17 t222.length co17] 53 (0, 0)) qgtrs_2 k_ hk⟩) _ (Nat.le_refl _)) (Below.refl _ _) (Nat.le_refl _) (by simp) ?_; (case hd => rfl); (case hg => rfl); (case hr => exact qgtrs_20); (case hp => exact (Reps.c3 (show Kd.FK k53 _ _ (⟨t221, 1, t222⟩ : S53) [.int .i64 t221, .int .i64 1, .slice Ao17 t222.length co17] from (k53_mkF _ _ (⟨t221, 1, t222⟩ : S53) (Kd.N_reads' (Kd.N_mono (ok' := (fun k_ => (w.heap.size ≤ k_) ∧ some k_ ≠ (.slice Ao21 x3_1.length co21 : Value).ownBlock ∧ k_ ≠ gb219 ∧ k_ ≠ gb225)) (HO_226002.out) (fun k_ hk => ⟨hk.1, ⟨hk.2.1, ⟨hk.2.2.1, hk.2.2.2⟩⟩⟩))).2.1 (Kd.N_F (Kd.N_mono (ok' := (fun k_ => (w.heap.size ≤ k_) ∧ some k_ ≠ (.slice Ao21 x3_1.length co21 : Value).ownBlock ∧ k_ ≠ gb219 ∧ k_ ≠ gb225)) (HO_226002.out) (fun k_ hk => ⟨hk.1, ⟨hk.2.1, ⟨hk.2.2.1, hk.2.2.2⟩⟩⟩))))) (Reps.none _ _)))
     intro v239 w40 ho41 hb hg_ hnew_
     clear hg_ hnew_
     (first | rw [← Ny238.out] at ho41 | (simp only [Int.reduceToNat] at ho41; rw [← Ny238.out] at ho41))
     have n0_ := Aside0.mk (Kd.N_elder' qgtrs_3 (Kd.N_base ho41) hb)
     have n1_ := Aside0.mk (Kd.V_elder' qgtrs_9 (Kd.N_base ho41) hb)
     have n2_ := Aside0.mk (Kd.V_elder' qgtrs_10 (Kd.N_base ho41) hb)
     have n3_ := Aside0.mk (Kd.N_lower ho41 (below_size qgtrs_0))
     have n4_ := Aside0.mk (blk_below (g := gb219) (o := .cells #[.slice (some ad220) l0_0.length c0_0, .int .i8 a0_1, .int .i8 a0_2, .int .i8 a0_3, .int .i8 a0_4, .slice A0_5 l0_5.length c0_5, .int .u8 a0_6] 27 (0, 0)) qgtrs_1 hb)
     have n5_ := Aside0.mk (blk_below (g := gb225) (o := .cells #[.int .i64 t221, .int .i64 1, .slice Ao17 t222.length co17] 53 (0, 0)) qgtrs_2 hb)
     have n6_ := Aside0.mk (below_step qgtrs_0 hb)
     clear HO_3
     clear HO234
     clear HO248
     clear BK219
     clear BK225
     clear HB
     clear HO_226002
     have HO_3 := n0_
     have HO234 := n1_
     have HO248 := n2_
     have HO240 := n3_
     have BK219 := n4_
     have BK225 := n5_
     have HB := n6_
     clear n0_ n1_ n2_ n3_ n4_ n5_ n6_
     clear hb ho41
     refine hK.out _ _ ⟨(blk_cell BK225.out 0).trans rfl, (blk_cell BK225.out 1).trans rfl, (blk_cell BK225.out 2).trans rfl⟩ (fun hHeld => ?_)
     clear hK K
     refine norm_ (a' := ?_) ?_ ?_
     rotate_left
     ·show Act.put _ (some 52) _ = _
      simp only [Act.put, List.setIfInBounds_toArray, List.set_cons_zero, List.set_cons_succ, i64_w, i32_w]
      rfl
     refine one_ (i := 0) (N := some 46) #[T3484, T3484, T3484, T3484, F3484, T3484, T3484, F3484, T3484, T3484, T3484, F3484, F3484] rfl rfl (one_of HT_.out (by kernel_rfl)) (by decide) (fun K hK => ?_)
     refine Kd.N_lit_step k53 _ 53 ?hg (N' := 46) ?hd (xs := ([] : List (S53))) (inner := []) (ok := (fun k_ => (w.heap.size ≤ k_) ∧ some k_ ≠ (.slice Ao21 x3_1.length co21 : Value).ownBlock ∧ some k_ ≠ (v239 : Value).ownBlock ∧ k_ ≠ gb219 ∧ k_ ≠ gb225)) (okp := (fun k_ => (w.heap.size ≤ k_) ∧ some k_ ≠ (.slice Ao21 x3_1.length co21 : Value).ownBlock ∧ some k_ ≠ (v239 : Value).ownBlock ∧ k_ ≠ gb219 ∧ k_ ≠ gb225)) ?hr ?hp (fun _ hk => hk) ((show ∀ k_, w40.heap.size ≤ k_ → (fun k_ => (w.heap.size ≤ k_) ∧ some k_ ≠ (.slice Ao21 x3_1.length co21 : Value).ownBlock ∧ some k_ ≠ (v239 : Value).ownBlock ∧ k_ ≠ gb219 ∧ k_ ≠ gb225) k_ from fun k_ hk => ⟨(Nat.le_trans (below_size qgtrs_0) hk), Kd.fresh' (Kd.N_lt qgtrs_3) k_ hk, Kd.fresh' (Kd.N_lt qgtrs_16) k_ hk, Kd.freshB (g := gb219) (o := .cells #[.slice (some ad220) l0_0.length c0_0, .int .i8 a0_1, .int .i8 a0_2, .int .i8 a0_3, .int .i8 a0_4, .slice A0_5 l0_5.length c0_5, .int .u8 a0_6] 27 (0, 0)) qgtrs_1 k_ hk, Kd.freshB (g := gb225) (o := .cells #[.int .i64 t221, .int .i64 1, .slice Ao17 t222.length co17] 53 (0, 0)) qgtrs_2 k_ hk⟩) _ (Nat.le_refl _)) (Below.refl _ _) (Nat.le_refl _) (by simp) ?_; (case hd => rfl); (case hg => rfl); (case hr => exact qgtrs_20); (case hp => exact (Reps.none _ _))
     intro v228 w42 ho43 hb hg_ hnew_
     clear hg_ hnew_
     (first | rw [← Ny227.out] at ho43 | (simp only [Int.reduceToNat] at ho43; rw [← Ny227.out] at ho43))
     have n0_ := Aside0.mk (Kd.N_elder' qgtrs_3 (Kd.N_base ho43) hb)
     have n1_ := Aside0.mk (Kd.V_elder' qgtrs_9 (Kd.N_base ho43) hb)
     have n2_ := Aside0.mk (Kd.V_elder' qgtrs_10 (Kd.N_base ho43) hb)
     have n3_ := Aside0.mk (Kd.N_elder' qgtrs_16 (Kd.N_base ho43) hb)
     have n4_ := Aside0.mk (Kd.N_lower ho43 (below_size qgtrs_0))
     have n5_ := Aside0.mk (blk_below (g := gb219) (o := .cells #[.slice (some ad220) l0_0.length c0_0, .int .i8 a0_1, .int .i8 a0_2, .int .i8 a0_3, .int .i8 a0_4, .slice A0_5 l0_5.length c0_5, .int .u8 a0_6] 27 (0, 0)) qgtrs_1 hb)
     have n6_ := Aside0.mk (blk_below (g := gb225) (o := .cells #[.int .i64 t221, .int .i64 1, .slice Ao17 t222.length co17] 53 (0, 0)) qgtrs_2 hb)
     have n7_ := Aside0.mk (below_step qgtrs_0 hb)
     clear HO_3
     clear HO234
     clear HO248
     clear HO240
     clear BK219
     clear BK225
     clear HB
     have HO_3 := n0_
     have HO234 := n1_
     have HO248 := n2_
     have HO240 := n3_
     have HO229 := n4_
     have BK219 := n5_
     have BK225 := n6_
     have HB := n7_
     clear n0_ n1_ n2_ n3_ n4_ n5_ n6_ n7_
     clear hb ho43
     refine hK.out _ _ ⟨(blk_cell BK225.out 0).trans rfl, (blk_cell BK225.out 1).trans rfl, (blk_cell BK225.out 2).trans rfl⟩ (fun hHeld => ?_)
     clear hK K
     refine norm_ (a' := ?_) ?_ ?_
     rotate_left
     ·show Act.put _ (some 46) _ = _
      simp only [Act.put, List.setIfInBounds_toArray, List.set_cons_zero, List.set_cons_succ, i64_w, i32_w]
      rfl
     refine one_ (i := 4) (N := some 50) #[T3484, T3484, T3484, T3484, T3484, T3484, T3484, F3484, T3484, T3484, T3484, F3484, F3484] rfl rfl (one_of HT_.out (by kernel_rfl)) (by decide) (fun K hK => ?_)
     refine Kd.N_append_rows_step k53 (w0 := w) w.heap.size (by rfl) (.tmp 46) (.tmp 49) 30 53 (.agg #[(.int .i64 0), (.int .i64 0), (.slice none 0 0)]) 40 rfl Try.underlying30 info53 rfl (by decide) (by omega) v228 y227 y230 _ _ _ (fun k_ => (w.heap.size ≤ k_) ∧ some k_ ≠ (v239 : Value).ownBlock ∧ k_ ≠ gb219 ∧ k_ ≠ gb225) (fun k_ => ((fun k_ => (w.heap.size ≤ k_) ∧ some k_ ≠ (v239 : Value).ownBlock ∧ k_ ≠ gb219 ∧ k_ ≠ gb225)) k_ ∧ some k_ ≠ (v228 : Value).ownBlock) rfl rfl ?aO ?aR (fun _ hk => hk) ?aF ?aB ?aS ?aL ?_
     (case aR => exact (by skip; exact Kd.V_F (Kd.V_mono (ok' := (fun k_ => ((fun k_ => (w.heap.size ≤ k_) ∧ some k_ ≠ (v239 : Value).ownBlock ∧ k_ ≠ gb219 ∧ k_ ≠ gb225)) k_ ∧ some k_ ≠ (v228 : Value).ownBlock)) (HO234.out) (fun k_ hk => ⟨⟨hk.1.1.1, ⟨hk.1.2, ⟨hk.1.1.2.2.1, hk.1.1.2.2.2⟩⟩⟩, hk.2⟩))))
     (case aB => exact qgtrs_0)
     (case aF => exact qgtrs_12)
     (case aO => exact qgtrs_25)
     (case aS => exact (below_size qgtrs_0))
     (case aL => have := LMc32.out; omega)
     intro v236 w44 ho hb hg hat
     rw [← Ny235.out] at ho
     have n0_ := Aside0.mk (Kd.N_afterv (ok := (fun k_ => (w.heap.size ≤ k_) ∧ some k_ ≠ (v239 : Value).ownBlock ∧ k_ ≠ gb219 ∧ k_ ≠ gb225)) (by (with_reducible repeat (first | apply Kd.N_alloc | apply Kd.N_drewN | apply Kd.N_drew)); exact Kd.N_mono HO_3.out (fun _ hk => ⟨⟨hk.1.1.1, ⟨hk.1.2, ⟨hk.1.1.2.2.1, hk.1.1.2.2.2⟩⟩⟩, hk.2⟩)) hg hat)
     have n1_ := Aside0.mk (blk_grown (g := gb219) (o := .cells #[.slice (some ad220) l0_0.length c0_0, .int .i8 a0_1, .int .i8 a0_2, .int .i8 a0_3, .int .i8 a0_4, .slice A0_5 l0_5.length c0_5, .int .u8 a0_6] 27 (0, 0)) qgtrs_1 hg (Kd.N_ne HO229.out BK219.out (by decide)))
     have n2_ := Aside0.mk (blk_grown (g := gb225) (o := .cells #[.int .i64 t221, .int .i64 1, .slice Ao17 t222.length co17] 53 (0, 0)) qgtrs_2 hg (Kd.N_away HO229.out (fun _ hk => hk.2.2.2.2)))
     have n3_ := Aside0.mk (Kd.V_afterv (ok := (fun k_ => (w.heap.size ≤ k_) ∧ some k_ ≠ (v239 : Value).ownBlock ∧ k_ ≠ gb219 ∧ k_ ≠ gb225)) (by (with_reducible repeat (first | apply Kd.V_alloc | apply Kd.V_drewN | apply Kd.V_drew)); exact Kd.V_mono HO234.out (fun _ hk => ⟨⟨hk.1.1.1, ⟨hk.1.2, ⟨hk.1.1.2.2.1, hk.1.1.2.2.2⟩⟩⟩, hk.2⟩)) hg hat)
     have n4_ := Aside0.mk (Kd.V_afterv (ok := (fun k_ => (w.heap.size ≤ k_) ∧ some k_ ≠ (v239 : Value).ownBlock ∧ k_ ≠ gb219 ∧ k_ ≠ gb225)) (by (with_reducible repeat (first | apply Kd.V_alloc | apply Kd.V_drewN | apply Kd.V_drew)); exact Kd.V_mono HO248.out (fun _ hk => ⟨⟨hk.1.1.1, ⟨hk.1.2, ⟨hk.1.1.2.2.1, hk.1.1.2.2.2⟩⟩⟩, hk.2⟩)) hg hat)
     have n5_ := Aside0.mk (Kd.N_afterv (ok := (fun k_ => (w.heap.size ≤ k_) ∧ some k_ ≠ (.slice Ao21 x3_1.length co21 : Value).ownBlock ∧ k_ ≠ gb219 ∧ k_ ≠ gb225)) qgtrs_16 hg hat)
     have n6_ := Aside0.mk (hb)
     have n7_ := Aside0.mk (ho)
     clear HO_3
     clear BK219
     clear BK225
     clear HO234
     clear HO248
     clear HO240
     clear HB
     clear HO229
     have HO_3 := n0_
     have BK219 := n1_
     have BK225 := n2_
     have HO234 := n3_
     have HO248 := n4_
     have HO240 := n5_
     have HB := n6_
     have HO237 := n7_
     clear n0_ n1_ n2_ n3_ n4_ n5_ n6_ n7_
     clear ho hb hg hat
     refine hK.out _ _ ⟨(blk_cell BK225.out 0).trans rfl, (blk_cell BK225.out 1).trans rfl, (blk_cell BK225.out 2).trans rfl⟩ (fun hHeld => ?_)
     clear hK K
     refine norm_ (a' := ?_) ?_ ?_
     rotate_left
     ·show Act.put _ (some 50) _ = _
      simp only [Act.put, List.setIfInBounds_toArray, List.set_cons_zero, List.set_cons_succ, i64_w, i32_w]
      rfl
     exact norm_ qgtrs_13 (hCont (v228, v236, v239) _ ⟨hHeld, qgtrs_21, qgtrs_15, qgtrs_22, qgtrs_23, qgtrs_24, qgtrs_1, qgtrs_2, qgtrs_0⟩)
   rintro ⟨v228, v236, v239⟩ w45 ⟨hS_, h0_, h1_, h2_, h3_, h4_, h5_, h6_, h7_⟩
   have n0_ : Aside0 (Kd.V k53 53 w45 w.heap.size (fun k_ => (w.heap.size ≤ k_) ∧ some k_ ≠ (v236 : Value).ownBlock ∧ some k_ ≠ (v239 : Value).ownBlock ∧ k_ ≠ gb219 ∧ k_ ≠ gb225) (.slice Ao21 y230.length co21) y230) := ⟨h0_⟩
   have n1_ : Aside0 (Kd.N k53 53 w45 w.heap.size (fun k_ => (w.heap.size ≤ k_) ∧ some k_ ≠ (v239 : Value).ownBlock ∧ k_ ≠ gb219 ∧ k_ ≠ gb225) v236 y235) := ⟨h1_⟩
   have n2_ : Aside0 (Kd.N k53 53 w45 w.heap.size (fun k_ => (w.heap.size ≤ k_) ∧ some k_ ≠ (v236 : Value).ownBlock ∧ some k_ ≠ (.slice Ao21 x3_1.length co21 : Value).ownBlock ∧ k_ ≠ gb219 ∧ k_ ≠ gb225) v239 y238) := ⟨h2_⟩
   have n3_ : Aside0 (Kd.V k53 53 w45 w.heap.size (fun k_ => (w.heap.size ≤ k_) ∧ some k_ ≠ (v236 : Value).ownBlock ∧ some k_ ≠ (v239 : Value).ownBlock ∧ k_ ≠ gb219 ∧ k_ ≠ gb225) (.slice A39 y244.length c39) y244) := ⟨h3_⟩
   have n4_ : Aside0 (Kd.N k53 53 w45 w.heap.size (fun k_ => (w.heap.size ≤ k_) ∧ some k_ ≠ (v236 : Value).ownBlock ∧ some k_ ≠ (v239 : Value).ownBlock ∧ k_ ≠ gb219 ∧ k_ ≠ gb225) (.slice Ao21 x3_1.length co21) x3_1) := ⟨h4_⟩
   have n5_ : Aside0 (w45.heap[gb219]? = some (.cells #[.slice (some ad220) l0_0.length c0_0, .int .i8 a0_1, .int .i8 a0_2, .int .i8 a0_3, .int .i8 a0_4, .slice A0_5 l0_5.length c0_5, .int .u8 a0_6] 27 (0, 0))) := ⟨h5_⟩
   have n6_ : Aside0 (w45.heap[gb225]? = some (.cells #[.int .i64 t221, .int .i64 1, .slice Ao17 t222.length co17] 53 (0, 0))) := ⟨h6_⟩
   have n7_ : Aside0 (Below w.heap.size w w45) := ⟨h7_⟩
   clear HO_3
   clear HO_226002
   clear BK219
   clear BK225
   clear HB
   clear h0_ h1_ h2_ h3_ h4_ h5_ h6_ h7_
   have HO234 := n0_
   have HO237 := n1_
   have HO240 := n2_
   have HO248 := n3_
   have HO_3 := n4_
   have BK219 := n5_
   have BK225 := n6_
   have HB := n7_
   clear n0_ n1_ n2_ n3_ n4_ n5_ n6_ n7_
   have hHeld : w45.cell? ⟨gb225, 0, none⟩ = some (.int .i64 t221) ∧ w45.cell? ⟨gb225, 1, none⟩ = some (.int .i64 1) ∧ w45.cell? ⟨gb225, 2, none⟩ = some (.slice Ao17 t222.length co17) := hS_
   obtain ⟨Ao47, co47, eo47⟩ := Kd.N_slice HO240.out
   (first | subst eo47 | (injection eo47 with f1_ f2_ f3_; have f4_ := f1_.symm; have f5_ := f3_.symm; clear f1_ f2_ f3_; subst f4_; subst f5_))
   refine norm_ (a' := ?_) ?_ ?_
   rotate_left
   ·simp only [putAll, Act.put, List.setIfInBounds_toArray, List.set_cons_zero, List.set_cons_succ]
    rfl
   refine one_ (i := 7) (N := some 53) #[T3484, T3484, T3484, T3484, T3484, T3484, T3484, T3484, T3484, T3484, T3484, F3484, F3484] rfl rfl (one_of HT_.out (by kernel_rfl)) (by decide) (fun K hK => ?_)
   refine Kd.N_append_rows_step k53 (w0 := w) w.heap.size (by rfl) (.tmp 50) (.tmp 52) 30 53 (.agg #[(.int .i64 0), (.int .i64 0), (.slice none 0 0)]) 40 rfl Try.underlying30 info53 rfl (by decide) (by omega) v236 y235 y238 _ _ _ (fun k_ => (w.heap.size ≤ k_) ∧ k_ ≠ gb219 ∧ k_ ≠ gb225) (fun k_ => ((fun k_ => (w.heap.size ≤ k_) ∧ k_ ≠ gb219 ∧ k_ ≠ gb225)) k_ ∧ some k_ ≠ (v236 : Value).ownBlock) rfl rfl ?aO ?aR (fun _ hk => hk) ?aF ?aB ?aS ?aL ?_
   (case aR => exact (by skip; exact Kd.N_F (Kd.N_mono (ok' := (fun k_ => ((fun k_ => (w.heap.size ≤ k_) ∧ k_ ≠ gb219 ∧ k_ ≠ gb225)) k_ ∧ some k_ ≠ (v236 : Value).ownBlock)) (HO240.out) (fun k_ hk => ⟨⟨hk.1, ⟨hk.2.2.2.1, hk.2.2.2.2⟩⟩, hk.2.1⟩))))
   (case aB => exact qgtrs_0)
   (case aF => exact qgtrs_14)
   (case aO => exact (by (with_reducible repeat (first | apply Kd.N_alloc | apply Kd.N_drewN | apply Kd.N_drew)); exact Kd.N_mono HO237.out (fun _ hk => ⟨hk.1, ⟨hk.2.2.1, hk.2.2.2⟩⟩)))
   (case aS => exact (below_size qgtrs_0))
   (case aL => have := LMc33.out; omega)
   intro v242 w46 ho hb hg hat
   rw [← Ny241.out] at ho
   have n0_ := Aside0.mk (Kd.N_afterv (ok := (fun k_ => (w.heap.size ≤ k_) ∧ some k_ ≠ (.slice Ao47 y238.length co47 : Value).ownBlock ∧ k_ ≠ gb219 ∧ k_ ≠ gb225)) (by (with_reducible repeat (first | apply Kd.N_alloc | apply Kd.N_drewN | apply Kd.N_drew)); exact Kd.N_mono HO_3.out (fun _ hk => ⟨⟨hk.1, ⟨hk.2.2.1, ⟨hk.2.2.2.1, hk.2.2.2.2⟩⟩⟩, hk.2.1⟩)) hg hat)
   have n1_ := Aside0.mk (blk_grown (g := gb219) (o := .cells #[.slice (some ad220) l0_0.length c0_0, .int .i8 a0_1, .int .i8 a0_2, .int .i8 a0_3, .int .i8 a0_4, .slice A0_5 l0_5.length c0_5, .int .u8 a0_6] 27 (0, 0)) qgtrs_1 hg (Kd.N_ne HO237.out BK219.out (by decide)))
   have n2_ := Aside0.mk (blk_grown (g := gb225) (o := .cells #[.int .i64 t221, .int .i64 1, .slice Ao17 t222.length co17] 53 (0, 0)) qgtrs_2 hg (Kd.N_away HO237.out (fun _ hk => hk.2.2.2)))
   have n3_ := Aside0.mk (Kd.V_afterv (ok := (fun k_ => (w.heap.size ≤ k_) ∧ some k_ ≠ (.slice Ao47 y238.length co47 : Value).ownBlock ∧ k_ ≠ gb219 ∧ k_ ≠ gb225)) (by (with_reducible repeat (first | apply Kd.V_alloc | apply Kd.V_drewN | apply Kd.V_drew)); exact Kd.V_mono HO234.out (fun _ hk => ⟨⟨hk.1, ⟨hk.2.2.1, ⟨hk.2.2.2.1, hk.2.2.2.2⟩⟩⟩, hk.2.1⟩)) hg hat)
   have n4_ := Aside0.mk (Kd.V_afterv (ok := (fun k_ => (w.heap.size ≤ k_) ∧ some k_ ≠ (.slice Ao47 y238.length co47 : Value).ownBlock ∧ k_ ≠ gb219 ∧ k_ ≠ gb225)) (by (with_reducible repeat (first | apply Kd.V_alloc | apply Kd.V_drewN | apply Kd.V_drew)); exact Kd.V_mono HO248.out (fun _ hk => ⟨⟨hk.1, ⟨hk.2.2.1, ⟨hk.2.2.2.1, hk.2.2.2.2⟩⟩⟩, hk.2.1⟩)) hg hat)
   have n5_ := Aside0.mk (Kd.N_afterv (ok := (fun k_ => (w.heap.size ≤ k_) ∧ some k_ ≠ (.slice Ao21 x3_1.length co21 : Value).ownBlock ∧ k_ ≠ gb219 ∧ k_ ≠ gb225)) (by (with_reducible repeat (first | apply Kd.N_alloc | apply Kd.N_drewN | apply Kd.N_drew)); exact Kd.N_mono HO240.out (fun _ hk => ⟨⟨hk.1, ⟨hk.2.2.1, ⟨hk.2.2.2.1, hk.2.2.2.2⟩⟩⟩, hk.2.1⟩)) hg hat)
   have n6_ := Aside0.mk (hb)
   have n7_ := Aside0.mk (ho)
   clear HO_3
   clear BK219
   clear BK225
   clear HO234
   clear HO248
   clear HO240
   clear HB
   clear HO237
   have HO_3 := n0_
   have BK219 := n1_
   have BK225 := n2_
   have HO234 := n3_
   have HO248 := n4_
   have HO240 := n5_
   have HB := n6_
   have HO243 := n7_
   clear n0_ n1_ n2_ n3_ n4_ n5_ n6_ n7_
   clear ho hb hg hat
   refine hK.out _ _ ⟨(blk_cell BK225.out 0).trans rfl, (blk_cell BK225.out 1).trans rfl, (blk_cell BK225.out 2).trans rfl⟩ (fun hHeld => ?_)
   clear hK K
   refine norm_ (a' := ?_) ?_ ?_
   rotate_left
   ·show Act.put _ (some 53) _ = _
    simp only [Act.put, List.setIfInBounds_toArray, List.set_cons_zero, List.set_cons_succ, i64_w, i32_w]
    rfl
   refine one_ (i := 11) (N := some 57) #[T3484, T3484, T3484, T3484, T3484, T3484, T3484, T3484, T3484, T3484, T3484, T3484, F3484] rfl rfl (one_of HT_.out (by kernel_rfl)) (by decide) (fun K hK => ?_)
   refine Kd.N_append_rows_step k53 (w0 := w) w.heap.size (by rfl) (.tmp 53) (.tmp 56) 30 53 (.agg #[(.int .i64 0), (.int .i64 0), (.slice none 0 0)]) 40 rfl Try.underlying30 info53 rfl (by decide) (by omega) v242 y241 y244 _ _ _ (fun k_ => (w.heap.size ≤ k_) ∧ k_ ≠ gb219 ∧ k_ ≠ gb225) (fun k_ => ((fun k_ => (w.heap.size ≤ k_) ∧ k_ ≠ gb219 ∧ k_ ≠ gb225)) k_ ∧ some k_ ≠ (v242 : Value).ownBlock) rfl rfl ?aO ?aR (fun _ hk => hk) ?aF ?aB ?aS ?aL ?_
   (case aR => exact (by skip; exact Kd.V_F (Kd.V_mono (ok' := (fun k_ => ((fun k_ => (w.heap.size ≤ k_) ∧ k_ ≠ gb219 ∧ k_ ≠ gb225)) k_ ∧ some k_ ≠ (v242 : Value).ownBlock)) (HO248.out) (fun k_ hk => ⟨⟨hk.1.1, ⟨hk.1.2.2.1, hk.1.2.2.2⟩⟩, hk.2⟩))))
   (case aB => exact qgtrs_0)
   (case aF => exact qgtrs_14)
   (case aO => exact (by (with_reducible repeat (first | apply Kd.N_alloc | apply Kd.N_drewN | apply Kd.N_drew)); exact HO243.out))
   (case aS => exact (below_size qgtrs_0))
   (case aL => have := LMc36.out; omega)
   intro v250 w48 ho hb hg hat
   rw [← Ny249.out] at ho
   have n0_ := Aside0.mk (Kd.N_afterv (ok := (fun k_ => (w.heap.size ≤ k_) ∧ some k_ ≠ (.slice Ao47 y238.length co47 : Value).ownBlock ∧ k_ ≠ gb219 ∧ k_ ≠ gb225)) qgtrs_3 hg hat)
   have n1_ := Aside0.mk (blk_grown (g := gb219) (o := .cells #[.slice (some ad220) l0_0.length c0_0, .int .i8 a0_1, .int .i8 a0_2, .int .i8 a0_3, .int .i8 a0_4, .slice A0_5 l0_5.length c0_5, .int .u8 a0_6] 27 (0, 0)) qgtrs_1 hg (Kd.N_ne HO243.out BK219.out (by decide)))
   have n2_ := Aside0.mk (blk_grown (g := gb225) (o := .cells #[.int .i64 t221, .int .i64 1, .slice Ao17 t222.length co17] 53 (0, 0)) qgtrs_2 hg (Kd.N_away HO243.out (fun _ hk => hk.2.2)))
   have n3_ := Aside0.mk (Kd.V_afterv (ok := (fun k_ => (w.heap.size ≤ k_) ∧ some k_ ≠ (.slice Ao47 y238.length co47 : Value).ownBlock ∧ k_ ≠ gb219 ∧ k_ ≠ gb225)) qgtrs_9 hg hat)
   have n4_ := Aside0.mk (Kd.V_afterv (ok := (fun k_ => (w.heap.size ≤ k_) ∧ some k_ ≠ (.slice Ao47 y238.length co47 : Value).ownBlock ∧ k_ ≠ gb219 ∧ k_ ≠ gb225)) qgtrs_10 hg hat)
   have n5_ := Aside0.mk (Kd.N_afterv (ok := (fun k_ => (w.heap.size ≤ k_) ∧ some k_ ≠ (.slice Ao21 x3_1.length co21 : Value).ownBlock ∧ k_ ≠ gb219 ∧ k_ ≠ gb225)) qgtrs_16 hg hat)
   have n6_ := Aside0.mk (hb)
   have n7_ := Aside0.mk (ho)
   clear HO_3
   clear BK219
   clear BK225
   clear HO234
   clear HO248
   clear HO240
   clear HB
   clear HO243
   have HO_3 := n0_
   have BK219 := n1_
   have BK225 := n2_
   have HO234 := n3_
   have HO248 := n4_
   have HO240 := n5_
   have HB := n6_
   have HO251 := n7_
   clear n0_ n1_ n2_ n3_ n4_ n5_ n6_ n7_
   clear ho hb hg hat
   refine hK.out _ _ ⟨(blk_cell BK225.out 0).trans rfl, (blk_cell BK225.out 1).trans rfl, (blk_cell BK225.out 2).trans rfl⟩ (fun hHeld => ?_)
   clear hK K
   refine norm_ (a' := ?_) ?_ ?_
   rotate_left
   ·show Act.put _ (some 57) _ = _
    simp only [Act.put, List.setIfInBounds_toArray, List.set_cons_zero, List.set_cons_succ, i64_w, i32_w]
    rfl
   refine pure_ (i := 12) (N := some 3) (v := ?_) (a' := ?_) #[T3484, T3484, T3484, T3484, T3484, T3484, T3484, T3484, T3484, T3484, T3484, T3484, T3484] rfl rfl (any_of HT_.out (by kernel_rfl)) (fun _ _ _ h => h) (Or.inl ⟨by rfl, ?_⟩) ?_ ?_
   rotate_left
   ·intro w'
    go_simp
    with_reducible rfl
   rotate_left
   ·simp only [Act.put, List.setIfInBounds_toArray, List.set_cons_zero, List.set_cons_succ, i64_w, i32_w]
    rfl
   refine done_ (done_of HT_.out (by kernel_rfl)) ?_
   try go_wp2
   go_roundg kj8
   case measure => have := HK1.out; have := HJ8.out; omega
   case rel => exact ⟨(y249), (wrap64 (x4_1 + 1)), qgtrs_18, H', ⟨by have := HK1.out; have := HJ8.out; omega⟩, ⟨by (with_reducible repeat (first | apply Kd.N_alloc | apply Kd.N_drewN | apply Kd.N_drew)); exact Kd.N_mono HO251.out (fun _ hk => ⟨hk.1, hk.2.1⟩)⟩, ⟨qgtrs_1⟩, ⟨qgtrs_0⟩⟩

end Go.Proofs.Ythdifdnjodbdnaa.Q
