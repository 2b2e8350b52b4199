/- sleuthlaw13.Traces: the definition as printed, walked by hand. -/
import Derived.Test.YthdifdnjodbdnaaSt
import Derived.Test.YthdifdnjodbdnaaNws
namespace Go.Proofs.Ythdifdnjodbdnaa.Q
open Go.RowKit Go.Proofs.YthdifdnjodbdnaaW.PrintWords Go.Proofs.YthdifdnjodbdnaaW.PrintLast Go.Proofs.YthdifdnjodbdnaaW.PrintMore
set_option linter.unusedVariables false
set_option linter.unusedSimpArgs false
set_option linter.unusedSimpArgs false
mutual
def sleuthlaw13_Traces.l0 : Nat → List (S53) → Int → List (S104) → Int → Int → Int → Int → List (S193) → Int → Option ((List (S53)))
 | 0, _, _, _, _, _, _, _, _, _ => none
 | k + 1, x3, x4, x220000, x220001, x220002, x220003, x220004, x220005, x220006 => if x4 < (x220000.length : Int) then (if 0 ≤ x4 then (if (((rd_T104 x220000 x4).f2).length : Int) = 0 then (sleuthlaw13_Traces.l0 k x3 (wrap64 (x4 + 1)) x220000 x220001 x220002 x220003 x220004 x220005 x220006) else ((sleuthlaw13_TraceId.f x220000 x220001 x220002 x220003 x220004 x220005 x220006 x4).bind fun t221 => ((sleuthlaw13_Trace.f x220000 x220001 x220002 x220003 x220004 x220005 x220006 x4 false).bind fun t222 => (sleuthlaw13_Traces.l1 k x3 x4 (x3.length : Int) x220000 x220001 x220002 x220003 x220004 x220005 x220006 t221 1 t222)))) else (none)) else (some x3)
def sleuthlaw13_Traces.j2 : Nat → List (S53) → Int → Int → List (S104) → Int → Int → Int → Int → List (S193) → Int → Int → Int → List (S58) → Option ((List (S53)))
 | 0, _, _, _, _, _, _, _, _, _, _, _, _, _ => none
 | k + 1, x3, x4, x6, x220000, x220001, x220002, x220003, x220004, x220005, x220006, x226000, x226001, x226002 => (some (([] : List (S53)) : List (S53))).bind fun y227 => (if 0 ≤ x6 then (if x6 ≤ (x3.length : Int) then ((some (x3.take (x6 : Int).toNat : List (S53))).bind fun y230 => (if y227.length + y230.length < 3518437208883 then ((some (y227 ++ y230 : List (S53))).bind fun y235 => ((some (([(⟨x226000, x226001, x226002⟩ : S53)] : List (S53)) : List (S53))).bind fun y238 => (if y235.length + y238.length < 3518437208883 then ((some (y235 ++ y238 : List (S53))).bind fun y241 => ((some (x3.drop (x6 : Int).toNat : List (S53))).bind fun y244 => (if y241.length + y244.length < 3518437208883 then (sleuthlaw13_Traces.l0 k (y241 ++ y244) (wrap64 (x4 + 1)) x220000 x220001 x220002 x220003 x220004 x220005 x220006) else (none)))) else (none)))) else (none))) else (none)) else (none))
def sleuthlaw13_Traces.l1 : Nat → List (S53) → Int → Int → List (S104) → Int → Int → Int → Int → List (S193) → Int → Int → Int → List (S58) → Option ((List (S53)))
 | 0, _, _, _, _, _, _, _, _, _, _, _, _, _ => none
 | k + 1, x3, x4, x6, x220000, x220001, x220002, x220003, x220004, x220005, x220006, x226000, x226001, x226002 => if x6 > 0 then (if 0 ≤ (wrap64 (x6 - 1)) then (if (wrap64 (x6 - 1)) < (x3.length : Int) then (if ((rd_T53 x3 (wrap64 (x6 - 1))).f0) > x226000 then (sleuthlaw13_Traces.l1 k x3 x4 (wrap64 (x6 - 1)) x220000 x220001 x220002 x220003 x220004 x220005 x220006 x226000 x226001 x226002) else (sleuthlaw13_Traces.j2 k x3 x4 x6 x220000 x220001 x220002 x220003 x220004 x220005 x220006 x226000 x226001 x226002)) else (none)) else (none)) else (sleuthlaw13_Traces.j2 k x3 x4 x6 x220000 x220001 x220002 x220003 x220004 x220005 x220006 x226000 x226001 x226002)
end
def sleuthlaw13_Traces.f (k : Nat) (l0_0 : List (S104)) (a0_1 : Int) (a0_2 : Int) (a0_3 : Int) (a0_4 : Int) (l0_5 : List (S193)) (a0_6 : Int) : Option ((List (S53))) := sleuthlaw13_Traces.l0 k ([] : List (S53)) 0 l0_0 a0_1 a0_2 a0_3 a0_4 l0_5 a0_6
theorem sleuthlaw13_Traces.mono_l : ∀ k, (∀ y0 y1 y2 y3 y4 y5 y6 y7 y8, LeO (sleuthlaw13_Traces.l0 k y0 y1 y2 y3 y4 y5 y6 y7 y8) (sleuthlaw13_Traces.l0 (k + 1) y0 y1 y2 y3 y4 y5 y6 y7 y8)) ∧ (∀ y0 y1 y2 y3 y4 y5 y6 y7 y8 y9 y10 y11 y12, LeO (sleuthlaw13_Traces.j2 k y0 y1 y2 y3 y4 y5 y6 y7 y8 y9 y10 y11 y12) (sleuthlaw13_Traces.j2 (k + 1) y0 y1 y2 y3 y4 y5 y6 y7 y8 y9 y10 y11 y12)) ∧ (∀ y0 y1 y2 y3 y4 y5 y6 y7 y8 y9 y10 y11 y12, LeO (sleuthlaw13_Traces.l1 k y0 y1 y2 y3 y4 y5 y6 y7 y8 y9 y10 y11 y12) (sleuthlaw13_Traces.l1 (k + 1) y0 y1 y2 y3 y4 y5 y6 y7 y8 y9 y10 y11 y12))
 | 0 => ⟨fun _ _ _ _ _ _ _ _ _ r h => by simp [sleuthlaw13_Traces.l0] at h, fun _ _ _ _ _ _ _ _ _ _ _ _ _ r h => by simp [sleuthlaw13_Traces.j2] at h, fun _ _ _ _ _ _ _ _ _ _ _ _ _ r h => by simp [sleuthlaw13_Traces.l1] at h⟩
 | k + 1 => by
  obtain ⟨ih0, ih1, ih2⟩ := sleuthlaw13_Traces.mono_l k
  refine ⟨?_, ?_, ?_⟩
  ·intro y0 y1 y2 y3 y4 y5 y6 y7 y8
   unfold sleuthlaw13_Traces.l0
   repeat' first
   | (with_reducible exact ih0 _ _ _ _ _ _ _ _ _)
   | (with_reducible exact ih1 _ _ _ _ _ _ _ _ _ _ _ _ _)
   | (with_reducible exact ih2 _ _ _ _ _ _ _ _ _ _ _ _ _)
   | (with_reducible exact LeO.refl _)
   | (with_reducible exact LeO.none _)
   | (with_reducible refine LeO.ite ?_ ?_)
   | (with_reducible refine LeO.bind ?_ (fun _ => ?_))
   | exact ih0 _ _ _ _ _ _ _ _ _
   | exact ih1 _ _ _ _ _ _ _ _ _ _ _ _ _
   | exact ih2 _ _ _ _ _ _ _ _ _ _ _ _ _
   | exact LeO.none _
   | refine LeO.ite ?_ ?_
   | refine LeO.bind ?_ (fun _ => ?_)
  ·intro y0 y1 y2 y3 y4 y5 y6 y7 y8 y9 y10 y11 y12
   unfold sleuthlaw13_Traces.j2
   repeat' first
   | (with_reducible exact ih0 _ _ _ _ _ _ _ _ _)
   | (with_reducible exact ih1 _ _ _ _ _ _ _ _ _ _ _ _ _)
   | (with_reducible exact ih2 _ _ _ _ _ _ _ _ _ _ _ _ _)
   | (with_reducible exact LeO.refl _)
   | (with_reducible exact LeO.none _)
   | (with_reducible refine LeO.ite ?_ ?_)
   | (with_reducible refine LeO.bind ?_ (fun _ => ?_))
   | exact ih0 _ _ _ _ _ _ _ _ _
   | exact ih1 _ _ _ _ _ _ _ _ _ _ _ _ _
   | exact ih2 _ _ _ _ _ _ _ _ _ _ _ _ _
   | exact LeO.none _
   | refine LeO.ite ?_ ?_
   | refine LeO.bind ?_ (fun _ => ?_)
  ·intro y0 y1 y2 y3 y4 y5 y6 y7 y8 y9 y10 y11 y12
   unfold sleuthlaw13_Traces.l1
   repeat' first
   | (with_reducible exact ih0 _ _ _ _ _ _ _ _ _)
   | (with_reducible exact ih1 _ _ _ _ _ _ _ _ _ _ _ _ _)
   | (with_reducible exact ih2 _ _ _ _ _ _ _ _ _ _ _ _ _)
   | (with_reducible exact LeO.refl _)
   | (with_reducible exact LeO.none _)
   | (with_reducible refine LeO.ite ?_ ?_)
   | (with_reducible refine LeO.bind ?_ (fun _ => ?_))
   | exact ih0 _ _ _ _ _ _ _ _ _
   | exact ih1 _ _ _ _ _ _ _ _ _ _ _ _ _
   | exact ih2 _ _ _ _ _ _ _ _ _ _ _ _ _
   | exact LeO.none _
   | refine LeO.ite ?_ ?_
   | refine LeO.bind ?_ (fun _ => ?_)
theorem sleuthlaw13_Traces.mono : ∀ a0 a1 a2 a3 a4 a5 a6 k, LeO (sleuthlaw13_Traces.f k a0 a1 a2 a3 a4 a5 a6) (sleuthlaw13_Traces.f (k + 1) a0 a1 a2 a3 a4 a5 a6) := by
 intro a0 a1 a2 a3 a4 a5 a6 k
 obtain ⟨ih0, ih1, ih2⟩ := sleuthlaw13_Traces.mono_l k
 unfold sleuthlaw13_Traces.f
 repeat' first
   | (with_reducible exact ih0 _ _ _ _ _ _ _ _ _)
   | (with_reducible exact ih1 _ _ _ _ _ _ _ _ _ _ _ _ _)
   | (with_reducible exact ih2 _ _ _ _ _ _ _ _ _ _ _ _ _)
   | (with_reducible exact LeO.refl _)
   | (with_reducible exact LeO.none _)
   | (with_reducible refine LeO.ite ?_ ?_)
   | (with_reducible refine LeO.bind ?_ (fun _ => ?_))
   | exact ih0 _ _ _ _ _ _ _ _ _
   | exact ih1 _ _ _ _ _ _ _ _ _ _ _ _ _
   | exact ih2 _ _ _ _ _ _ _ _ _ _ _ _ _
   | exact LeO.none _
   | refine LeO.ite ?_ ?_
   | refine LeO.bind ?_ (fun _ => ?_)
def sleuthlaw13_Traces.T8 : Bool × List (List Nat × List Nat) := (true, [([], []), ([0], [0]), ([1], [1]), ([2], [2]), ([2], [2]), ([4, 2], [2, 4]), ([3, 5, 2], [2, 3, 5]), ([6, 2], [2, 6]), ([7, 2], [2, 7]), ([2], [2]), ([9, 2], [2, 9]), ([8, 10, 2], [2, 8, 10]), ([2, 11], [2, 11])])
def sleuthlaw13_Traces.B8 : List Nat := [0, 1, 3, 7, 7, 23, 63, 127, 255, 7, 519, 2047, 4095]
theorem sleuthlaw13_Traces.tab8 : rtab .any (opsOf Try.f17 8) = sleuthlaw13_Traces.T8 := by kernel_rfl
theorem sleuthlaw13_Traces.bits8 : waitsOk sleuthlaw13_Traces.T8.2 sleuthlaw13_Traces.B8 = true := by kernel_rfl
def sleuthlaw13_Traces.T10 : Bool × List (List Nat × List Nat) := (true, [([], []), ([], []), ([], []), ([1, 2], [1, 2]), ([0, 3], [0, 3]), ([], []), ([5], [5]), ([4, 6, 4], [4, 6]), ([], []), ([], []), ([8, 9], [8, 9]), ([7, 10, 7], [7, 10]), ([11, 11, 0, 1, 2, 3, 4, 5, 6, 7, 8, 9, 10, 11], [1, 8, 11])])
def sleuthlaw13_Traces.B10 : List Nat := [0, 0, 0, 6, 15, 0, 32, 127, 0, 0, 768, 2047, 4095]
theorem sleuthlaw13_Traces.tab10 : rtab .any (opsOf Try.f17 10) = sleuthlaw13_Traces.T10 := by kernel_rfl
theorem sleuthlaw13_Traces.bits10 : waitsOk sleuthlaw13_Traces.T10.2 sleuthlaw13_Traces.B10 = true := by kernel_rfl
abbrev trM (b0 b4 b6 b7 b11 : Bool) : Array Bool := #[b0, true, true, true, b4, true, b6, b7, true, true, true, b11, false]
theorem tr_cells {W : World} {g : Nat} {a b : Int} {v : Value} (h : W.heap[g]? = some (.cells #[.int .i64 a, .int .i64 b, v] 53 (0, 0))) : W.cell? ⟨g, 0, none⟩ = some (.int .i64 a) ∧ W.cell? ⟨g, 1, none⟩ = some (.int .i64 b) ∧ W.cell? ⟨g, 2, none⟩ = some v := ⟨(blk_cell h 0).trans rfl, (blk_cell h 1).trans rfl, (blk_cell h 2).trans rfl⟩
theorem tr_zero {W : World} {g : Nat} (h : W.heap[g]? = some (.cells #[.int .i64 0, .int .i64 0, .slice none 0 0] 53 (0, 0))) (a b v : Value) : ((((W.setCell ⟨g, 0, none⟩ a).setCell ⟨g, 1, none⟩ b).setCell ⟨g, 2, none⟩ v)).heap[g]? = some (.cells #[a, b, v] 53 (0, 0)) :=
  blk_put (blk_put (blk_put h 0 a rfl) 1 b rfl) 2 v rfl
theorem far3S {α : Type} {d : Kd α} {e base g i j l : Nat} {ok : Nat → Prop} {v u1 u2 u3 : Value} {xs : List α} {W : World} (hok : ∀ k, ok k → k ≠ g) (h : Kd.S d e W base ok v xs) : Kd.S d e (((W.setCell ⟨g, i, none⟩ u1).setCell ⟨g, j, none⟩ u2).setCell ⟨g, l, none⟩ u3) base ok v xs := Kd.S_far (p := ⟨g, l, none⟩) (far2S hok h) hok u3
set_option maxHeartbeats 8000000 in
set_option maxRecDepth 100000 in
theorem sleuthlaw13_Traces.calls (k : Nat) (A0 : Option Addr) (c0 : Nat) (l0 : List S104) (o1 o2 o3 o4 : Int) (A5 : Option Addr) (c5 : Nat) (l5 : List S193) (wg : Int) (r : List S53) (w : World)
    (hr0 : Kd.C k104 w A0 l0.length l0) (hc0 : l0.length ≤ c0) (hr5 : Kd.C k193 w A5 l5.length l5) (hc5 : l5.length ≤ c5) (h : sleuthlaw13_Traces.f k l0 o1 o2 o3 o4 l5 wg = some r) :
    Calls Try.prog 17 #[.agg #[.slice A0 l0.length c0, .int .i8 o1, .int .i8 o2, .int .i8 o3, .int .i8 o4, .slice A5 l5.length c5, .int .u8 wg]] w fun e w' => ∃ v0_ : Value, e = .returned (v0_) ∧ Kd.N k53 53 w' w.heap.size (fun k_ => (w.heap.size ≤ k_)) v0_ r ∧ Below w.heap.size w w' := by
  have hu27 := Try.underlying27
  have hu104 := Try.underlying104
  have hu53 := Try.underlying53
  have H0 : Aside0 (sleuthlaw13_Traces.l0 k [] 0 l0 o1 o2 o3 o4 l5 wg = some r) := ⟨h⟩
  have HR0 := Aside0.mk hr0
  have HR5 := Aside0.mk hr5
  have HC0 := Aside0.mk hc0
  have HC5 := Aside0.mk hc5
  clear h hr0 hr5 hc0 hc5
  go_enter Try.func17, Try.ntmps17
  go_upto_region 0 with (fail)
  go_cut [1] (fun v1 we => v1 = .pointer (some ⟨w.heap.size, 0, none⟩) ∧ Aside0 (Below w.heap.size w we) ∧ Aside0 (we.heap[w.heap.size]? = some (.cells (stCells A0 c0 l0 o1 o2 o3 o4 A5 c5 l5 wg) 27 (0, 0))))
  case first =>
    go_wp2
    go_meet
    case rel => exact ⟨rfl, ⟨below_alloc (Below.refl _ _) _⟩, ⟨blk_new _ _⟩⟩
  case rest =>
    obtain ⟨rfl, HW, HX⟩ := hcut
    obtain ⟨wb, rfl⟩ : ∃ x : World, x = wc := ⟨_, rfl⟩
    replace HR0 := Aside0.mk (Kd.C_below HR0.out HW.out)
    replace HR5 := Aside0.mk (Kd.C_below HR5.out HW.out)
    go_wp2
    go_loopg [3, 4] k (fun kq v3 v4 wr => ∃ (x3 : List S53) (i : Int), v4 = .int .i64 i ∧ Aside0 (sleuthlaw13_Traces.l0 kq x3 i l0 o1 o2 o3 o4 l5 wg = some r) ∧ Aside0 (Below wb.heap.size wb wr) ∧ Aside0 (Kd.N k53 53 wr wb.heap.size (fun k => wb.heap.size ≤ k) v3 x3))
    case atStart => exact ⟨[], 0, rfl, H0, ⟨Below.refl _ _⟩, ⟨Kd.N_nil _ _ _ _ _⟩⟩
    case round =>
      clear H0
      obtain ⟨x3, i, rfl, HH, HB, HO⟩ := hrel
      cases gk with
      | zero => exact absurd HH.out (by simp [sleuthlaw13_Traces.l0])
      | succ k1 =>
      have H := HH.out
      clear HH
      simp only [sleuthlaw13_Traces.l0] at H
      obtain ⟨b0, b1, b2, b3, b4, b5, b6⟩ := st_cells (blk_below HX.out HB.out)
      by_cases hi : i < (l0.length : Int)
      rotate_left
      · rw [if_neg hi] at H
        have hib := decide_eq_false hi
        obtain rfl := Option.some.inj H
        clear hi
        go_wp2
        go_ret
        exact ⟨_, rfl, Kd.N_mono (Kd.N_lower HO.out (below_size HW.out)) (fun k hk => Nat.le_trans (below_size HW.out) hk), below_step HW.out HB.out⟩
      rw [if_pos hi] at H
      by_cases h0 : 0 ≤ i
      rotate_left
      · rw [if_neg h0] at H; cases H
      rw [if_pos h0] at H
      have hib := decide_eq_true hi
      obtain ⟨ad, A2, c2, hA0, t0, t1, t2, hc2, hr2⟩ := at_T104 (Kd.C_below HR0.out HB.out) i h0 hi
      subst hA0
      have d0 := eq_true h0
      have d1 := eq_true hi
      clear hi h0 hc2 hr2
      by_cases hz : (((rd_T104 l0 i).f2).length : Int) = 0
      · rw [if_pos hz] at H
        have HN := Aside0.mk H
        have hzb : ((((rd_T104 l0 i).f2).length : Int) == 0) = true := beq_iff_eq.mpr hz
        clear H hz
        go_wp2
        go_roundg k1
        case measure => omega
        case rel => exact ⟨x3, _, rfl, HN, HB, HO⟩
      rw [if_neg hz] at H
      have hzb : ((((rd_T104 l0 i).f2).length : Int) == 0) = false := beq_eq_false_iff_ne.mpr hz
      clear hz
      obtain ⟨id, ht, H⟩ := Option.bind_eq_some_iff.1 H
      obtain ⟨sp, hs, H⟩ := Option.bind_eq_some_iff.1 H
      have HT := Aside0.mk ht
      have HS := Aside0.mk hs
      have HN := Aside0.mk H
      clear ht hs H
      go_upto_region 6 with (fail)
      go_cut [5] (fun v5 we => ∃ (g : Nat) (A27 : Option Addr) (c27 : Nat), v5 = .pointer (some ⟨g, 0, none⟩) ∧ Aside0 (wr.heap.size ≤ g) ∧ Aside0 (Below wr.heap.size wr we) ∧ Aside0 (we.heap[g]? = some (.cells #[.int .i64 id, .int .i64 1, .slice A27 sp.length c27] 53 (0, 0))) ∧ Aside0 (Kd.S k58 58 we wr.heap.size (fun k => wr.heap.size ≤ k ∧ k ≠ g) (.slice A27 sp.length c27) sp))
      case first =>
        go_region_held3 (fun w' => (w'.cell? ⟨w.heap.size, 0, none⟩ = some (.slice (some ad) l0.length c0) ∧ w'.cell? ⟨w.heap.size, 1, none⟩ = some (.int .i8 o1) ∧ w'.cell? ⟨w.heap.size, 2, none⟩ = some (.int .i8 o2) ∧ w'.cell? ⟨w.heap.size, 3, none⟩ = some (.int .i8 o3) ∧ w'.cell? ⟨w.heap.size, 4, none⟩ = some (.int .i8 o4) ∧ w'.cell? ⟨w.heap.size, 5, none⟩ = some (.slice A5 l5.length c5) ∧ w'.cell? ⟨w.heap.size, 6, none⟩ = some (.int .u8 wg)) ∧ Aside0 (Below wr.heap.size wr w'))
          (first | (go_keep; done) | ((repeat' apply And.intro) <;> (first | exact pw_cell_below (w := wr) (by repeat' (with_reducible first | exact Below.refl _ _ | exact Nat.le_refl _ | apply below_alloc | apply below_drew1 | refine below_set ?_ ?_ | refine below_size ?_ | refine below_step ?_ (by assumption))) (by assumption) | exact ⟨by repeat' (with_reducible first | exact Below.refl _ _ | exact Nat.le_refl _ | apply below_alloc | apply below_drew1 | refine below_set ?_ ?_ | refine below_size ?_ | refine below_step ?_ (by assumption))⟩)))
          (first
            | (go_at_call 41; (with_reducible refine (sleuthlaw13_TraceId.calls _ _ l0 o1 o2 o3 o4 _ _ l5 wg i id _ ?x1 ?x2 ?x3 ?x4 HT.out).mono ?_); (case x1 => go_split_ands; exact Kd.C_below (Kd.C_below HR0.out HB.out) (Aside0.out (by assumption))); (case x2 => exact HC0.out); (case x3 => go_split_ands; exact Kd.C_below (Kd.C_below HR5.out HB.out) (Aside0.out (by assumption))); (case x4 => exact HC5.out); rintro e w' ⟨rfl, hb⟩; (try have hx : w'.heap[wr.heap.size]? = some (.cells #[.int .i64 0, .int .i64 0, .slice none 0 0] 53 (0, 0)) := blk_below (w := (wr.alloc (.cells #[.int .i64 0, .int .i64 0, .slice none 0 0] 53 (0, 0))).drew) (blk_new wr _) hb))
            | (go_at_call 42; (with_reducible refine (sleuthlaw13_Trace.calls _ _ l0 o1 o2 o3 o4 _ _ l5 wg i false sp _ ?x1 ?x2 ?x3 ?x4 HS.out).mono ?_); (case x1 => go_split_ands; exact Kd.C_below (Kd.C_below HR0.out HB.out) (Aside0.out (by assumption))); (case x2 => exact HC0.out); (case x3 => go_split_ands; exact Kd.C_below (Kd.C_below HR5.out HB.out) (Aside0.out (by assumption))); (case x4 => exact HC5.out); rintro e w' ⟨v27, rfl, h27, hb2⟩; obtain ⟨A27, c27, hv27⟩ := Kd.S_slice h27; subst hv27; (try (have hx2 := blk_below (blk_new _ _) hb2; obtain ⟨z0, z1, z2⟩ := tr_cells hx2; have f0 := blk_frozen hx2 0; have f1 := blk_frozen hx2 1; have f2 := blk_frozen hx2 2)); (try (have hx2 := blk_below hx hb2; obtain ⟨z0, z1, z2⟩ := tr_cells hx2; have f0 := blk_frozen hx2 0; have f1 := blk_frozen hx2 1; have f2 := blk_frozen hx2 2))))
        all_goals
          (try go_wp2)
          go_meet
          case rel =>
            refine ⟨_, A27, c27, rfl, ⟨below_size (by repeat' (with_reducible first | exact Below.refl _ _ | exact Nat.le_refl _ | apply below_alloc | apply below_drew1 | refine below_set ?_ ?_ | refine below_size ?_ | refine below_step ?_ (by assumption)))⟩, ⟨(by repeat' (with_reducible first | exact Below.refl _ _ | exact Nat.le_refl _ | apply below_alloc | apply below_drew1 | refine below_set ?_ ?_ | refine below_size ?_ | refine below_step ?_ (by assumption)))⟩, ?_⟩
            first
              | (with_reducible exact ⟨⟨blk_new _ _⟩, ⟨Kd.S_alloc (Kd.S_mono (Kd.S_lower (Kd.S_bound h27) (below_size (by repeat' (with_reducible first | exact Below.refl _ _ | exact Nat.le_refl _ | apply below_alloc | apply below_drew1 | refine below_set ?_ ?_ | refine below_size ?_ | refine below_step ?_ (by assumption))))) (fun k hk => ⟨Nat.le_trans (below_size (by repeat' (with_reducible first | exact Below.refl _ _ | exact Nat.le_refl _ | apply below_alloc | apply below_drew1 | refine below_set ?_ ?_ | refine below_size ?_ | refine below_step ?_ (by assumption)))) hk.2.1, Nat.ne_of_lt hk.2.2.1⟩)) _⟩⟩)
              | exact ⟨⟨tr_zero hx2 _ _ _⟩, ⟨far3S (fun k hk => hk.2) (Kd.S_mono (Kd.S_lower (Kd.S_bound h27) (below_size (by repeat' (with_reducible first | exact Below.refl _ _ | exact Nat.le_refl _ | apply below_alloc | apply below_drew1 | refine below_set ?_ ?_ | refine below_size ?_ | refine below_step ?_ (by assumption))))) (fun k hk => ⟨Nat.le_trans (below_size (by repeat' (with_reducible first | exact Below.refl _ _ | exact Nat.le_refl _ | apply below_alloc | apply below_drew1 | refine below_set ?_ ?_ | refine below_size ?_ | refine below_step ?_ (by assumption)))) hk.2.1, Nat.ne_of_gt (Nat.lt_of_lt_of_le (blk_lt hx) hk.2.1)⟩))⟩⟩
              | exact ⟨⟨tr_zero hx2 _ _ _⟩, ⟨far3S (fun k hk => hk.2) (Kd.S_mono (Kd.S_lower (Kd.S_bound h27) (below_size (by repeat' (with_reducible first | exact Below.refl _ _ | exact Nat.le_refl _ | apply below_alloc | apply below_drew1 | refine below_set ?_ ?_ | refine below_size ?_ | refine below_step ?_ (by assumption))))) (fun k hk => ⟨Nat.le_trans (below_size (by repeat' (with_reducible first | exact Below.refl _ _ | exact Nat.le_refl _ | apply below_alloc | apply below_drew1 | refine below_set ?_ ?_ | refine below_size ?_ | refine below_step ?_ (by assumption)))) hk.2.1, Nat.ne_of_gt (Nat.lt_of_lt_of_le (blk_lt (blk_new _ _)) hk.2.1)⟩))⟩⟩
      case rest =>
        obtain ⟨g, A27, c27, rfl, HG, HB1, HX5, HS5⟩ := hcut
        clear HT HS b0 b1 b2 b3 b4 b5 b6 t0 t1 t2 hzb hib
        obtain ⟨A3, c3, hv3⟩ := Kd.N_slice HO.out
        subst hv3
        have HT5 : Aside0 (Below wr.heap.size wr wc ∧ wc.heap[g]? = some (.cells #[.int .i64 id, .int .i64 1, .slice A27 sp.length c27] 53 (0, 0)) ∧ Kd.S k58 58 wc wr.heap.size (fun k => wr.heap.size ≤ k ∧ k ≠ g) (.slice A27 sp.length c27) sp) := ⟨HB1.out, HX5.out, HS5.out⟩
        clear HB1 HX5 HS5
        go_upto_block 2 with (fail)
        go_cut [6] (fun v6 we => ∃ (kq : Nat) (n : Int), v6 = .int .i64 n ∧ Aside0 (kq < k1 ∧ sleuthlaw13_Traces.j2 kq x3 i n l0 o1 o2 o3 o4 l5 wg id 1 sp = some r) ∧ Aside0 (Below wr.heap.size wr we ∧ we.heap[g]? = some (.cells #[.int .i64 id, .int .i64 1, .slice A27 sp.length c27] 53 (0, 0)) ∧ Kd.S k58 58 we wr.heap.size (fun k => wr.heap.size ≤ k ∧ k ≠ g) (.slice A27 sp.length c27) sp))
        case first =>
          go_wp2
          go_loopg [6] k1 (fun kq v6 wq => ∃ n : Int, v6 = .int .i64 n ∧ Aside0 (kq ≤ k1 ∧ sleuthlaw13_Traces.l1 kq x3 i n l0 o1 o2 o3 o4 l5 wg id 1 sp = some r) ∧ Aside0 (Below wr.heap.size wr wq ∧ wq.heap[g]? = some (.cells #[.int .i64 id, .int .i64 1, .slice A27 sp.length c27] 53 (0, 0)) ∧ Kd.S k58 58 wq wr.heap.size (fun k => wr.heap.size ≤ k ∧ k ≠ g) (.slice A27 sp.length c27) sp))
          case atStart => exact ⟨_, rfl, ⟨Nat.le_refl _, HN.out⟩, HT5⟩
          case round =>
            clear HN HT5
            obtain ⟨n, rfl, HH, HT5⟩ := hrel
            obtain ⟨hkq, H⟩ := HH.out
            clear HH
            cases gk with
            | zero => exact absurd H (by simp [sleuthlaw13_Traces.l1])
            | succ k2 =>
            simp only [sleuthlaw13_Traces.l1] at H
            by_cases hp : n > 0
            · rw [if_pos hp] at H
              have hpb : decide (0 < n) = true := decide_eq_true hp
              obtain ⟨m, hm⟩ : ∃ m, wrap64 (n - 1) = m := ⟨_, rfl⟩
              rw [hm] at H
              have hw : IntKind.i64.wrap (n - 1) = m := by rw [i64_w]; exact hm
              by_cases h0 : 0 ≤ m
              rotate_left
              · rw [if_neg h0] at H; cases H
              rw [if_pos h0] at H
              by_cases h1 : m < (x3.length : Int)
              rotate_left
              · rw [if_neg h1] at H; cases H
              rw [if_pos h1] at H
              obtain ⟨ad3, A4, c4, hA3, y0, _, _, _, _⟩ := at_T53 (Kd.C_below (Kd.N_reads' HO.out).2.2 HT5.out.1) m h0 h1
              subst hA3
              have z0 := (tr_cells HT5.out.2.1).1
              have hlt : k2 < k1 := hkq
              have d2 := eq_true h0
              have d3 := eq_true h1
              clear h0 h1 hp hkq hm
              by_cases hc : (rd_T53 x3 m).f0 > id
              · rw [if_pos hc] at H
                have hcb : decide (id < (rd_T53 x3 m).f0) = true := decide_eq_true hc
                have HN := Aside0.mk H
                have HLT := Aside0.mk hlt
                clear hc H hlt
                go_wp2
                go_region_held3 (fun w' => w'.cell? (ad3.add (m.toNat * 3)) = some (.int .i64 (rd_T53 x3 m).f0) ∧ w'.cell? ⟨g, 0, none⟩ = some (.int .i64 id)) (go_keep) (fail)
                (try go_wp2)
                go_roundg k2
                case measure => omega
                case rel => exact ⟨_, rfl, ⟨Nat.le_of_lt HLT.out, HN.out⟩, ⟨below_drew1 HT5.out.1, blk_drew HT5.out.2.1, Kd.S_drew HT5.out.2.2⟩⟩
              · rw [if_neg hc] at H
                have hcb : decide (id < (rd_T53 x3 m).f0) = false := decide_eq_false hc
                have HN := Aside0.mk H
                have HLT := Aside0.mk hlt
                clear hc H hlt
                go_wp2
                go_region_held3 (fun w' => w'.cell? (ad3.add (m.toNat * 3)) = some (.int .i64 (rd_T53 x3 m).f0) ∧ w'.cell? ⟨g, 0, none⟩ = some (.int .i64 id)) (go_keep) (fail)
                (try go_wp2)
                go_meet
                case rel => exact ⟨_, _, rfl, ⟨HLT.out, HN.out⟩, ⟨below_drew1 HT5.out.1, blk_drew HT5.out.2.1, Kd.S_drew HT5.out.2.2⟩⟩
            · rw [if_neg hp] at H
              have hpb : decide (0 < n) = false := decide_eq_false hp
              have HN := Aside0.mk H
              have HLT : Aside0 (k2 < k1) := ⟨hkq⟩
              clear hp H hkq
              go_wp2
              go_quiet (fail)
              (try go_wp2)
              go_meet
              case rel => exact ⟨_, _, rfl, ⟨HLT.out, HN.out⟩, ⟨below_step HT5.out.1 (pw_below_drewN (Below.refl _ _) _), blk_below HT5.out.2.1 (pw_below_drewN (Below.refl _ _) _), Kd.S_below HT5.out.2.2 (pw_below_drewN (Below.refl _ _) _)⟩⟩
        case rest =>
          obtain ⟨kq, n, rfl, HJ, HT6⟩ := hcut
          clear HN HT5
          obtain ⟨hkq, H⟩ := HJ.out
          have HLT := Aside0.mk hkq
          clear HJ hkq
          cases kq with
          | zero => exact absurd H (by simp [sleuthlaw13_Traces.j2])
          | succ kq =>
          simp only [sleuthlaw13_Traces.j2, Option.bind_some] at H
          by_cases h0 : 0 ≤ n
          rotate_left
          · rw [if_neg h0] at H; cases H
          rw [if_pos h0] at H
          by_cases h1 : n ≤ (x3.length : Int)
          rotate_left
          · rw [if_neg h1] at H; cases H
          rw [if_pos h1] at H
          split at H
          case isFalse => cases H
          rename_i hm1
          split at H
          case isFalse => cases H
          rename_i hm2
          split at H
          case isFalse => cases H
          rename_i hm3
          go_wp2
          have HR3 : Kd.N k53 53 wc.drew wb.heap.size (fun k => wb.heap.size ≤ k ∧ k < wc.drew.heap.size) (.slice A3 x3.length c3) x3 := Kd.N_bound (Kd.N_drew (Kd.N_below HO.out HT6.out.1))
          have hroom : x3.length ≤ c3 := (Kd.N_reads' HR3).2.1
          have hnt : n.toNat ≤ x3.length := by omega
          obtain ⟨i3, hi3, _, hsz3, _⟩ := info_parts info53
          have hcT := cut_to (P := Try.prog) 30 53 .i64 Try.underlying30 hi3 A3 x3.length c3 n h0 h1 hroom
          have hcF := cut_from (P := Try.prog) 30 53 .i64 Try.underlying30 hi3 3 hsz3 A3 x3.length c3 n h0 h1
          have hFT := Kd.F_take (m := n.toNat) (Kd.N_F HR3) hnt
          have hFD := Kd.F_cut (m := n.toNat) (c := c3) (Kd.N_F HR3) hnt hroom
          have hlT : (x3.take n.toNat).length = n.toNat := by rw [List.length_take]; omega
          have hlD : (x3.drop n.toNat).length = x3.length - n.toNat := List.length_drop
          obtain ⟨T, hT⟩ : ∃ T, x3.take n.toNat = T := ⟨_, rfl⟩
          obtain ⟨D, hD⟩ : ∃ D, x3.drop n.toNat = D := ⟨_, rfl⟩
          rw [hT] at H hm1 hm2 hm3 hFT hlT
          rw [hD] at H hm3 hFD hlD
          rw [← hlT] at hcT
          obtain ⟨AD, hAD⟩ : ∃ AD, (if c3 = n.toNat then A3 else A3.map (·.add (n.toNat * k53.sz))) = AD := ⟨_, rfl⟩
          rw [hAD] at hFD
          rw [show (if c3 = n.toNat then A3 else A3.map (·.add (n.toNat * 3))) = AD from hAD, ← hlD] at hcF
          obtain ⟨z0, z1, z2⟩ := tr_cells HT6.out.2.1
          have HFT := Aside0.mk hFT
          have HFD := Aside0.mk hFD
          have HN := Aside0.mk H
          have HM1 := Aside0.mk hm1
          have HM2 := Aside0.mk hm2
          have HM3 := Aside0.mk hm3
          have HLO : Aside0 (wb.heap.size ≤ wc.drew.heap.size) := ⟨below_size (below_drew1 (below_step HB.out HT6.out.1))⟩
          have HX5 := Aside0.mk (blk_drew HT6.out.2.1)
          have HSP := Aside0.mk (Kd.S_F (Kd.S_mono (ok' := fun k => wb.heap.size ≤ k ∧ k < wc.drew.heap.size) (Kd.S_bound (Kd.S_drew HT6.out.2.2)) (fun k hk => ⟨Nat.le_trans (below_size HB.out) hk.1.1, hk.2.2.1⟩)))
          have HSL := Aside0.mk (Kd.S_reads' HT6.out.2.2).2.1
          have HBW := Aside0.mk (below_drew1 (below_step HB.out HT6.out.1))
          have d2 := eq_true h0
          have d3 := eq_true h1
          clear hFT hFD H hm1 hm2 hm3 h0 h1 hT hD hlT hlD hAD HR3 hroom hnt hi3 hsz3
          refine start_ (n := 13) (S := fun w' => w'.cell? ⟨g, 0, none⟩ = some (.int .i64 id) ∧ w'.cell? ⟨g, 1, none⟩ = some (.int .i64 1) ∧ w'.cell? ⟨g, 2, none⟩ = some (.slice A27 sp.length c27)) (ds := []) #[false, false, false, false, false, false, false, false, false, false, false, false, false] (by kernel_rfl) rfl rfl ⟨z0, z1, z2⟩ (fun hHeld => ?_)
          refine with_tabW sleuthlaw13_Traces.tab10 sleuthlaw13_Traces.bits10 (fun HT_ HW_ => ?_)
          clear z0 z1 z2 HT6
          generalize wc.drew = W0 at HFT HFD HX5 HSP HLO HBW hHeld ⊢
          refine pC_ 1 47 HT_ ?_
          refine pC_ 2 48 HT_ ?_
          refine pC_ 3 49 HT_ ?_
          refine pC_ 8 54 HT_ ?_
          refine pC_ 9 55 HT_ ?_
          refine pC_ 10 56 HT_ ?_
          refine tC_ 5 51 HT_ HW_ hHeld ?_
          have SF : ∀ w' {L : List (Value × List S53)}, Aside0 (Nws k53 53 wb.heap.size W0 L w') → w'.cell? ⟨g, 0, none⟩ = some (.int .i64 id) ∧ w'.cell? ⟨g, 1, none⟩ = some (.int .i64 1) ∧ w'.cell? ⟨g, 2, none⟩ = some (.slice A27 sp.length c27) := fun w' L h => tr_cells ((h.out.b.block g (blk_lt HX5.out)).trans HX5.out)
          have hTR : ∀ w' {L : List (Value × List S53)}, Aside0 (Nws k53 53 wb.heap.size W0 L w') → Reps (Kd.FK k53 w' (fun k => wb.heap.size ≤ k ∧ k < W0.heap.size)) 3 [(⟨id, 1, sp⟩ : S53)] [.int .i64 id, .int .i64 1, .slice A27 sp.length c27] := fun w' L h => Reps.c3 (k53_mkF _ _ (⟨id, 1, sp⟩ : S53) HSL.out (Kd.F_step HSP.out (fun k hk _ => h.out.b.block k hk.2))) (Reps.none _ _)
          have HR4 : Aside0 (Nws k53 53 wb.heap.size W0 [(.slice none 0 0, []), (.slice none 0 0, [])] W0) := ⟨Nws.nil_ (Nws.nil_ Nws.start)⟩
          refine join_ (σ := Value × Value × Value) 3 (trM true true true false false) (fun s_ => [(46, s_.1), (50, s_.2.1), (52, s_.2.2)]) (fun s_ w' => (w'.cell? ⟨g, 0, none⟩ = some (.int .i64 id) ∧ w'.cell? ⟨g, 1, none⟩ = some (.int .i64 1) ∧ w'.cell? ⟨g, 2, none⟩ = some (.slice A27 sp.length c27)) ∧ Aside0 (Nws k53 53 wb.heap.size W0 [(s_.2.1, [] ++ T), (s_.2.2, [⟨id, 1, sp⟩])] w')) ?_ ?_
          rotate_left
          · intro hJ
            refine two_ (i := 0) (j := 6) (Ni := some 46) (Nj := some 52) (trM true false false false false) (trM false false true false false) rfl rfl rfl rfl (two_of HT_.out (by kernel_rfl)) (by decide) (by decide) (fun K hK => ?_) (fun K hK => ?_)
            · refine ltN_ HR4 0 46 HLO.out (xs := []) (inner := []) (Reps.none _ _) (fun a w5 HR5 => ?_)
              refine hK.out _ _ (SF _ HR5) (fun hHeld => nm_ ?_)
              refine two_ (i := 4) (j := 6) (Ni := some 50) (Nj := some 52) (trM true true false false false) (trM true false true false false) rfl rfl rfl rfl (two_of HT_.out (by kernel_rfl)) (by decide) (by decide) (fun K hK => ?_) (fun K hK => ?_)
              · refine apC_N (.tmp 46) (.tmp 49) 30 (.agg #[.int .i64 0, .int .i64 0, .slice none 0 0]) 40 0 50 HR5 HLO.out rfl rfl HFT.out rfl (by have := HM1.out; omega) (fun b w6 HR6 => ?_) Try.underlying30 info53
                refine hK.out _ _ (SF _ HR6) (fun hHeld => nm_ ?_)
                refine one_ (i := 6) (N := some 52) (trM true true true false false) rfl rfl (one_of HT_.out (by kernel_rfl)) (by decide) (fun K hK => ?_)
                refine ltN_ HR6 1 52 HLO.out (xs := [⟨id, 1, sp⟩]) (inner := [.int .i64 id, .int .i64 1, .slice A27 sp.length c27]) (hTR _ HR6) (fun d w7 HR7 => ?_)
                exact hK.out _ _ (SF _ HR7) (fun hHeld => nm_ (hJ (a, b, d) _ ⟨hHeld, HR7⟩))
              · refine ltN_ HR5 1 52 HLO.out (xs := [⟨id, 1, sp⟩]) (inner := [.int .i64 id, .int .i64 1, .slice A27 sp.length c27]) (hTR _ HR5) (fun d w6 HR6 => ?_)
                refine hK.out _ _ (SF _ HR6) (fun hHeld => nm_ ?_)
                refine one_ (i := 4) (N := some 50) (trM true true true false false) rfl rfl (one_of HT_.out (by kernel_rfl)) (by decide) (fun K hK => ?_)
                refine apC_N (.tmp 46) (.tmp 49) 30 (.agg #[.int .i64 0, .int .i64 0, .slice none 0 0]) 40 0 50 HR6 HLO.out rfl rfl HFT.out rfl (by have := HM1.out; omega) (fun b w7 HR7 => ?_) Try.underlying30 info53
                exact hK.out _ _ (SF _ HR7) (fun hHeld => nm_ (hJ (a, b, d) _ ⟨hHeld, HR7⟩))
            · refine ltN_ HR4 1 52 HLO.out (xs := [⟨id, 1, sp⟩]) (inner := [.int .i64 id, .int .i64 1, .slice A27 sp.length c27]) (hTR _ HR4) (fun d w5 HR5 => ?_)
              refine hK.out _ _ (SF _ HR5) (fun hHeld => nm_ ?_)
              refine one_ (i := 0) (N := some 46) (trM true false true false false) rfl rfl (one_of HT_.out (by kernel_rfl)) (by decide) (fun K hK => ?_)
              refine ltN_ HR5 0 46 HLO.out (xs := []) (inner := []) (Reps.none _ _) (fun a w6 HR6 => ?_)
              refine hK.out _ _ (SF _ HR6) (fun hHeld => nm_ ?_)
              refine one_ (i := 4) (N := some 50) (trM true true true false false) rfl rfl (one_of HT_.out (by kernel_rfl)) (by decide) (fun K hK => ?_)
              refine apC_N (.tmp 46) (.tmp 49) 30 (.agg #[.int .i64 0, .int .i64 0, .slice none 0 0]) 40 0 50 HR6 HLO.out rfl rfl HFT.out rfl (by have := HM1.out; omega) (fun b w7 HR7 => ?_) Try.underlying30 info53
              exact hK.out _ _ (SF _ HR7) (fun hHeld => nm_ (hJ (a, b, d) _ ⟨hHeld, HR7⟩))
          clear HR4 hHeld
          rintro ⟨a, b, d⟩ W2 ⟨hHeld, HR5⟩
          refine nm_ ?_
          refine one_ (i := 7) (N := some 53) (trM true true true true false) rfl rfl (one_of HT_.out (by kernel_rfl)) (by decide) (fun K hK => ?_)
          refine apN_ (.tmp 50) (.tmp 52) 30 (.agg #[.int .i64 0, .int .i64 0, .slice none 0 0]) 40 1 0 53 HR5 HLO.out rfl rfl rfl rfl (by have := HM2.out; omega) (fun q w6 HR6 => ?_) Try.underlying30 info53
          refine hK.out _ _ (SF _ HR6) (fun hHeld => nm_ ?_)
          refine one_ (i := 11) (N := some 57) (trM true true true true true) rfl rfl (one_of HT_.out (by kernel_rfl)) (by decide) (fun K hK => ?_)
          refine apC_N (.tmp 53) (.tmp 56) 30 (.agg #[.int .i64 0, .int .i64 0, .slice none 0 0]) 40 0 57 HR6 HLO.out rfl rfl HFD.out rfl (by have := HM3.out; omega) (fun q w7 HR7 => ?_) Try.underlying30 info53
          refine hK.out _ _ (SF _ HR7) (fun hHeld => nm_ ?_)
          refine pC_ 12 3 HT_ ?_
          refine done_ (done_of HT_.out (by kernel_rfl)) ?_
          (try go_wp2)
          go_roundg kq
          case measure => have := HLT.out; omega
          case rel => exact ⟨_, wrap64 (i + 1), rfl, HN, ⟨below_step HBW.out (Below.mono HR7.out.b (Nat.le_refl _))⟩, ⟨HR7.out.out 0 rfl HLO.out⟩⟩
end Go.Proofs.Ythdifdnjodbdnaa.Q
