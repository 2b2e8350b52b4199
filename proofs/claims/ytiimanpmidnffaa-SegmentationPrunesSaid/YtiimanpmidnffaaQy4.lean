-- Laid by myprint.py (a program of this session's, over the kit's printer and with functions proved by hand)
import Derived.Test.YtiimanpmidnffaaQx0
import Derived.Test.YtiimanpmidnffaaQx9
import Derived.Test.YtiimanpmidnffaaQy2
namespace Go.Proofs.Ytiimanpmidnffaa.Q
open Go.RowKit Go.Proofs.YtiimanpmidnffaaW.PrintWords Go.Proofs.YtiimanpmidnffaaW.PrintLast Go.Proofs.YtiimanpmidnffaaW.PrintMore
attribute [local go_sem] max2_int min2_int max_two min_two max_three min_three max_four min_four   -- for this text's walks alone
set_option linter.unusedVariables false
set_option linter.unusedSimpArgs false

theorem qy4_0 {p : Prop} (h : p := by repeat (first | (with_reducible first | exact HB.out | apply below_alloc | apply pw_below_drewN | apply below_drew1) | exact HB.out)) : p := h
theorem qy4_1 {p : Prop} (h : p := by (with_reducible repeat (first | apply Kd.R_alloc | apply Kd.R_drewN | apply Kd.R_drew)); exact HO_5.out) : p := h
theorem qy4_2 {p : Prop} (h : p := by first | (with_reducible assumption) | assumption) : p := h
/-! ### sleuthlaw44_potentials: function 19 -/
def sleuthlaw44_potentials.l0 : Nat → List Int → Int → List Int → Int → Option (List Int)
 | 0, _, _, _, _ => none
 | k + 1, x0, x1, x5, x6 => if x6 ≤ (x0.length : Int) then (if 0 ≤ x6 then ((sleuthlaw44_best.f k (x0.take (x6 : Int).toNat) x1 (-1)).bind fun bt380 => (if x5.length < 17592186044416 then (sleuthlaw44_potentials.l0 k x0 x1 (x5 ++ [bt380.2]) (wrap64 (x6 + 1))) else (none))) else (none)) else (some x5)
def sleuthlaw44_potentials.f (k : Nat) (l0 : List Int) (a1 : Int) : Option (List Int) := sleuthlaw44_potentials.l0 k l0 a1 (([wrap64 (-a1)] : List Int)) 1
theorem sleuthlaw44_potentials.mono_l : ∀ k, (∀ y0 y1 y2 y3, LeO (sleuthlaw44_potentials.l0 k y0 y1 y2 y3) (sleuthlaw44_potentials.l0 (k + 1) y0 y1 y2 y3))
 | 0 => fun _ _ _ _ r h => by simp [sleuthlaw44_potentials.l0] at h
 | k + 1 => by
  have ih0 := sleuthlaw44_potentials.mono_l k
  ·intro y0 y1 y2 y3
   unfold sleuthlaw44_potentials.l0
   repeat' first
   | (with_reducible exact ih0 _ _ _ _)
   | (with_reducible exact sleuthlaw44_best.mono _ _ _ _)
   | (with_reducible exact LeO.refl _)
   | (with_reducible exact LeO.none _)
   | (with_reducible refine LeO.ite ?_ ?_)
   | (with_reducible refine LeO.bind ?_ (fun _ => ?_))
   | exact ih0 _ _ _ _
   | exact sleuthlaw44_best.mono _ _ _ _
   | exact LeO.none _
   | refine LeO.ite ?_ ?_
   | refine LeO.bind ?_ (fun _ => ?_)
theorem sleuthlaw44_potentials.mono : ∀ a0 a1 k, LeO (sleuthlaw44_potentials.f k a0 a1) (sleuthlaw44_potentials.f (k + 1) a0 a1) := by
 intro a0 a1 k
 have ih0 := sleuthlaw44_potentials.mono_l k
 unfold sleuthlaw44_potentials.f
 repeat' first
   | (with_reducible exact ih0 _ _ _ _)
   | (with_reducible exact sleuthlaw44_best.mono _ _ _ _)
   | (with_reducible exact LeO.refl _)
   | (with_reducible exact LeO.none _)
   | (with_reducible refine LeO.ite ?_ ?_)
   | (with_reducible refine LeO.bind ?_ (fun _ => ?_))
   | exact ih0 _ _ _ _
   | exact sleuthlaw44_best.mono _ _ _ _
   | exact LeO.none _
   | refine LeO.ite ?_ ?_
   | refine LeO.bind ?_ (fun _ => ?_)
set_option maxHeartbeats 8000000 in
set_option maxRecDepth 100000 in
theorem sleuthlaw44_potentials.calls (k : Nat) (A0 : Option Addr) (c0 : Nat) (l0 : List Int) (a1 : Int) (r : List Int) (w : World) (hr0 : Kd.C (Kd.int .i64) w A0 l0.length l0) (hc0 : l0.length ≤ c0) (h : sleuthlaw44_potentials.f k l0 a1 = some r) :
  Calls Try.prog 19 #[.slice A0 l0.length c0, .int .i64 a1] w fun e w' => ∃ v0_ : Value, e = .returned (v0_) ∧ Kd.R (Kd.int .i64) 3 w' w.heap.size (fun _ => True) v0_ r ∧ Below w.heap.size w w' := by
 have hu27 := Try.underlying27
 have hfd27_1 : ∀ (z0_ z1_ : Value) (W : World), (Instr.field 27 (.agg #[z0_, z1_]) 1).run Try.prog W = .ok (z1_) W := fun _ _ _ => by kernel_rfl
 have HR0 := Aside0.mk hr0
 have HC0 := Aside0.mk hc0
 clear hr0 hc0
 have HB := Aside0.mk (Below.refl w.heap.size w)
 have H : (sleuthlaw44_potentials.l0 k l0 a1 (([wrap64 (-a1)] : List Int)) 1) = some r := h
 clear h
 obtain ⟨y376, hy376⟩ : ∃ y_ : List Int, y_ = (([wrap64 (-a1)] : List Int)) := ⟨_, rfl⟩
 replace H : (sleuthlaw44_potentials.l0 k l0 a1 y376 1) = some r := by first | (rw [hy376]; with_reducible exact H) | (have H2_ := (Option.bind_some _ _).symm.trans H; rw [hy376]; with_reducible exact H2_) | (have H2_ := (Option.bind_some _ _).symm.trans H; with_reducible exact H2_) | with_reducible exact H | (rw [hy376]; exact H) | exact H
 have Ny376 := Aside0.mk hy376
 clear hy376
 have H' := Aside0.mk H
 clear H
 go_enter Try.func19, Try.ntmps19
 go_wp2_with (first | ((with_reducible refine gate_dst (N := 9) rfl ?_); refine Kd.R_lit (Kd.int .i64) _ 3 ?hg (N := 9) ?hd (xs := ([wrap64 (-a1)] : List Int)) (inner := [.int .i64 (wrap64 (-a1))]) (ok := fun _ => True) (okp := fun _ => True) ?hr ?hp (fun _ hk => hk) trivial (Below.refl _ _) (Nat.le_refl _) (by simp) ?_; (case hd => rfl); (case hg => rfl); (case hr => first | (go_simp; done) | (go_simp; rfl)); (case hp => exact (Reps.one (show Kd.M (Kd.int .i64) _ _ _ (wrap64 (-a1)) [.int .i64 (wrap64 (-a1))] from rfl) (Reps.none _ _))); intro v377 w3 ho4 hb hg_ hnew_; clear hg_ hnew_; (first | rw [← Ny376.out] at ho4 | (simp only [Int.reduceToNat] at ho4; rw [← Ny376.out] at ho4)); have n0_ := Aside0.mk (Kd.R_lower ho4 (below_size qy4_0)); have n1_ := Aside0.mk (below_step qy4_0 hb); clear HB; have HO378 := n0_; have HB := n1_; clear n0_ n1_; clear hb ho4))
 go_loopg [5, 6] k (fun kq v5 v6 w' => ∃ (x5_1 : List Int) (x6_1 : Int), v6 = .int .i64 x6_1 ∧ Aside0 (sleuthlaw44_potentials.l0 kq l0 a1 x5_1 x6_1 = some r) ∧ Aside0 (kq ≤ k) ∧ Aside0 (Kd.R (Kd.int .i64) 3 w' w.heap.size (fun _ => True) v5 x5_1) ∧ Aside0 (Below w.heap.size w w'))
 case atStart => exact ⟨(y376), (1), (by first | rfl | (simp; done) | (simp [*]; done)), H', ⟨Nat.le_refl _⟩, ⟨by (with_reducible repeat (first | apply Kd.R_alloc | apply Kd.R_drewN | apply Kd.R_drew)); exact HO378.out⟩, ⟨qy4_0⟩⟩
 case round =>
  clear H'
  try clear c1
  try clear p2
  obtain ⟨x5_1, x6_1, rfl, HA, HK1, HO_5, HB⟩ := hrel
  cases gk with
  | zero => exact absurd HA.out (by simp [sleuthlaw44_potentials.l0])
  | succ k1 =>
   have H := HA.out
   clear HA
   simp only [sleuthlaw44_potentials.l0] at H
   by_cases c5 : x6_1 ≤ (l0.length : Int)
   ·rw [if_pos c5] at H
    have c5b0 : decide (x6_1 ≤ (l0.length : Int)) = true := decide_eq_true c5
    clear c5
    by_cases c6 : 0 ≤ x6_1
    ·rw [if_pos c6] at H
     have c6b0 := eq_true c6
     have c6b1 : decide (0 ≤ x6_1) = true := decide_eq_true c6
     clear c6
     have c7b0 := eq_true (of_decide_eq_true qy4_2 : x6_1 ≤ (l0.length : Int))
     replace H := Option.bind_eq_some_iff.mp H
     obtain ⟨⟨t380, t383⟩, A80, H⟩ := H
     replace H : (if x5_1.length < 17592186044416 then (sleuthlaw44_potentials.l0 k1 l0 a1 (x5_1 ++ [t383]) (wrap64 (x6_1 + 1))) else (none)) = some r := H
     have A8 := Aside0.mk A80
     clear A80
     by_cases c9 : x5_1.length < 17592186044416
     ·rw [if_pos c9] at H
      have LMc9 := Aside0.mk c9
      clear c9
      obtain ⟨y384, hy384⟩ : ∃ y_ : List Int, y_ = (x5_1 ++ [t383]) := ⟨_, rfl⟩
      replace H : (sleuthlaw44_potentials.l0 k1 l0 a1 y384 (wrap64 (x6_1 + 1))) = some r := by first | (rw [hy384]; with_reducible exact H) | (have H2_ := (Option.bind_some _ _).symm.trans H; rw [hy384]; with_reducible exact H2_) | (have H2_ := (Option.bind_some _ _).symm.trans H; with_reducible exact H2_) | with_reducible exact H | (rw [hy384]; exact H) | exact H
      have Ny384 := Aside0.mk hy384
      clear hy384
      have H' := Aside0.mk H
      clear H
      obtain ⟨i010, hi010, _, hsz10, _⟩ := info_parts info3
      obtain ⟨hcut10, hA10, hC10⟩ := print_take_of (P := Try.prog) (Value.int .i64) 0 24 3 .i64 Try.underlying24 hi010 hsz10 A0 c0 l0 x6_1 (of_decide_eq_true qy4_2) (of_decide_eq_true qy4_2) HC0.out
      have HR379 := Aside0.mk (Kd.C_of_reads (h1 := fun _ => rfl) (hA10 _ (Kd.reads_of_C HR0.out)))
      have HC379 := Aside0.mk hC10
      clear hA10 hC10 hi010 hsz10
      go_wp2_with (first | ((with_reducible refine gate_callee (f := 16) rfl ?_); refine goesL_ (some 21) rfl rfl Try.func16 (by kernel_rfl) rfl #[.slice A0 (l0.take (x6_1 : Int).toNat).length c0, .int .i64 a1, .int .i64 (-1)] rfl (by (try simp only [List.map_toArray, List.map_cons, List.map_nil]); first | done | (rw [show (l0.take (x6_1 : Int).toNat).length = x6_1.toNat from (by rw [List.length_take]; have h_ : (x6_1 : Int) ≤ (l0.length : Int) := of_decide_eq_true qy4_2; omega)] <;> rfl) | rfl | (simp only [List.length_drop, List.length_take]; rfl)) ?_; (with_reducible refine (sleuthlaw44_best.calls k1 _ _ (l0.take (x6_1 : Int).toNat) a1 (-1) t380 t383 _ ?side1 ?side2 A8.out).mono ?_); (case side1 => repeat (first | exact (Kd.C_below HR379.out HB.out) | (with_reducible refine Kd.C_alloc ?_ _) | (with_reducible refine Kd.C_drewN ?_ _) | (with_reducible refine Kd.C_drew ?_))); (case side2 => exact HC379.out); rintro e w11 ⟨v381, rfl, ho0, hb⟩; refine ⟨_, rfl, ?_⟩; have n0_ := Aside0.mk (Kd.R_elder' qy4_1 (Kd.R_base ho0) hb); have n1_ := Aside0.mk (Kd.R_lower (Kd.R_new' ho0 (Kd.R_lt qy4_1)) (below_size qy4_0)); have n2_ := Aside0.mk (below_step qy4_0 hb); clear HO_5; clear HB; have HO_5 := n0_; have HO382 := n1_; have HB := n2_; clear n0_ n1_ n2_; (try clear hb); (try clear hb2); (try clear hk); (try clear hi); (try clear ho0)) | ((with_reducible refine gate_builtin (b := .append) (xs := #[.tmp 16, .tmp 23]) rfl ?_); at_builtin; refine Kd.R_append (Kd.int .i64) (w0 := w) w.heap.size rfl (.tmp 16) (.tmp 23) 24 3 (.int .i64 0) 8 rfl Try.underlying24 info3 rfl (by decide) (by omega) u5 x5_1 t383 [.int .i64 t383] (fun k_ => some k_ ≠ (v381 : Value).ownBlock) (fun _ => False) rfl rfl ?aP (fun _ hk => hk.elim) ?aF ?aO ?aB ?aS ?aL ?_; (case aP => exact rfl); (case aB => exact qy4_0); (case aF => exact (fun k_ hk => Kd.fresh' (Kd.R_lt (by (with_reducible repeat (first | apply Kd.R_alloc | apply Kd.R_drewN | apply Kd.R_drew)); exact HO382.out)) k_ hk)); (case aO => exact (by (with_reducible repeat (first | apply Kd.R_alloc | apply Kd.R_drewN | apply Kd.R_drew)); exact Kd.R_mono HO_5.out (fun _ hk => hk.2))); (case aS => exact (below_size qy4_0)); (case aL => have := LMc9.out; omega); intro v385 w12 ho hb hg hat; rw [← Ny384.out] at ho; have n0_ := Aside0.mk (Kd.R_after (ok := (fun _ => True)) (by (with_reducible repeat (first | apply Kd.R_alloc | apply Kd.R_drewN | apply Kd.R_drew)); exact HO382.out) hg hat); have n1_ := Aside0.mk (hb); have n2_ := Aside0.mk (ho); clear HO382; clear HB; clear HO_5; have HO382 := n0_; have HB := n1_; have HO386 := n2_; clear n0_ n1_ n2_; clear ho hb hg hat))
      go_roundg k1
      case measure => have := HK1.out; omega
      case rel => exact ⟨(y384), (wrap64 (x6_1 + 1)), (by first | rfl | (simp; done) | (simp [*]; done)), H', ⟨by have := HK1.out; omega⟩, ⟨by (with_reducible repeat (first | apply Kd.R_alloc | apply Kd.R_drewN | apply Kd.R_drew)); exact Kd.R_mono HO386.out (fun _ hk => trivial)⟩, ⟨qy4_0⟩⟩
     ·rw [if_neg c9] at H
      exact absurd H (by simp)
    ·rw [if_neg c6] at H
     exact absurd H (by simp)
   ·rw [if_neg c5] at H
    have c5b0 : decide (x6_1 ≤ (l0.length : Int)) = false := decide_eq_false c5
    clear c5
    obtain rfl := Option.some.inj H
    go_wp2
    go_ret
    exact ⟨_, by first | rfl | (simp [errW_none, errW_some] <;> rfl) | (simp [*, errW_none, errW_some] <;> rfl), qy4_1, qy4_0⟩
end Go.Proofs.Ytiimanpmidnffaa.Q
