-- Laid by myprint.py (a program of this session's, over the kit's printer and with functions proved by hand)
import Derived.Test.YtiimanpmidnffaaQx0
import Derived.Test.YtiimanpmidnffaaQx1
import Derived.Test.YtiimanpmidnffaaQx2
import Derived.Test.YtiimanpmidnffaaQx5
namespace Go.Proofs.Ytiimanpmidnffaa.Q
open Go.RowKit Go.Proofs.YtiimanpmidnffaaW.PrintWords Go.Proofs.YtiimanpmidnffaaW.PrintLast Go.Proofs.YtiimanpmidnffaaW.PrintMore
attribute [local go_sem] max2_int min2_int max_two min_two max_three min_three max_four min_four   -- for this text's walks alone
set_option linter.unusedVariables false
set_option linter.unusedSimpArgs false

theorem qx6_0 {p : Prop} (h : p := by repeat (first | (with_reducible first | exact HB.out | apply below_alloc | apply pw_below_drewN | apply below_drew1) | exact HB.out)) : p := h
theorem qx6_1 {p : Prop} (h : p := by (try simp only [List.map_toArray, List.map_cons, List.map_nil]); first | done | rfl | (simp only [List.length_drop, List.length_take]; rfl)) : p := h
theorem qx6_2 {p : Prop} (h : p := by repeat (first | exact HR0.out | (with_reducible refine Kd.C_alloc ?_ _) | (with_reducible refine Kd.C_drewN ?_ _) | (with_reducible refine Kd.C_drew ?_))) : p := h
theorem qx6_3 {p : Prop} (h : p := by first | (with_reducible assumption) | assumption) : p := h
theorem qx6_4 {p : Prop} (h : p := by first | rfl | (simp; done) | (simp [*]; done)) : p := h
theorem qx6_5 {p : Prop} (h : p := by first | rfl | (simp [errW_none, errW_some] <;> rfl) | (simp [*, errW_none, errW_some] <;> rfl)) : p := h
theorem qx6_6 {p : Prop} (h : p := by repeat (first | exact HR2.out | (with_reducible refine Kd.C_alloc ?_ _) | (with_reducible refine Kd.C_drewN ?_ _) | (with_reducible refine Kd.C_drew ?_))) : p := h
theorem qx6_7 {p : Prop} (h : p := by (with_reducible repeat (first | apply Kd.V_alloc | apply Kd.V_drewN | apply Kd.V_drew)); exact HO_0.out) : p := h
theorem qx6_8 {p : Prop} (h : p := by repeat (first | (with_reducible exact HR260_0.out) | (with_reducible refine Kd.C_alloc ?_ _) | (with_reducible refine Kd.C_drewN ?_ _) | (with_reducible refine Kd.C_drew ?_) | exact HR260_0.out)) : p := h
/-! ### segmentation_parts: function 42 -/
def segmentation_parts.l0 : Nat → List Int → List (List Int) → Int → List Int → Int → Int → Option ((List (List Int)))
 | 0, _, _, _, _, _, _ => none
 | k + 1, x0, x5, x6, x9, x10, x11 => if x11 < x10 then (if 0 ≤ x11 then (if x11 < (x9.length : Int) then (if 0 ≤ x6 then (if x6 ≤ (rd x9 x11) then (if (rd x9 x11) ≤ (x0.length : Int) then (if x5.length < 5864062014805 then (segmentation_parts.l0 k x0 (x5 ++ [((x0.take ((rd x9 x11) : Int).toNat).drop (x6 : Int).toNat)]) (rd x9 x11) x9 x10 (wrap64 (x11 + 1))) else (none)) else (none)) else (none)) else (none)) else (none)) else (none)) else (if 0 ≤ x6 then (if x6 ≤ (x0.length : Int) then (if x5.length < 5864062014805 then (some (x5 ++ [(x0.drop (x6 : Int).toNat)])) else (none)) else (none)) else (none))
def segmentation_parts.f (k : Nat) (l0 : List Int) (l1 : List Int) : Option ((List (List Int))) := segmentation_parts.l0 k l0 ([] : List (List Int)) 0 l1 (l1.length : Int) 0
theorem segmentation_parts.mono_l : ∀ k, (∀ y0 y1 y2 y3 y4 y5, LeO (segmentation_parts.l0 k y0 y1 y2 y3 y4 y5) (segmentation_parts.l0 (k + 1) y0 y1 y2 y3 y4 y5))
 | 0 => fun _ _ _ _ _ _ r h => by simp [segmentation_parts.l0] at h
 | k + 1 => by
  have ih0 := segmentation_parts.mono_l k
  ·intro y0 y1 y2 y3 y4 y5
   unfold segmentation_parts.l0
   repeat' first
   | (with_reducible exact ih0 _ _ _ _ _ _)
   | (with_reducible exact LeO.refl _)
   | (with_reducible exact LeO.none _)
   | (with_reducible refine LeO.ite ?_ ?_)
   | (with_reducible refine LeO.bind ?_ (fun _ => ?_))
   | exact ih0 _ _ _ _ _ _
   | exact LeO.none _
   | refine LeO.ite ?_ ?_
   | refine LeO.bind ?_ (fun _ => ?_)
theorem segmentation_parts.mono : ∀ a0 a1 k, LeO (segmentation_parts.f k a0 a1) (segmentation_parts.f (k + 1) a0 a1) := by
 intro a0 a1 k
 have ih0 := segmentation_parts.mono_l k
 unfold segmentation_parts.f
 repeat' first
   | (with_reducible exact ih0 _ _ _ _ _ _)
   | (with_reducible exact LeO.refl _)
   | (with_reducible exact LeO.none _)
   | (with_reducible refine LeO.ite ?_ ?_)
   | (with_reducible refine LeO.bind ?_ (fun _ => ?_))
   | exact ih0 _ _ _ _ _ _
   | exact LeO.none _
   | refine LeO.ite ?_ ?_
   | refine LeO.bind ?_ (fun _ => ?_)
set_option maxHeartbeats 8000000 in
set_option maxRecDepth 100000 in
theorem segmentation_parts.calls (k : Nat) (P0_ : Nat → Prop) (A0 : Option Addr) (c0 : Nat) (l0 : List Int) (A1 : Option Addr) (c1 : Nat) (l1 : List Int) (r : List (List Int)) (w : World) (hs0 : Kd.V (Kd.int .i64) 3 w w.heap.size (fun k_ => P0_ k_) (.slice A0 l0.length c0) l0) (hr1 : Kd.C (Kd.int .i64) w A1 l1.length l1) (hc1 : l1.length ≤ c1) (h : segmentation_parts.f k l0 l1 = some r) :
  Calls Try.prog 42 #[.slice A0 l0.length c0, .slice A1 l1.length c1] w fun e w' => ∃ v0_ : Value, e = .returned (v0_) ∧ Kd.N (Kd.slice 3 (Kd.int .i64)) 24 w' w.heap.size (fun k_ => (P0_ k_ ∨ w.heap.size ≤ k_)) v0_ r ∧ Below w.heap.size w w' := by
 have HO0 := Aside0.mk (show Kd.V (Kd.int .i64) 3 w w.heap.size (fun k_ => (P0_ k_ ∨ w.heap.size ≤ k_)) (.slice A0 l0.length c0) l0 from Kd.V_mono hs0 (fun k_ hk => .inl hk))
 have HR1 := Aside0.mk hr1
 have HC1 := Aside0.mk hc1
 clear hr1 hc1
 have HB := Aside0.mk (Below.refl w.heap.size w)
 have H : (segmentation_parts.l0 k l0 ([] : List (List Int)) 0 l1 (l1.length : Int) 0) = some r := h
 clear h
 have H' := Aside0.mk H
 clear H
 go_enter Try.func42, Try.ntmps42
 go_wp2
 go_loopg [5, 6, 11] k (fun kq v5 v6 v11 w' => ∃ (x5_1 : List (List Int)) (x6_1 : Int) (x11_1 : Int), v6 = .int .i64 x6_1 ∧ v11 = .int .i64 x11_1 ∧ Aside0 (segmentation_parts.l0 kq l0 x5_1 x6_1 l1 (l1.length : Int) x11_1 = some r) ∧ Aside0 (kq ≤ k) ∧ Aside0 (Kd.V (Kd.int .i64) 3 w' w.heap.size (fun k_ => (P0_ k_ ∨ w.heap.size ≤ k_) ∧ some k_ ≠ (v5 : Value).ownBlock) (.slice A0 l0.length c0) l0) ∧ Aside0 (Kd.N (Kd.slice 3 (Kd.int .i64)) 24 w' w.heap.size (fun k_ => (P0_ k_ ∨ w.heap.size ≤ k_)) v5 x5_1) ∧ Aside0 (Below w.heap.size w w'))
 case atStart => exact ⟨(([] : List (List Int))), (0), (0), qx6_4, qx6_4, H', ⟨Nat.le_refl _⟩, ⟨by (with_reducible repeat (first | apply Kd.V_alloc | apply Kd.V_drewN | apply Kd.V_drew)); exact Kd.V_mono HO0.out (fun _ hk => ⟨hk, (by simp [Value.ownBlock])⟩)⟩, ⟨by first | exact Kd.S_nil _ _ _ _ _ | exact Kd.N_nil _ _ _ _ _ | exact Kd.V_nil _ _ _ _ _ | exact Kd.Q_nil _ _ _ _ _ | exact Kd.R_nil _ _ _ _ _⟩, ⟨qx6_0⟩⟩
 case round =>
  clear H'
  try clear c1
  try clear p2
  obtain ⟨x5_1, x6_1, x11_1, rfl, rfl, HA, HK1, HO_0, HO_5, HB⟩ := hrel
  cases gk with
  | zero => exact absurd HA.out (by simp [segmentation_parts.l0])
  | succ k1 =>
   have H := HA.out
   clear HA
   simp only [segmentation_parts.l0] at H
   by_cases c3 : x11_1 < (l1.length : Int)
   ·rw [if_pos c3] at H
    have c3b0 : decide (x11_1 < (l1.length : Int)) = true := decide_eq_true c3
    clear c3
    by_cases c4 : 0 ≤ x11_1
    ·rw [if_pos c4] at H
     have c4b0 : decide (0 ≤ x11_1) = true := decide_eq_true c4
     clear c4
     by_cases c5 : x11_1 < (l1.length : Int)
     ·rw [if_pos c5] at H
      have c5b0 : decide (x11_1 < (l1.length : Int)) = true := decide_eq_true c5
      clear c5
      by_cases c6 : 0 ≤ x6_1
      ·rw [if_pos c6] at H
       have c6b0 := eq_true c6
       have c6b1 : decide (0 ≤ x6_1) = true := decide_eq_true c6
       clear c6
       by_cases c7 : x6_1 ≤ (rd l1 x11_1)
       ·rw [if_pos c7] at H
        have c7b0 := eq_true c7
        have c7b1 : decide (x6_1 ≤ (rd l1 x11_1)) = true := decide_eq_true c7
        clear c7
        by_cases c8 : (rd l1 x11_1) ≤ (l0.length : Int)
        ·rw [if_pos c8] at H
         have c8b0 := eq_true c8
         have c8b1 : decide ((rd l1 x11_1) ≤ (l0.length : Int)) = true := decide_eq_true c8
         clear c8
         obtain ⟨y232, hy232⟩ : ∃ y_ : List Int, y_ = ((l0.take ((rd l1 x11_1) : Int).toNat).drop (x6_1 : Int).toNat) := ⟨_, rfl⟩
         replace H : (if x5_1.length < 5864062014805 then (segmentation_parts.l0 k1 l0 (x5_1 ++ [y232]) (rd l1 x11_1) l1 (l1.length : Int) (wrap64 (x11_1 + 1))) else (none)) = some r := by first | (rw [hy232]; with_reducible exact H) | (have H2_ := (Option.bind_some _ _).symm.trans H; rw [hy232]; with_reducible exact H2_) | (have H2_ := (Option.bind_some _ _).symm.trans H; with_reducible exact H2_) | with_reducible exact H | (rw [hy232]; exact H) | exact H
         have Ny232 := Aside0.mk hy232
         clear hy232
         by_cases c9 : x5_1.length < 5864062014805
         ·rw [if_pos c9] at H
          have LMc9 := Aside0.mk c9
          clear c9
          obtain ⟨y237, hy237⟩ : ∃ y_ : List (List Int), y_ = (x5_1 ++ [y232]) := ⟨_, rfl⟩
          replace H : (segmentation_parts.l0 k1 l0 y237 (rd l1 x11_1) l1 (l1.length : Int) (wrap64 (x11_1 + 1))) = some r := by first | (rw [hy237]; with_reducible exact H) | (have H2_ := (Option.bind_some _ _).symm.trans H; rw [hy237]; with_reducible exact H2_) | (have H2_ := (Option.bind_some _ _).symm.trans H; with_reducible exact H2_) | with_reducible exact H | (rw [hy237]; exact H) | exact H
          have Ny237 := Aside0.mk hy237
          clear hy237
          have H' := Aside0.mk H
          clear H
          have p231 : 0 ≤ (x11_1 : Int) := of_decide_eq_true qx6_3
          have q231 : x11_1 < (l1.length : Int) := of_decide_eq_true qx6_3
          obtain ⟨ad231, e231, hx231_0⟩ := Kd.at_int HR1.out x11_1 p231 q231
          cases e231
          replace hx231_0 := (HB.out.cell (World.block_lt_of_cell? w _ hx231_0)).trans hx231_0
          replace p231 := eq_true p231
          replace q231 := eq_true q231
          have q10 : ((rd l1 x11_1) : Int) ≤ ((l0.length : Int) : Int) := of_decide_eq_true qx6_3
          obtain ⟨i010, hi010, _, hsz10, _⟩ := info_parts info3
          have hroom10 : l0.length ≤ c0 := (Kd.V_reads' HO_0.out).2.1
          have hC10 : Kd.F (Kd.int .i64) _ _ A0 l0.length l0 := (Kd.V_at (base := w.heap.size) HO_0.out).2.2
          have ql10 : (x6_1 : Int) ≤ ((rd l1 x11_1) : Int) := of_decide_eq_true qx6_3
          have q010 : (0 : Int) ≤ (x6_1 : Int) := of_decide_eq_true qx6_3
          have hcut10 := cut_mid (P := Try.prog) 24 3 .i64 .i64 Try.underlying24 hi010 1 hsz10 A0 l0.length c0 x6_1 (rd l1 x11_1) q010 ql10 q10 hroom10
          have hr10 := Kd.F_mid (lo := (x6_1 : Int).toNat) (hi := ((rd l1 x11_1) : Int).toNat) (c := c0) hC10 (by omega) (by omega) hroom10
          obtain ⟨A10, hA10⟩ : ∃ A1, A1 = (if c0 = (x6_1 : Int).toNat then A0 else (A0 : Option Addr).map (·.add ((x6_1 : Int).toNat * 1))) := ⟨_, rfl⟩
          obtain ⟨c10, hc10⟩ : ∃ c1, c1 = c0 - (x6_1 : Int).toNat := ⟨_, rfl⟩
          have hy10 : y232.length = ((rd l1 x11_1) : Int).toNat - (x6_1 : Int).toNat := (by rw [Ny232.out, List.length_drop, List.length_take] <;> omega)
          rw [show ((l0).take ((rd l1 x11_1) : Int).toNat).drop (x6_1 : Int).toNat = y232 from Ny232.out.symm] at hr10
          replace hr10 : Kd.F (Kd.int .i64) _ _ A10 y232.length y232 := (by rw [hA10]; exact hr10)
          rw [← hy10, ← hA10, ← hc10] at hcut10
          have HO236 := Aside0.mk (show Kd.V (Kd.int .i64) 3 _ w.heap.size _ (.slice A10 y232.length c10) y232 from Kd.V_mk (by rw [hy10, hc10]; exact Nat.sub_le_sub_right (Nat.le_trans (by omega) hroom10) _) hr10)
          have HC236 := Aside0.mk (show y232.length ≤ c10 from by rw [hy10, hc10]; exact Nat.sub_le_sub_right (Nat.le_trans (by omega) hroom10) _)
          clear hr10 hC10 hroom10 hi010 hsz10 hc10
          have KY10 := Aside0.mk hy10
          have KA10 := Aside0.mk hA10
          clear hy10 hA10
          replace q10 := eq_true q10
          go_wp2_with (first | ((with_reducible refine gate_builtin (b := .append) (xs := #[.tmp 15, .tmp 20]) rfl ?_); at_builtin; refine Kd.N_append (Kd.slice 3 (Kd.int .i64)) (w0 := w) w.heap.size rfl (.tmp 15) (.tmp 20) 57 24 (.slice none 0 0) 24 rfl Try.underlying57 info24 rfl (by decide) (by omega) u5 x5_1 y232 [.slice A10 y232.length c10] (fun k_ => (P0_ k_ ∨ w.heap.size ≤ k_)) (fun k_ => ((fun k_ => (P0_ k_ ∨ w.heap.size ≤ k_))) k_ ∧ some k_ ≠ (u5 : Value).ownBlock) rfl rfl ?aP (fun _ hk => hk) ?aF ?aO ?aB ?aS ?aL ?_; (case aP => exact (Kd.FK_slice_mk (Kd.V_reads' (Kd.V_mono (ok' := (fun k_ => ((fun k_ => (P0_ k_ ∨ w.heap.size ≤ k_))) k_ ∧ some k_ ≠ (u5 : Value).ownBlock)) (HO236.out) (fun k_ hk => ⟨hk.1, hk.2⟩))).2.1 (Kd.V_F (Kd.V_mono (ok' := (fun k_ => ((fun k_ => (P0_ k_ ∨ w.heap.size ≤ k_))) k_ ∧ some k_ ≠ (u5 : Value).ownBlock)) (HO236.out) (fun k_ hk => ⟨hk.1, hk.2⟩))))); (case aB => exact qx6_0); (case aF => exact (fun k_ hk => (.inr (Nat.le_trans (below_size qx6_0) hk)))); (case aO => exact (by (with_reducible repeat (first | apply Kd.N_alloc | apply Kd.N_drewN | apply Kd.N_drew)); exact HO_5.out)); (case aS => exact (below_size qx6_0)); (case aL => have := LMc9.out; omega); intro v238 w11 ho hb hg hat; rw [← Ny237.out] at ho; have n0_ := Aside0.mk (Kd.V_afterv (ok := (fun k_ => (P0_ k_ ∨ w.heap.size ≤ k_))) qx6_7 hg hat); have n1_ := Aside0.mk (Kd.V_afterv (ok := (fun k_ => (P0_ k_ ∨ w.heap.size ≤ k_))) (by (with_reducible repeat (first | apply Kd.V_alloc | apply Kd.V_drewN | apply Kd.V_drew)); exact HO236.out) hg hat); have n2_ := Aside0.mk (hb); have n3_ := Aside0.mk (ho); clear HO_0; clear HO236; clear HB; clear HO_5; have HO_0 := n0_; have HO236 := n1_; have HB := n2_; have HO239 := n3_; clear n0_ n1_ n2_ n3_; clear ho hb hg hat))
          go_roundg k1
          case measure => have := HK1.out; omega
          case rel => exact ⟨(y237), (rd l1 x11_1), (wrap64 (x11_1 + 1)), qx6_4, qx6_4, H', ⟨by have := HK1.out; omega⟩, ⟨qx6_7⟩, ⟨by (with_reducible repeat (first | apply Kd.N_alloc | apply Kd.N_drewN | apply Kd.N_drew)); exact HO239.out⟩, ⟨qx6_0⟩⟩
         ·rw [if_neg c9] at H
          exact absurd H (by simp)
        ·rw [if_neg c8] at H
         exact absurd H (by simp)
       ·rw [if_neg c7] at H
        exact absurd H (by simp)
      ·rw [if_neg c6] at H
       exact absurd H (by simp)
     ·rw [if_neg c5] at H
      exact absurd H (by simp)
    ·rw [if_neg c4] at H
     exact absurd H (by simp)
   ·rw [if_neg c3] at H
    have c3b0 : decide (x11_1 < (l1.length : Int)) = false := decide_eq_false c3
    clear c3
    by_cases c12 : 0 ≤ x6_1
    ·rw [if_pos c12] at H
     have c12b0 := eq_true c12
     have c12b1 : decide (0 ≤ x6_1) = true := decide_eq_true c12
     clear c12
     by_cases c13 : x6_1 ≤ (l0.length : Int)
     ·rw [if_pos c13] at H
      have c13b0 := eq_true c13
      have c13b1 : decide (x6_1 ≤ (l0.length : Int)) = true := decide_eq_true c13
      clear c13
      obtain ⟨y240, hy240⟩ : ∃ y_ : List Int, y_ = (l0.drop (x6_1 : Int).toNat) := ⟨_, rfl⟩
      replace H : (if x5_1.length < 5864062014805 then (some (x5_1 ++ [y240])) else (none)) = some r := by first | (rw [hy240]; with_reducible exact H) | (have H2_ := (Option.bind_some _ _).symm.trans H; rw [hy240]; with_reducible exact H2_) | (have H2_ := (Option.bind_some _ _).symm.trans H; with_reducible exact H2_) | with_reducible exact H | (rw [hy240]; exact H) | exact H
      have Ny240 := Aside0.mk hy240
      clear hy240
      by_cases c14 : x5_1.length < 5864062014805
      ·rw [if_pos c14] at H
       have LMc14 := Aside0.mk c14
       clear c14
       obtain ⟨y245, hy245⟩ : ∃ y_ : List (List Int), y_ = (x5_1 ++ [y240]) := ⟨_, rfl⟩
       replace H : (some y245) = some r := by first | (rw [hy245]; with_reducible exact H) | (have H2_ := (Option.bind_some _ _).symm.trans H; rw [hy245]; with_reducible exact H2_) | (have H2_ := (Option.bind_some _ _).symm.trans H; with_reducible exact H2_) | with_reducible exact H | (rw [hy245]; exact H) | exact H
       have Ny245 := Aside0.mk hy245
       clear hy245
       obtain rfl := Option.some.inj H
       have q15 : (x6_1 : Int) ≤ ((l0.length : Int) : Int) := of_decide_eq_true qx6_3
       obtain ⟨i015, hi015, _, hsz15, _⟩ := info_parts info3
       have hroom15 : l0.length ≤ c0 := (Kd.V_reads' HO_0.out).2.1
       have hC15 : Kd.F (Kd.int .i64) _ _ A0 l0.length l0 := (Kd.V_at (base := w.heap.size) HO_0.out).2.2
       have q015 : (0 : Int) ≤ (x6_1 : Int) := of_decide_eq_true qx6_3
       have hcut15 := cut_from (P := Try.prog) 24 3 .i64 Try.underlying24 hi015 1 hsz15 A0 l0.length c0 x6_1 q015 q15
       have hr15 := Kd.F_cut (m := (x6_1 : Int).toNat) (c := c0) hC15 (by omega) hroom15
       obtain ⟨A15, hA15⟩ : ∃ A1, A1 = (if c0 = (x6_1 : Int).toNat then A0 else (A0 : Option Addr).map (·.add ((x6_1 : Int).toNat * 1))) := ⟨_, rfl⟩
       obtain ⟨c15, hc15⟩ : ∃ c1, c1 = c0 - (x6_1 : Int).toNat := ⟨_, rfl⟩
       have hy15 : y240.length = l0.length - (x6_1 : Int).toNat := (by rw [Ny240.out, List.length_drop] <;> omega)
       rw [show (l0).drop (x6_1 : Int).toNat = y240 from Ny240.out.symm] at hr15
       replace hr15 : Kd.F (Kd.int .i64) _ _ A15 y240.length y240 := (by rw [hA15]; exact hr15)
       rw [← hy15, ← hA15, ← hc15] at hcut15
       have HO244 := Aside0.mk (show Kd.V (Kd.int .i64) 3 _ w.heap.size _ (.slice A15 y240.length c15) y240 from Kd.V_mk (by rw [hy15, hc15]; exact Nat.sub_le_sub_right hroom15 _) hr15)
       have HC244 := Aside0.mk (show y240.length ≤ c15 from by rw [hy15, hc15]; exact Nat.sub_le_sub_right hroom15 _)
       clear hr15 hC15 hroom15 hi015 hsz15 hc15
       have KY15 := Aside0.mk hy15
       have KA15 := Aside0.mk hA15
       clear hy15 hA15
       replace q15 := eq_true q15
       go_wp2_with (first | ((with_reducible refine gate_builtin (b := .append) (xs := #[.tmp 24, .tmp 28]) rfl ?_); at_builtin; refine Kd.N_append (Kd.slice 3 (Kd.int .i64)) (w0 := w) w.heap.size rfl (.tmp 24) (.tmp 28) 57 24 (.slice none 0 0) 24 rfl Try.underlying57 info24 rfl (by decide) (by omega) u5 x5_1 y240 [.slice A15 y240.length c15] (fun k_ => (P0_ k_ ∨ w.heap.size ≤ k_)) (fun k_ => ((fun k_ => (P0_ k_ ∨ w.heap.size ≤ k_))) k_ ∧ some k_ ≠ (u5 : Value).ownBlock) rfl rfl ?aP (fun _ hk => hk) ?aF ?aO ?aB ?aS ?aL ?_; (case aP => exact (Kd.FK_slice_mk (Kd.V_reads' (Kd.V_mono (ok' := (fun k_ => ((fun k_ => (P0_ k_ ∨ w.heap.size ≤ k_))) k_ ∧ some k_ ≠ (u5 : Value).ownBlock)) (HO244.out) (fun k_ hk => ⟨hk.1, hk.2⟩))).2.1 (Kd.V_F (Kd.V_mono (ok' := (fun k_ => ((fun k_ => (P0_ k_ ∨ w.heap.size ≤ k_))) k_ ∧ some k_ ≠ (u5 : Value).ownBlock)) (HO244.out) (fun k_ hk => ⟨hk.1, hk.2⟩))))); (case aB => exact qx6_0); (case aF => exact (fun k_ hk => (.inr (Nat.le_trans (below_size qx6_0) hk)))); (case aO => exact (by (with_reducible repeat (first | apply Kd.N_alloc | apply Kd.N_drewN | apply Kd.N_drew)); exact HO_5.out)); (case aS => exact (below_size qx6_0)); (case aL => have := LMc14.out; omega); intro v246 w16 ho hb hg hat; rw [← Ny245.out] at ho; have n0_ := Aside0.mk (Kd.V_afterv (ok := (fun k_ => (P0_ k_ ∨ w.heap.size ≤ k_))) qx6_7 hg hat); have n1_ := Aside0.mk (Kd.V_afterv (ok := (fun k_ => (P0_ k_ ∨ w.heap.size ≤ k_))) (by (with_reducible repeat (first | apply Kd.V_alloc | apply Kd.V_drewN | apply Kd.V_drew)); exact HO244.out) hg hat); have n2_ := Aside0.mk (hb); have n3_ := Aside0.mk (ho); clear HO_0; clear HO244; clear HB; clear HO_5; have HO_0 := n0_; have HO244 := n1_; have HB := n2_; have HO247 := n3_; clear n0_ n1_ n2_ n3_; clear ho hb hg hat))
       go_ret
       exact ⟨_, qx6_5, by (with_reducible repeat (first | apply Kd.N_alloc | apply Kd.N_drewN | apply Kd.N_drew)); exact HO247.out, qx6_0⟩
      ·rw [if_neg c14] at H
       exact absurd H (by simp)
     ·rw [if_neg c13] at H
      exact absurd H (by simp)
    ·rw [if_neg c12] at H
     exact absurd H (by simp)

/-! ### slices_Sort_int_int: function 54 -/
def slices_Sort_int_int.f (l0 : List Int) : Option (List Int) := if l0.length < 4611686018427387904 then some (l0.mergeSort fun x y => decide (x ≤ y)) else none
theorem slices_Sort_int_int.calls (P0_ : Nat → Prop) (u9000_ : Value) (l0 : List Int) (r : List Int) (w0 w : World) (hB : Below w0.heap.size w0 w) (ho0 : Kd.R (Kd.int .i64) 3 w w0.heap.size P0_ u9000_ l0) (h : slices_Sort_int_int.f l0 = some r) :
  Calls Try.prog 54 #[u9000_] w fun e w' => e = .returned (.tuple #[]) ∧ Kd.R (Kd.int .i64) 3 w' w0.heap.size (fun k_ => (P0_ k_ ∨ w.heap.size ≤ k_)) u9000_ r ∧ Below w0.heap.size w0 w' ∧ Kept w w' (fun k_ => P0_ k_) := by
 unfold slices_Sort_int_int.f at h
 split at h
 ·cases h
  exact Hand.sort_calls P0_ u9000_ l0 w0 w hB ho0 (by assumption)
 ·cases h

/-! ### segmentation_median: function 44 -/
def segmentation_median.f (l0 : List Int) : Option (Int) := (slices_Clone_int_int.f l0).bind fun t248 => ((slices_Sort_int_int.f t248).bind fun t251 => (if 0 ≤ (wrap64 (Int.tdiv (wrap64 ((t248.length : Int) - 1)) 2)) then (if (wrap64 (Int.tdiv (wrap64 ((t248.length : Int) - 1)) 2)) < (t248.length : Int) then (some (rd t251 (wrap64 (Int.tdiv (wrap64 ((t248.length : Int) - 1)) 2)))) else (none)) else (none)))
set_option maxHeartbeats 8000000 in
set_option maxRecDepth 100000 in
theorem segmentation_median.calls (A0 : Option Addr) (c0 : Nat) (l0 : List Int) (r : Int) (w : World) (hr0 : Kd.C (Kd.int .i64) w A0 l0.length l0) (hc0 : l0.length ≤ c0) (h : segmentation_median.f l0 = some r) :
  Calls Try.prog 44 #[.slice A0 l0.length c0] w fun e w' => e = .returned (.int .i64 r) ∧ Below w.heap.size w w' := by
 have HR0 := Aside0.mk hr0
 have HC0 := Aside0.mk hc0
 clear hr0 hc0
 have HB := Aside0.mk (Below.refl w.heap.size w)
 have H : ((slices_Clone_int_int.f l0).bind fun t248 => ((slices_Sort_int_int.f t248).bind fun t251 => (if 0 ≤ (wrap64 (Int.tdiv (wrap64 ((t248.length : Int) - 1)) 2)) then (if (wrap64 (Int.tdiv (wrap64 ((t248.length : Int) - 1)) 2)) < (t248.length : Int) then (some (rd t251 (wrap64 (Int.tdiv (wrap64 ((t248.length : Int) - 1)) 2)))) else (none)) else (none)))) = some r := h
 clear h
 replace H := Option.bind_eq_some_iff.mp H
 obtain ⟨t248, A20, H⟩ := H
 replace H : ((slices_Sort_int_int.f t248).bind fun t251 => (if 0 ≤ (wrap64 (Int.tdiv (wrap64 ((t248.length : Int) - 1)) 2)) then (if (wrap64 (Int.tdiv (wrap64 ((t248.length : Int) - 1)) 2)) < (t248.length : Int) then (some (rd t251 (wrap64 (Int.tdiv (wrap64 ((t248.length : Int) - 1)) 2)))) else (none)) else (none))) = some r := H
 have A2 := Aside0.mk A20
 clear A20
 replace H := Option.bind_eq_some_iff.mp H
 obtain ⟨t251, A30, H⟩ := H
 replace H : (if 0 ≤ (wrap64 (Int.tdiv (wrap64 ((t248.length : Int) - 1)) 2)) then (if (wrap64 (Int.tdiv (wrap64 ((t248.length : Int) - 1)) 2)) < (t248.length : Int) then (some (rd t251 (wrap64 (Int.tdiv (wrap64 ((t248.length : Int) - 1)) 2)))) else (none)) else (none)) = some r := H
 have A3 := Aside0.mk A30
 clear A30
 obtain ⟨ji4, hji4⟩ : ∃ j_ : Int, (wrap64 (Int.tdiv (wrap64 ((t248.length : Int) - 1)) 2)) = j_ := ⟨_, rfl⟩
 replace H : (if 0 ≤ (ji4) then (if (ji4) < (t248.length : Int) then (some (rd t251 (ji4))) else (none)) else (none)) = some r := by first | (rw [hji4] at H; exact H) | (simp only [hji4] at H ⊢; exact H)
 (try rw [hji4] at A2)
 (try rw [hji4] at A3)
 have hji4w : (IntKind.i64.wrap (Int.tdiv (wrap64 ((t248.length : Int) - 1)) 2)) = ji4 := (i64_w _).trans hji4
 by_cases c5 : 0 ≤ (ji4)
 ·rw [if_pos c5] at H
  have c5b0 : decide (0 ≤ (ji4)) = true := decide_eq_true c5
  clear c5
  by_cases c6 : (ji4) < (t248.length : Int)
  ·rw [if_pos c6] at H
   have c6b0 : decide ((ji4) < (t248.length : Int)) = true := decide_eq_true c6
   clear c6
   obtain rfl := Option.some.inj H
   go_enter Try.func44, Try.ntmps44
   go_wp2_with (first | ((with_reducible refine gate_callee (f := 48) rfl ?_); refine goesL_ (some 5) rfl rfl Try.func48 (by kernel_rfl) rfl #[.slice A0 l0.length c0] rfl qx6_1 ?_; (with_reducible refine (slices_Clone_int_int.calls _ _ l0 t248 _ ?side1 ?side2 A2.out).mono ?_); (case side1 => exact qx6_2); (case side2 => exact HC0.out); rintro e w7 ⟨v249, rfl, ho0, hb⟩; refine ⟨_, rfl, ?_⟩; have n0_ := Aside0.mk (Kd.R_lower ho0 (below_size qx6_0)); have n1_ := Aside0.mk (below_step qx6_0 hb); clear HB; have HO250 := n0_; have HB := n1_; clear n0_ n1_; (try clear hb); (try clear hb2); (try clear hk); (try clear hi); (try clear ho0); obtain ⟨Ao8, co8, eo8⟩ := Kd.R_slice HO250.out; subst eo8) | ((with_reducible refine gate_callee (f := 54) rfl ?_); refine goesL_ (some 7) rfl rfl Try.func54 (by kernel_rfl) rfl #[.slice Ao8 t248.length co8] rfl qx6_1 ?_; (with_reducible refine (slices_Sort_int_int.calls (fun k_ => some k_ = (.slice Ao8 t248.length co8 : Value).ownBlock) (.slice Ao8 t248.length co8) t248 t251 w _ ?side1 ?side2 A3.out).mono ?_); (case side1 => exact qx6_0); (case side2 => exact Kd.R_tight rfl HO250.out); rintro e w9 ⟨rfl, hy0, hb, hkp⟩; refine ⟨_, rfl, ?_⟩; have n0_ := Aside0.mk (Kd.R_reok rfl hy0 (fun k_ e_ => HO250.out.1 k_ e_)); have n1_ := Aside0.mk (hb); clear HO250; clear HB; have HO250 := n0_; have HB := n1_; clear n0_ n1_; (try clear hb); (try clear hkp); (try clear hy0); have p252 : 0 ≤ ((ji4) : Int) := of_decide_eq_true qx6_3; have q252 : (ji4) < (t251.length : Int) := (by have h_ : ((ji4) : Int) < ((t248.length : Int) : Int) := of_decide_eq_true qx6_3; have e_ := (Kd.R_reads' HO250.out).1; omega); have ql252 : (((ji4) : Int) < ((t248.length : Int) : Int)) = True := eq_true (of_decide_eq_true qx6_3); obtain ⟨ad252, e252, hx252_0⟩ := Kd.at_int (Kd.R_reads' HO250.out).2.2 (ji4) p252 q252; cases e252; replace p252 := eq_true p252; replace q252 := eq_true q252))
   go_ret
   exact ⟨by first | rfl | (simp [errW_none, errW_some] <;> rfl) | (simp only [← hji4]; first | rfl | (simp [errW_none, errW_some] <;> rfl)) | (simp [*, errW_none, errW_some] <;> rfl), qx6_0⟩
  ·rw [if_neg c6] at H
   exact absurd H (by simp)
 ·rw [if_neg c5] at H
  exact absurd H (by simp)

/-! ### segmentation_cost: function 43 -/
def segmentation_cost.l0 : Nat → Int → Int → List Int → Int → Int → Option (Int)
 | 0, _, _, _, _, _ => none
 | k + 1, x3, x4, x9, x10, x11 => if x11 < x10 then (if 0 ≤ x11 then (if x11 < (x9.length : Int) then (segmentation_cost.l0 k x3 (wrap64 (x4 + (mx (wrap64 ((rd x9 x11) - x3)) (wrap64 (x3 - (rd x9 x11)))))) x9 x10 (wrap64 (x11 + 1))) else (none)) else (none)) else (some x4)
def segmentation_cost.f (k : Nat) (l0 : List Int) : Option (Int) := (segmentation_median.f l0).bind fun t253 => (segmentation_cost.l0 k t253 0 l0 (l0.length : Int) 0)
theorem segmentation_cost.mono_l : ∀ k, (∀ y0 y1 y2 y3 y4, LeO (segmentation_cost.l0 k y0 y1 y2 y3 y4) (segmentation_cost.l0 (k + 1) y0 y1 y2 y3 y4))
 | 0 => fun _ _ _ _ _ r h => by simp [segmentation_cost.l0] at h
 | k + 1 => by
  have ih0 := segmentation_cost.mono_l k
  ·intro y0 y1 y2 y3 y4
   unfold segmentation_cost.l0
   repeat' first
   | (with_reducible exact ih0 _ _ _ _ _)
   | (with_reducible exact LeO.refl _)
   | (with_reducible exact LeO.none _)
   | (with_reducible refine LeO.ite ?_ ?_)
   | (with_reducible refine LeO.bind ?_ (fun _ => ?_))
   | exact ih0 _ _ _ _ _
   | exact LeO.none _
   | refine LeO.ite ?_ ?_
   | refine LeO.bind ?_ (fun _ => ?_)
theorem segmentation_cost.mono : ∀ a0 k, LeO (segmentation_cost.f k a0) (segmentation_cost.f (k + 1) a0) := by
 intro a0 k
 have ih0 := segmentation_cost.mono_l k
 unfold segmentation_cost.f
 repeat' first
   | (with_reducible exact ih0 _ _ _ _ _)
   | (with_reducible exact LeO.refl _)
   | (with_reducible exact LeO.none _)
   | (with_reducible refine LeO.ite ?_ ?_)
   | (with_reducible refine LeO.bind ?_ (fun _ => ?_))
   | exact ih0 _ _ _ _ _
   | exact LeO.none _
   | refine LeO.ite ?_ ?_
   | refine LeO.bind ?_ (fun _ => ?_)
set_option maxHeartbeats 8000000 in
set_option maxRecDepth 100000 in
theorem segmentation_cost.calls (k : Nat) (A0 : Option Addr) (c0 : Nat) (l0 : List Int) (r : Int) (w : World) (hr0 : Kd.C (Kd.int .i64) w A0 l0.length l0) (hc0 : l0.length ≤ c0) (h : segmentation_cost.f k l0 = some r) :
  Calls Try.prog 43 #[.slice A0 l0.length c0] w fun e w' => e = .returned (.int .i64 r) ∧ Below w.heap.size w w' := by
 have HR0 := Aside0.mk hr0
 have HC0 := Aside0.mk hc0
 clear hr0 hc0
 have HB := Aside0.mk (Below.refl w.heap.size w)
 have H : ((segmentation_median.f l0).bind fun t253 => (segmentation_cost.l0 k t253 0 l0 (l0.length : Int) 0)) = some r := h
 clear h
 replace H := Option.bind_eq_some_iff.mp H
 obtain ⟨t253, A20, H⟩ := H
 replace H : (segmentation_cost.l0 k t253 0 l0 (l0.length : Int) 0) = some r := H
 have A2 := Aside0.mk A20
 clear A20
 have H' := Aside0.mk H
 clear H
 go_enter Try.func43, Try.ntmps43
 go_wp2_with (first | ((with_reducible refine gate_callee (f := 44) rfl ?_); refine goesL_ (some 8) rfl rfl Try.func44 (by kernel_rfl) rfl #[.slice A0 l0.length c0] rfl qx6_1 ?_; (with_reducible refine (segmentation_median.calls _ _ l0 t253 _ ?side1 ?side2 A2.out).mono ?_); (case side1 => exact qx6_2); (case side2 => exact HC0.out); rintro e w3 ⟨rfl, hb⟩; refine ⟨_, rfl, ?_⟩; have n0_ := Aside0.mk (below_step qx6_0 hb); clear HB; have HB := n0_; clear n0_; (try clear hb); (try clear hb2); (try clear hk); (try clear hi)))
 go_loopg [4, 11] k (fun kq v4 v11 w' => ∃ (x4_1 : Int) (x11_1 : Int), v4 = .int .i64 x4_1 ∧ v11 = .int .i64 x11_1 ∧ Aside0 (segmentation_cost.l0 kq t253 x4_1 l0 (l0.length : Int) x11_1 = some r) ∧ Aside0 (kq ≤ k) ∧ Aside0 (Below w.heap.size w w'))
 case atStart => exact ⟨(0), (0), qx6_4, qx6_4, H', ⟨Nat.le_refl _⟩, ⟨qx6_0⟩⟩
 case round =>
  clear H'
  try clear p2
  obtain ⟨x4_1, x11_1, rfl, rfl, HA, HK1, HB⟩ := hrel
  cases gk with
  | zero => exact absurd HA.out (by simp [segmentation_cost.l0])
  | succ k1 =>
   have H := HA.out
   clear HA
   simp only [segmentation_cost.l0] at H
   by_cases c4 : x11_1 < (l0.length : Int)
   ·rw [if_pos c4] at H
    have c4b0 : decide (x11_1 < (l0.length : Int)) = true := decide_eq_true c4
    clear c4
    by_cases c5 : 0 ≤ x11_1
    ·rw [if_pos c5] at H
     have c5b0 : decide (0 ≤ x11_1) = true := decide_eq_true c5
     clear c5
     by_cases c6 : x11_1 < (l0.length : Int)
     ·rw [if_pos c6] at H
      have c6b0 : decide (x11_1 < (l0.length : Int)) = true := decide_eq_true c6
      clear c6
      obtain ⟨ji7, hji7⟩ : ∃ j_ : Int, (mx (wrap64 ((rd l0 x11_1) - t253)) (wrap64 (t253 - (rd l0 x11_1)))) = j_ := ⟨_, rfl⟩
      replace H : (segmentation_cost.l0 k1 t253 (wrap64 (x4_1 + (ji7))) l0 (l0.length : Int) (wrap64 (x11_1 + 1))) = some r := by first | (rw [hji7] at H; exact H) | (simp only [hji7] at H ⊢; exact H)
      have hji7_ : (if (wrap64 ((rd l0 x11_1) - t253)) < (wrap64 (t253 - (rd l0 x11_1))) then (wrap64 (t253 - (rd l0 x11_1))) else (wrap64 ((rd l0 x11_1) - t253))) = ji7 := hji7
      have H' := Aside0.mk H
      clear H
      have p254 : 0 ≤ (x11_1 : Int) := of_decide_eq_true qx6_3
      have q254 : x11_1 < (l0.length : Int) := of_decide_eq_true qx6_3
      obtain ⟨ad254, e254, hx254_0⟩ := Kd.at_int HR0.out x11_1 p254 q254
      cases e254
      replace hx254_0 := (HB.out.cell (World.block_lt_of_cell? w _ hx254_0)).trans hx254_0
      replace p254 := eq_true p254
      replace q254 := eq_true q254
      go_wp2
      go_roundg k1
      case measure => have := HK1.out; omega
      case rel => exact ⟨(wrap64 (x4_1 + (ji7))), (wrap64 (x11_1 + 1)), (by first | rfl | (simp; done) | (simp only [← hji7] <;> (first | rfl | simp)) | (simp [*]; done)), qx6_4, H', ⟨by have := HK1.out; omega⟩, ⟨qx6_0⟩⟩
     ·rw [if_neg c6] at H
      exact absurd H (by simp)
    ·rw [if_neg c5] at H
     exact absurd H (by simp)
   ·rw [if_neg c4] at H
    have c4b0 : decide (x11_1 < (l0.length : Int)) = false := decide_eq_false c4
    clear c4
    obtain rfl := Option.some.inj H
    go_wp2
    go_ret
    exact ⟨qx6_5, qx6_0⟩

/-! ### segmentation_Total: function 27 -/
def segmentation_Total.l0 : Nat → Int → List (List Int) → Int → Int → Option (Int × Int)
 | 0, _, _, _, _ => none
 | k + 1, x10, x31, x32, x33 => if x33 < x32 then (if 0 ≤ x33 then (if x33 < (x31.length : Int) then ((segmentation_cost.f k (rd_L1 x31 x33)).bind fun t261 => (segmentation_Total.l0 k (wrap64 (x10 + t261)) x31 x32 (wrap64 (x33 + 1)))) else (none)) else (none)) else (some (x10, 0))
def segmentation_Total.f (k : Nat) (l0 : List Int) (a1 : Int) (l2 : List Int) : Option (Int × Int) := (segmentation_Check.f k l0 a1).bind fun t255 => (if t255 = 0 then ((segmentation_checkCuts.f k l0 l2).bind fun t256 => (if t256 = 0 then ((segmentation_parts.f k l0 l2).bind fun t257 => (segmentation_Total.l0 k (wrap64 (a1 * (l2.length : Int))) t257 (t257.length : Int) 0)) else (some (0, t256)))) else (some (0, t255)))
theorem segmentation_Total.mono_l : ∀ k, (∀ y0 y1 y2 y3, LeO (segmentation_Total.l0 k y0 y1 y2 y3) (segmentation_Total.l0 (k + 1) y0 y1 y2 y3))
 | 0 => fun _ _ _ _ r h => by simp [segmentation_Total.l0] at h
 | k + 1 => by
  have ih0 := segmentation_Total.mono_l k
  ·intro y0 y1 y2 y3
   unfold segmentation_Total.l0
   repeat' first
   | (with_reducible exact ih0 _ _ _ _)
   | (with_reducible exact segmentation_Check.mono _ _ _)
   | (with_reducible exact segmentation_checkCuts.mono _ _ _)
   | (with_reducible exact segmentation_cost.mono _ _)
   | (with_reducible exact segmentation_parts.mono _ _ _)
   | (with_reducible exact LeO.refl _)
   | (with_reducible exact LeO.none _)
   | (with_reducible refine LeO.ite ?_ ?_)
   | (with_reducible refine LeO.bind ?_ (fun _ => ?_))
   | exact ih0 _ _ _ _
   | exact segmentation_Check.mono _ _ _
   | exact segmentation_checkCuts.mono _ _ _
   | exact segmentation_cost.mono _ _
   | exact segmentation_parts.mono _ _ _
   | exact LeO.none _
   | refine LeO.ite ?_ ?_
   | refine LeO.bind ?_ (fun _ => ?_)
theorem segmentation_Total.mono : ∀ a0 a1 a2 k, LeO (segmentation_Total.f k a0 a1 a2) (segmentation_Total.f (k + 1) a0 a1 a2) := by
 intro a0 a1 a2 k
 have ih0 := segmentation_Total.mono_l k
 unfold segmentation_Total.f
 repeat' first
   | (with_reducible exact ih0 _ _ _ _)
   | (with_reducible exact segmentation_Check.mono _ _ _)
   | (with_reducible exact segmentation_checkCuts.mono _ _ _)
   | (with_reducible exact segmentation_cost.mono _ _)
   | (with_reducible exact segmentation_parts.mono _ _ _)
   | (with_reducible exact LeO.refl _)
   | (with_reducible exact LeO.none _)
   | (with_reducible refine LeO.ite ?_ ?_)
   | (with_reducible refine LeO.bind ?_ (fun _ => ?_))
   | exact ih0 _ _ _ _
   | exact segmentation_Check.mono _ _ _
   | exact segmentation_checkCuts.mono _ _ _
   | exact segmentation_cost.mono _ _
   | exact segmentation_parts.mono _ _ _
   | exact LeO.none _
   | refine LeO.ite ?_ ?_
   | refine LeO.bind ?_ (fun _ => ?_)
set_option maxHeartbeats 8000000 in
set_option maxRecDepth 100000 in
theorem segmentation_Total.calls (k : Nat) (A0 : Option Addr) (c0 : Nat) (l0 : List Int) (a1 : Int) (A2 : Option Addr) (c2 : Nat) (l2 : List Int) (r1 : Int) (r2 : Int) (w : World) (hr0 : Kd.C (Kd.int .i64) w A0 l0.length l0) (hc0 : l0.length ≤ c0) (hr2 : Kd.C (Kd.int .i64) w A2 l2.length l2) (hc2 : l2.length ≤ c2) (h : segmentation_Total.f k l0 a1 l2 = some (r1, r2)) :
  Calls Try.prog 27 #[.slice A0 l0.length c0, .int .i64 a1, .slice A2 l2.length c2] w fun e w' => e = .returned (.tuple #[.int .i64 r1, .int .i64 r2]) ∧ Below w.heap.size w w' := by
 have HR0 := Aside0.mk hr0
 have HC0 := Aside0.mk hc0
 clear hr0 hc0
 have HR2 := Aside0.mk hr2
 have HC2 := Aside0.mk hc2
 clear hr2 hc2
 have HB := Aside0.mk (Below.refl w.heap.size w)
 have H : ((segmentation_Check.f k l0 a1).bind fun t255 => (if t255 = 0 then ((segmentation_checkCuts.f k l0 l2).bind fun t256 => (if t256 = 0 then ((segmentation_parts.f k l0 l2).bind fun t257 => (segmentation_Total.l0 k (wrap64 (a1 * (l2.length : Int))) t257 (t257.length : Int) 0)) else (some (0, t256)))) else (some (0, t255)))) = some (r1, r2) := h
 clear h
 replace H := Option.bind_eq_some_iff.mp H
 obtain ⟨t255, A40, H⟩ := H
 replace H : (if t255 = 0 then ((segmentation_checkCuts.f k l0 l2).bind fun t256 => (if t256 = 0 then ((segmentation_parts.f k l0 l2).bind fun t257 => (segmentation_Total.l0 k (wrap64 (a1 * (l2.length : Int))) t257 (t257.length : Int) 0)) else (some (0, t256)))) else (some (0, t255))) = some (r1, r2) := H
 have A4 := Aside0.mk A40
 clear A40
 by_cases c5 : t255 = 0
 ·rw [if_pos c5] at H
  have c5b0 : (t255 == 0) = true := beq_iff_eq.mpr c5
  have c5b1 : (t255 != 0) = false := bne_eq_false_iff_eq.mpr c5
  clear c5
  replace H := Option.bind_eq_some_iff.mp H
  obtain ⟨t256, A60, H⟩ := H
  replace H : (if t256 = 0 then ((segmentation_parts.f k l0 l2).bind fun t257 => (segmentation_Total.l0 k (wrap64 (a1 * (l2.length : Int))) t257 (t257.length : Int) 0)) else (some (0, t256))) = some (r1, r2) := H
  have A6 := Aside0.mk A60
  clear A60
  by_cases c7 : t256 = 0
  ·rw [if_pos c7] at H
   have c7b0 : (t256 == 0) = true := beq_iff_eq.mpr c7
   have c7b1 : (t256 != 0) = false := bne_eq_false_iff_eq.mpr c7
   clear c7
   replace H := Option.bind_eq_some_iff.mp H
   obtain ⟨t257, A80, H⟩ := H
   replace H : (segmentation_Total.l0 k (wrap64 (a1 * (l2.length : Int))) t257 (t257.length : Int) 0) = some (r1, r2) := H
   have A8 := Aside0.mk A80
   clear A80
   have H' := Aside0.mk H
   clear H
   go_enter Try.func27, Try.ntmps27
   go_wp2_with (first | ((with_reducible refine gate_callee (f := 36) rfl ?_); refine goesL_ (some 15) rfl rfl Try.func36 (by kernel_rfl) rfl #[.slice A0 l0.length c0, .int .i64 a1] rfl qx6_1 ?_; (with_reducible refine (segmentation_Check.calls k _ _ l0 a1 t255 _ ?side1 ?side2 A4.out).mono ?_); (case side1 => exact qx6_2); (case side2 => exact HC0.out); rintro e w' ⟨rfl, ⟨nd, rfl⟩⟩; refine ⟨_, rfl, ?_⟩) | ((with_reducible refine gate_callee (f := 41) rfl ?_); refine goesL_ (some 21) rfl rfl Try.func41 (by kernel_rfl) rfl #[.slice A0 l0.length c0, .slice A2 l2.length c2] rfl qx6_1 ?_; (with_reducible refine (segmentation_checkCuts.calls k _ _ l0 _ _ l2 t256 _ ?side1 ?side2 ?side3 ?side4 A6.out).mono ?_); (case side1 => exact qx6_2); (case side2 => exact HC0.out); (case side3 => exact qx6_6); (case side4 => exact HC2.out); rintro e w' ⟨rfl, ⟨nd, rfl⟩⟩; refine ⟨_, rfl, ?_⟩) | ((with_reducible refine gate_callee (f := 42) rfl ?_); refine goesL_ (some 31) rfl rfl Try.func42 (by kernel_rfl) rfl #[.slice A0 l0.length c0, .slice A2 l2.length c2] rfl qx6_1 ?_; (with_reducible refine (segmentation_parts.calls k (fun k_ => k_ < w.heap.size) _ _ l0 _ _ l2 t257 _ ?side1 ?side2 ?side3 A8.out).mono ?_); (case side1 => exact Kd.V_mk HC0.out (Kd.F_below (Kd.C_F (Kd.heap_int .i64) HR0.out) qx6_0)); (case side2 => exact qx6_6); (case side3 => exact HC2.out); rintro e w9 ⟨v258, rfl, ho0, hb⟩; refine ⟨_, rfl, ?_⟩; have n0_ := Aside0.mk (Kd.N_lower (Kd.N_mono (ok' := fun k_ => True) ho0 (fun k_ hk_ => trivial)) (below_size qx6_0)); have n1_ := Aside0.mk (below_step qx6_0 hb); clear HB; have HO259 := n0_; have HB := n1_; clear n0_ n1_; (try clear hb); (try clear hb2); (try clear hk); (try clear hi); (try clear ho0); obtain ⟨Ao10, co10, eo10⟩ := Kd.N_slice HO259.out; subst eo10))
   go_loopg [10, 33] k (fun kq v10 v33 w' => ∃ (x10_1 : Int) (x33_1 : Int), v10 = .int .i64 x10_1 ∧ v33 = .int .i64 x33_1 ∧ Aside0 (segmentation_Total.l0 kq x10_1 t257 (t257.length : Int) x33_1 = some (r1, r2)) ∧ Aside0 (kq ≤ k) ∧ Aside0 (Kd.N (Kd.slice 3 (Kd.int .i64)) 24 w' w.heap.size (fun _ => True) (.slice Ao10 t257.length co10) t257) ∧ Aside0 (Below w.heap.size w w'))
   case atStart => exact ⟨(wrap64 (a1 * (l2.length : Int))), (0), qx6_4, qx6_4, H', ⟨Nat.le_refl _⟩, ⟨by (with_reducible repeat (first | apply Kd.N_alloc | apply Kd.N_drewN | apply Kd.N_drew)); exact HO259.out⟩, ⟨qx6_0⟩⟩
   case round =>
    clear H'
    try clear c2
    try clear p2
    try clear c3
    try clear c4
    try clear c5
    try clear c5b0
    try clear c5b1
    try clear p6
    try clear c7
    try clear c7b0
    try clear c7b1
    obtain ⟨x10_1, x33_1, rfl, rfl, HA, HK1, HO_31, HB⟩ := hrel
    cases gk with
    | zero => exact absurd HA.out (by simp [segmentation_Total.l0])
    | succ k1 =>
     have H := HA.out
     clear HA
     simp only [segmentation_Total.l0] at H
     by_cases c11 : x33_1 < (t257.length : Int)
     ·rw [if_pos c11] at H
      have c11b0 : decide (x33_1 < (t257.length : Int)) = true := decide_eq_true c11
      clear c11
      by_cases c12 : 0 ≤ x33_1
      ·rw [if_pos c12] at H
       have c12b0 : decide (0 ≤ x33_1) = true := decide_eq_true c12
       clear c12
       by_cases c13 : x33_1 < (t257.length : Int)
       ·rw [if_pos c13] at H
        have c13b0 : decide (x33_1 < (t257.length : Int)) = true := decide_eq_true c13
        clear c13
        replace H := Option.bind_eq_some_iff.mp H
        obtain ⟨t261, A140, H⟩ := H
        replace H : (segmentation_Total.l0 k1 (wrap64 (x10_1 + t261)) t257 (t257.length : Int) (wrap64 (x33_1 + 1))) = some (r1, r2) := H
        have A14 := Aside0.mk A140
        clear A140
        have H' := Aside0.mk H
        clear H
        have p260 : 0 ≤ (x33_1 : Int) := of_decide_eq_true qx6_3
        have q260 : x33_1 < (t257.length : Int) := of_decide_eq_true qx6_3
        obtain ⟨ad260, A260_0, c260_0, e260, hx260_0, hl260_0, hi260_0⟩ := at_L1 (Kd.N_reads' HO_31.out).2.2 x33_1 p260 q260
        cases e260
        obtain ⟨ce260, hce260, hMe260, hcc260⟩ := Kd.N_get HO_31.out [] x33_1 p260 (by first | exact q260 | exact of_decide_eq_true qx6_3 | (have e_ := (Kd.N_reads' HO_31.out).1; omega))
        obtain ⟨ua260_0, uc260_0, rfl, ul260_0, ge260_0⟩ := Kd.FK_slice_open hMe260
        have hv260_0 := hcc260 0 _ rfl
        rw [Nat.add_zero, show ((Kd.slice 3 (Kd.int .i64))).sz = 1 from rfl, Nat.mul_one] at hv260_0
        replace hv260_0 := Option.some.inj (hv260_0.symm.trans hx260_0)
        injection hv260_0 with hva_ hvn_ hvc_
        rw [hva_] at ge260_0
        rw [hvc_] at ul260_0
        have HL260_0 := Aside0.mk (show Kd.V (Kd.int .i64) 3 _ w.heap.size _ _ (rd_L1 t257 x33_1) from Kd.V_mk ul260_0 ge260_0)
        clear hva_ hvn_ hvc_ ge260_0 ul260_0
        clear hcc260 hce260
        have HR260_0 := Aside0.mk hi260_0
        have HC260_0 := Aside0.mk hl260_0
        clear hi260_0 hl260_0
        replace p260 := eq_true p260
        replace q260 := eq_true q260
        go_wp2_with (first | ((with_reducible refine gate_callee (f := 43) rfl ?_); refine goesL_ (some 39) rfl rfl Try.func43 (by kernel_rfl) rfl #[.slice A260_0 (rd_L1 t257 x33_1).length c260_0] rfl qx6_1 ?_; (with_reducible refine (segmentation_cost.calls k1 _ _ (rd_L1 t257 x33_1) t261 _ ?side1 ?side2 A14.out).mono ?_); (case side1 => repeat (first | exact qx6_8 | (with_reducible refine Kd.C_alloc ?_ _) | (with_reducible refine Kd.C_drewN ?_ _) | (with_reducible refine Kd.C_drew ?_))); (case side2 => exact HC260_0.out); rintro e w15 ⟨rfl, hb⟩; refine ⟨_, rfl, ?_⟩; have n0_ := Aside0.mk (Kd.N_below (by (with_reducible repeat (first | apply Kd.N_alloc | apply Kd.N_drewN | apply Kd.N_drew)); exact HO_31.out) hb); have n1_ := Aside0.mk (Kd.V_below (by (with_reducible repeat (first | apply Kd.V_alloc | apply Kd.V_drewN | apply Kd.V_drew)); exact HL260_0.out) hb); have n2_ := Aside0.mk (Kd.C_below qx6_8 hb); have n3_ := Aside0.mk (below_step qx6_0 hb); clear HO_31; clear HL260_0; clear HR260_0; clear HB; have HO_31 := n0_; have HL260_0 := n1_; have HR260_0 := n2_; have HB := n3_; clear n0_ n1_ n2_ n3_; (try clear hb); (try clear hb2); (try clear hk); (try clear hi)))
        go_roundg k1
        case measure => have := HK1.out; omega
        case rel => exact ⟨(wrap64 (x10_1 + t261)), (wrap64 (x33_1 + 1)), qx6_4, qx6_4, H', ⟨by have := HK1.out; omega⟩, ⟨by (with_reducible repeat (first | apply Kd.N_alloc | apply Kd.N_drewN | apply Kd.N_drew)); exact HO_31.out⟩, ⟨qx6_0⟩⟩
       ·rw [if_neg c13] at H
        exact absurd H (by simp)
      ·rw [if_neg c12] at H
       exact absurd H (by simp)
     ·rw [if_neg c11] at H
      have c11b0 : decide (x33_1 < (t257.length : Int)) = false := decide_eq_false c11
      clear c11
      simp only [Option.some.injEq, Prod.mk.injEq] at H
      obtain ⟨rfl, rfl⟩ := H
      go_wp2
      go_ret2
      exact ⟨qx6_5, qx6_0⟩
  ·rw [if_neg c7] at H
   have c7b0 : (t256 == 0) = false := beq_eq_false_iff_ne.mpr c7
   have c7b1 : (t256 != 0) = true := bne_iff_ne.mpr c7
   simp only [Option.some.injEq, Prod.mk.injEq] at H
   obtain ⟨rfl, rfl⟩ := H
   go_enter Try.func27, Try.ntmps27
   go_wp2_with (first | ((with_reducible refine gate_callee (f := 36) rfl ?_); refine goesL_ (some 15) rfl rfl Try.func36 (by kernel_rfl) rfl #[.slice A0 l0.length c0, .int .i64 a1] rfl qx6_1 ?_; (with_reducible refine (segmentation_Check.calls k _ _ l0 a1 t255 _ ?side1 ?side2 A4.out).mono ?_); (case side1 => exact qx6_2); (case side2 => exact HC0.out); rintro e w' ⟨rfl, ⟨nd, rfl⟩⟩; refine ⟨_, rfl, ?_⟩) | ((with_reducible refine gate_callee (f := 41) rfl ?_); refine goesL_ (some 21) rfl rfl Try.func41 (by kernel_rfl) rfl #[.slice A0 l0.length c0, .slice A2 l2.length c2] rfl qx6_1 ?_; (with_reducible refine (segmentation_checkCuts.calls k _ _ l0 _ _ l2 t256 _ ?side1 ?side2 ?side3 ?side4 A6.out).mono ?_); (case side1 => exact qx6_2); (case side2 => exact HC0.out); (case side3 => exact qx6_6); (case side4 => exact HC2.out); rintro e w' ⟨rfl, ⟨nd, rfl⟩⟩; refine ⟨_, rfl, ?_⟩))
   go_ret2
   exact ⟨qx6_5, qx6_0⟩
 ·rw [if_neg c5] at H
  have c5b0 : (t255 == 0) = false := beq_eq_false_iff_ne.mpr c5
  have c5b1 : (t255 != 0) = true := bne_iff_ne.mpr c5
  simp only [Option.some.injEq, Prod.mk.injEq] at H
  obtain ⟨rfl, rfl⟩ := H
  go_enter Try.func27, Try.ntmps27
  go_wp2_with (first | ((with_reducible refine gate_callee (f := 36) rfl ?_); refine goesL_ (some 15) rfl rfl Try.func36 (by kernel_rfl) rfl #[.slice A0 l0.length c0, .int .i64 a1] rfl qx6_1 ?_; (with_reducible refine (segmentation_Check.calls k _ _ l0 a1 t255 _ ?side1 ?side2 A4.out).mono ?_); (case side1 => exact qx6_2); (case side2 => exact HC0.out); rintro e w' ⟨rfl, ⟨nd, rfl⟩⟩; refine ⟨_, rfl, ?_⟩))
  go_ret2
  exact ⟨qx6_5, qx6_0⟩

end Go.Proofs.Ytiimanpmidnffaa.Q
