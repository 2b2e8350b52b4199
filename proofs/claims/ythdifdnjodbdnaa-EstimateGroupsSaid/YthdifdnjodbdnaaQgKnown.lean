-- Laid by myprint.py (a program of this session's, over the kit's printer and with functions proved by hand)
import Derived.Test.YthdifdnjodbdnaaTy
import Derived.Test.YthdifdnjodbdnaaGs
import Derived.Test.YthdifdnjodbdnaaQgByH
import Derived.Test.YthdifdnjodbdnaaQgCnt
namespace Go.Proofs.Ythdifdnjodbdnaa.Q
open Go.RowKit Go.Proofs.YthdifdnjodbdnaaW.PrintWords Go.Proofs.YthdifdnjodbdnaaW.PrintLast Go.Proofs.YthdifdnjodbdnaaW.PrintMore
attribute [local go_sem] max2_int min2_int max_two min_two max_three min_three max_four min_four   -- for this text's walks alone
set_option linter.unusedVariables false
set_option linter.unusedSimpArgs false

attribute [local go_sem high] eqA37 eqA41
attribute [local go_sem high] Str.binOp_string_gtr' Str.binOp_string_leq'
abbrev T4970 : Bool := true
abbrev F4970 : Bool := false
theorem qgknown_0 {p : Prop} (h : p := by repeat (first | (with_reducible first | exact HB.out | apply below_alloc | apply pw_below_drewN | apply below_drew1) | exact HB.out)) : p := h
theorem qgknown_1 {p : Prop} (h : p := by repeat (first | (with_reducible first | exact HB.out | apply below_alloc | apply pw_below_drewN | apply below_drew1 | refine below_set ?_ GE157.out) | exact HB.out)) : p := h
theorem qgknown_2 {p : Prop} (h : p := by (with_reducible repeat (first | refine blk_drewN ?_ _ | refine blk_drew ?_ | refine blk_alloc ?_ _)); exact BK157.out) : p := h
theorem qgknown_3 {p : Prop} (h : p := by (with_reducible repeat (first | apply Kd.R_alloc | apply Kd.R_drewN | apply Kd.R_drew)); exact HO_1.out) : p := h
theorem qgknown_4 {p : Prop} (h : p := by (with_reducible repeat (first | apply Kd.R_alloc | apply Kd.R_drewN | apply Kd.R_drew)); exact HO_3.out) : p := h
theorem qgknown_5 {p : Prop} (h : p := by (try simp only [List.map_toArray, List.map_cons, List.map_nil]); first | done | rfl | (simp only [List.length_drop, List.length_take]; rfl)) : p := h
theorem qgknown_6 {p : Prop} (h : p := by (with_reducible repeat (first | apply Kd.N_alloc | apply Kd.N_drewN | apply Kd.N_drew)); exact HO145.out) : p := h
theorem qgknown_7 {p : Prop} (h : p := by (with_reducible repeat (first | apply Kd.R_alloc | apply Kd.R_drewN | apply Kd.R_drew)); exact HO149.out) : p := h
theorem qgknown_8 {p : Prop} (h : p := by (with_reducible repeat (first | apply Kd.N_alloc | apply Kd.N_drewN | apply Kd.N_drew)); exact HO_158002.out) : p := h
theorem qgknown_9 {p : Prop} (h : p := by first | (with_reducible assumption) | assumption) : p := h
theorem qgknown_10 {p : Prop} (h : p := by (with_reducible repeat (first | apply Kd.N_alloc | apply Kd.N_drewN | apply Kd.N_drew)); exact HO167.out) : p := h
theorem qgknown_11 {p : Prop} (h : p := by first | (go_simp; done) | (go_simp; rfl)) : p := h
/-! ### sleuthlaw25_example: function 36 -/
def sleuthlaw25_example.f  : Option ((List (S53))) := some (([(⟨5, 4, (([(⟨5, 1, 0, 0, 1, 3, (⟨#[97, 112, 105]⟩ : ByteArray), (⟨#[118, 49]⟩ : ByteArray), (⟨#[103, 101, 116]⟩ : ByteArray), 0, 10, false, ([] : List (S141)), ([] : List (S146))⟩ : S58), (⟨5, 2, 0, 0, 1, 3, (⟨#[97, 112, 105]⟩ : ByteArray), (⟨#[118, 50]⟩ : ByteArray), (⟨#[103, 101, 116]⟩ : ByteArray), 3, 8, true, ([] : List (S141)), ([] : List (S146))⟩ : S58)] : List (S58)))⟩ : S53)] : List (S53)))
set_option maxHeartbeats 8000000 in
set_option maxRecDepth 100000 in
theorem sleuthlaw25_example.calls  (r : List (S53)) (w : World) (h : sleuthlaw25_example.f  = some r) :
  Calls Try.prog 36 #[] w fun e w' => ∃ v0_ : Value, e = .returned (v0_) ∧ Kd.N k53 53 w' w.heap.size (fun k_ => (w.heap.size ≤ k_)) v0_ r ∧ Below w.heap.size w w' := by
 have hu58 := Try.underlying58
 have hu53 := Try.underlying53
 have HB := Aside0.mk (Below.refl w.heap.size w)
 have H : (some (([(⟨5, 4, (([(⟨5, 1, 0, 0, 1, 3, (⟨#[97, 112, 105]⟩ : ByteArray), (⟨#[118, 49]⟩ : ByteArray), (⟨#[103, 101, 116]⟩ : ByteArray), 0, 10, false, ([] : List (S141)), ([] : List (S146))⟩ : S58), (⟨5, 2, 0, 0, 1, 3, (⟨#[97, 112, 105]⟩ : ByteArray), (⟨#[118, 50]⟩ : ByteArray), (⟨#[103, 101, 116]⟩ : ByteArray), 3, 8, true, ([] : List (S141)), ([] : List (S146))⟩ : S58)] : List (S58)))⟩ : S53)] : List (S53)))) = some r := h
 clear h
 obtain ⟨y137, hy137⟩ : ∃ y_ : List (S58), y_ = (([(⟨5, 1, 0, 0, 1, 3, (⟨#[97, 112, 105]⟩ : ByteArray), (⟨#[118, 49]⟩ : ByteArray), (⟨#[103, 101, 116]⟩ : ByteArray), 0, 10, false, ([] : List (S141)), ([] : List (S146))⟩ : S58), (⟨5, 2, 0, 0, 1, 3, (⟨#[97, 112, 105]⟩ : ByteArray), (⟨#[118, 50]⟩ : ByteArray), (⟨#[103, 101, 116]⟩ : ByteArray), 3, 8, true, ([] : List (S141)), ([] : List (S146))⟩ : S58)] : List (S58))) := ⟨_, rfl⟩
 replace H : (some (([(⟨5, 4, y137⟩ : S53)] : List (S53)))) = some r := by first | (rw [hy137]; with_reducible exact H) | (have H2_ := (Option.bind_some _ _).symm.trans H; rw [hy137]; with_reducible exact H2_) | (have H2_ := (Option.bind_some _ _).symm.trans H; with_reducible exact H2_) | with_reducible exact H | (rw [hy137]; exact H) | exact H
 have Ny137 := Aside0.mk hy137
 clear hy137
 obtain ⟨y140, hy140⟩ : ∃ y_ : List (S53), y_ = (([(⟨5, 4, y137⟩ : S53)] : List (S53))) := ⟨_, rfl⟩
 replace H : (some y140) = some r := by first | (rw [hy140]; with_reducible exact H) | (have H2_ := (Option.bind_some _ _).symm.trans H; rw [hy140]; with_reducible exact H2_) | (have H2_ := (Option.bind_some _ _).symm.trans H; with_reducible exact H2_) | with_reducible exact H | (rw [hy140]; exact H) | exact H
 have Ny140 := Aside0.mk hy140
 clear hy140
 obtain rfl := Option.some.inj H
 go_enter Try.func36, Try.ntmps36
 go_wp2_with (first | ((with_reducible refine gate_dst (N := 3) rfl ?_); refine Kd.N_lit k58 _ 58 ?hg (N' := 3) ?hd (xs := ([(⟨5, 1, 0, 0, 1, 3, (⟨#[97, 112, 105]⟩ : ByteArray), (⟨#[118, 49]⟩ : ByteArray), (⟨#[103, 101, 116]⟩ : ByteArray), 0, 10, false, ([] : List (S141)), ([] : List (S146))⟩ : S58), (⟨5, 2, 0, 0, 1, 3, (⟨#[97, 112, 105]⟩ : ByteArray), (⟨#[118, 50]⟩ : ByteArray), (⟨#[103, 101, 116]⟩ : ByteArray), 3, 8, true, ([] : List (S141)), ([] : List (S146))⟩ : S58)] : List (S58))) (inner := [.int .i64 5, .int .i64 1, .int .i64 0, .int .i64 0, .int .i64 1, .int .i64 3, .string (⟨#[97, 112, 105]⟩ : ByteArray), .string (⟨#[118, 49]⟩ : ByteArray), .string (⟨#[103, 101, 116]⟩ : ByteArray), .int .i64 0, .int .i64 10, .bool false, .slice none 0 0, .slice none 0 0, .int .i64 5, .int .i64 2, .int .i64 0, .int .i64 0, .int .i64 1, .int .i64 3, .string (⟨#[97, 112, 105]⟩ : ByteArray), .string (⟨#[118, 50]⟩ : ByteArray), .string (⟨#[103, 101, 116]⟩ : ByteArray), .int .i64 3, .int .i64 8, .bool true, .slice none 0 0, .slice none 0 0]) (ok := (fun k_ => (w.heap.size ≤ k_))) (okp := (fun k_ => (w.heap.size ≤ k_))) ?hr ?hp (fun _ hk => hk) ((show ∀ k_, w.heap.size ≤ k_ → (fun k_ => (w.heap.size ≤ k_)) k_ from fun k_ hk => (Nat.le_trans (below_size qgknown_0) hk)) _ (Nat.le_refl _)) (Below.refl _ _) (Nat.le_refl _) (by simp) ?_; (case hd => rfl); (case hg => rfl); (case hr => exact qgknown_11); (case hp => exact (Reps.front (show Kd.FK k58 _ _ (⟨5, 1, 0, 0, 1, 3, (⟨#[97, 112, 105]⟩ : ByteArray), (⟨#[118, 49]⟩ : ByteArray), (⟨#[103, 101, 116]⟩ : ByteArray), 0, 10, false, ([] : List (S141)), ([] : List (S146))⟩ : S58) [.int .i64 5, .int .i64 1, .int .i64 0, .int .i64 0, .int .i64 1, .int .i64 3, .string (⟨#[97, 112, 105]⟩ : ByteArray), .string (⟨#[118, 49]⟩ : ByteArray), .string (⟨#[103, 101, 116]⟩ : ByteArray), .int .i64 0, .int .i64 10, .bool false, .slice none 0 0, .slice none 0 0] from (k58_mkF _ _ (⟨5, 1, 0, 0, 1, 3, (⟨#[97, 112, 105]⟩ : ByteArray), (⟨#[118, 49]⟩ : ByteArray), (⟨#[103, 101, 116]⟩ : ByteArray), 0, 10, false, ([] : List (S141)), ([] : List (S146))⟩ : S58) (Nat.le_refl _) (Kd.F_nil _ _ _) (Nat.le_refl _) (Kd.F_nil _ _ _))) rfl (Reps.front (show Kd.FK k58 _ _ (⟨5, 2, 0, 0, 1, 3, (⟨#[97, 112, 105]⟩ : ByteArray), (⟨#[118, 50]⟩ : ByteArray), (⟨#[103, 101, 116]⟩ : ByteArray), 3, 8, true, ([] : List (S141)), ([] : List (S146))⟩ : S58) [.int .i64 5, .int .i64 2, .int .i64 0, .int .i64 0, .int .i64 1, .int .i64 3, .string (⟨#[97, 112, 105]⟩ : ByteArray), .string (⟨#[118, 50]⟩ : ByteArray), .string (⟨#[103, 101, 116]⟩ : ByteArray), .int .i64 3, .int .i64 8, .bool true, .slice none 0 0, .slice none 0 0] from (k58_mkF _ _ (⟨5, 2, 0, 0, 1, 3, (⟨#[97, 112, 105]⟩ : ByteArray), (⟨#[118, 50]⟩ : ByteArray), (⟨#[103, 101, 116]⟩ : ByteArray), 3, 8, true, ([] : List (S141)), ([] : List (S146))⟩ : S58) (Nat.le_refl _) (Kd.F_nil _ _ _) (Nat.le_refl _) (Kd.F_nil _ _ _))) rfl (Reps.none _ _) rfl) rfl)); intro v138 w1 ho2 hb hg_ hnew_; clear hg_ hnew_; (first | rw [← Ny137.out] at ho2 | (simp only [Int.reduceToNat] at ho2; rw [← Ny137.out] at ho2)); have n0_ := Aside0.mk (Kd.N_lower ho2 (below_size qgknown_0)); have n1_ := Aside0.mk (below_step qgknown_0 hb); clear HB; have HO139 := n0_; have HB := n1_; clear n0_ n1_; clear hb ho2; obtain ⟨Ao3, co3, eo3⟩ := Kd.N_slice HO139.out; subst eo3) | ((with_reducible refine gate_dst (N := 5) rfl ?_); refine Kd.N_lit k53 _ 53 ?hg (N' := 5) ?hd (xs := ([(⟨5, 4, y137⟩ : S53)] : List (S53))) (inner := [.int .i64 5, .int .i64 4, .slice Ao3 y137.length co3]) (ok := (fun k_ => (w.heap.size ≤ k_))) (okp := (fun k_ => (w.heap.size ≤ k_))) ?hr ?hp (fun _ hk => hk) ((show ∀ k_, w1.heap.size ≤ k_ → (fun k_ => (w.heap.size ≤ k_)) k_ from fun k_ hk => (Nat.le_trans (below_size qgknown_0) hk)) _ (Nat.le_refl _)) (Below.refl _ _) (Nat.le_refl _) (by simp) ?_; (case hd => rfl); (case hg => rfl); (case hr => exact qgknown_11); (case hp => exact (Reps.c3 (show Kd.FK k53 _ _ (⟨5, 4, y137⟩ : S53) [.int .i64 5, .int .i64 4, .slice Ao3 y137.length co3] from (k53_mkF _ _ (⟨5, 4, y137⟩ : S53) (Kd.N_reads' (Kd.N_mono (ok' := (fun k_ => (w.heap.size ≤ k_))) (HO139.out) (fun k_ hk => hk))).2.1 (Kd.N_F (Kd.N_mono (ok' := (fun k_ => (w.heap.size ≤ k_))) (HO139.out) (fun k_ hk => hk))))) (Reps.none _ _))); intro v141 w4 ho5 hb hg_ hnew_; clear hg_ hnew_; (first | rw [← Ny140.out] at ho5 | (simp only [Int.reduceToNat] at ho5; rw [← Ny140.out] at ho5)); have n0_ := Aside0.mk (Kd.N_lower ho5 (below_size qgknown_0)); have n1_ := Aside0.mk (below_step qgknown_0 hb); clear HB; clear HO139; have HO142 := n0_; have HB := n1_; clear n0_ n1_; clear hb ho5))
 go_ret
 exact ⟨_, by first | rfl | (simp [errW_none, errW_some] <;> rfl) | (simp [*, errW_none, errW_some] <;> rfl), by (with_reducible repeat (first | apply Kd.N_alloc | apply Kd.N_drewN | apply Kd.N_drew)); exact HO142.out, qgknown_0⟩

/-! ### sleuthlaw25_known: function 12 -/
def sleuthlaw25_known.l0 : Nat → List (S41) → Int → List (S41) → Int → Int → Int → Int → List (S58) → Option (Bool)
 | 0, _, _, _, _, _, _, _, _ => none
 | k + 1, x1, x2, x3, x4, x6, x158000, x158001, x158002 => if x6 ≤ 4 then ((some (([(⟨#[115]⟩ : ByteArray), (⟨#[115]⟩ : ByteArray), (⟨#[116]⟩ : ByteArray), (⟨#[115]⟩ : ByteArray)] : List ByteArray) : List ByteArray)).bind fun y158 => (if 0 ≤ (wrap64 (x6 - 1)) then (if (wrap64 (x6 - 1)) < (y158.length : Int) then (if x158002.length < 837723144972 then (sleuthlaw25_known.l0 k x1 x2 x3 x4 (wrap64 (x6 + 1)) x158000 x158001 (x158002 ++ [(⟨3, x6, 0, 0, 1, 3, rdOf ByteArray.empty y158 (wrap64 (x6 - 1)), (⟨#[]⟩ : ByteArray), (⟨#[111]⟩ : ByteArray), 0, 0, false, ([] : List (S141)), ([] : List (S146))⟩ : S58)])) else (none)) else (none)) else (none))) else ((estimate_Count.f k (([(⟨x158000, x158001, x158002⟩ : S53)] : List (S53))) ([] : List (S195)) (([(⟨0, (⟨#[115]⟩ : ByteArray), 10, 0⟩ : S60)] : List (S60))) (([(⟨0, 2⟩ : S62)] : List (S62))) 0 (⟨#[115]⟩ : ByteArray)).bind fun bt174 => (if x2 = 0 then (if x4 = 0 then (if (x1.length : Int) = 1 then (if 0 < (x1.length : Int) then (if (((rd_T41 x1 0).f1.f0) == 8 && (((rd_T41 x1 0).f1.f1) == 4 && (((rd_T41 x1 0).f1.f2) == 60 && (((rd_T41 x1 0).f1.f3) == 4)))) = true then (if (x3.length : Int) = 2 then (if 1 < (x3.length : Int) then (if (((((rd_T41 x3 1).f0.f0).toList) == ([97, 112, 105] : List UInt8) && ((((rd_T41 x3 1).f0.f1).toList) == ([118, 50] : List UInt8) && ((((rd_T41 x3 1).f0.f2).toList) == ([] : List UInt8)))) && ((((rd_T41 x3 1).f1.f0) == 4 && (((rd_T41 x3 1).f1.f1) == 4 && (((rd_T41 x3 1).f1.f2) == 20 && (((rd_T41 x3 1).f1.f3) == 4)))))) = true then (if bt174.1 = 11 then (some (bt174.2 == 15)) else (none)) else (none)) else (none)) else (none)) else (none)) else (none)) else (none)) else (none)) else (none)))
def sleuthlaw25_known.f (k : Nat)  : Option (Bool) := (sleuthlaw25_example.f).bind fun t143 => ((estimate_By.f k t143 1).bind fun bt146 => ((sleuthlaw25_example.f).bind fun t150 => ((estimate_By.f k t150 2).bind fun bt153 => (sleuthlaw25_known.l0 k bt146.1 bt146.2 bt153.1 bt153.2 1 3 1 ([] : List (S58))))))
theorem sleuthlaw25_known.mono_l : ∀ k, (∀ y0 y1 y2 y3 y4 y5 y6 y7, LeO (sleuthlaw25_known.l0 k y0 y1 y2 y3 y4 y5 y6 y7) (sleuthlaw25_known.l0 (k + 1) y0 y1 y2 y3 y4 y5 y6 y7))
 | 0 => fun _ _ _ _ _ _ _ _ r h => by simp [sleuthlaw25_known.l0] at h
 | k + 1 => by
  have ih0 := sleuthlaw25_known.mono_l k
  ·intro y0 y1 y2 y3 y4 y5 y6 y7
   unfold sleuthlaw25_known.l0
   repeat' first
   | (with_reducible exact ih0 _ _ _ _ _ _ _ _)
   | (with_reducible exact estimate_By.mono _ _ _)
   | (with_reducible exact estimate_Count.mono _ _ _ _ _ _ _)
   | (with_reducible exact LeO.refl _)
   | (with_reducible exact LeO.none _)
   | (with_reducible refine LeO.ite ?_ ?_)
   | (with_reducible refine LeO.bind ?_ (fun _ => ?_))
   | exact ih0 _ _ _ _ _ _ _ _
   | exact estimate_By.mono _ _ _
   | exact estimate_Count.mono _ _ _ _ _ _ _
   | exact LeO.none _
   | refine LeO.ite ?_ ?_
   | refine LeO.bind ?_ (fun _ => ?_)
theorem sleuthlaw25_known.mono : ∀ k, LeO (sleuthlaw25_known.f k ) (sleuthlaw25_known.f (k + 1) ) := by
 intro  k
 have ih0 := sleuthlaw25_known.mono_l k
 unfold sleuthlaw25_known.f
 repeat' first
   | (with_reducible exact ih0 _ _ _ _ _ _ _ _)
   | (with_reducible exact estimate_By.mono _ _ _)
   | (with_reducible exact estimate_Count.mono _ _ _ _ _ _ _)
   | (with_reducible exact LeO.refl _)
   | (with_reducible exact LeO.none _)
   | (with_reducible refine LeO.ite ?_ ?_)
   | (with_reducible refine LeO.bind ?_ (fun _ => ?_))
   | exact ih0 _ _ _ _ _ _ _ _
   | exact estimate_By.mono _ _ _
   | exact estimate_Count.mono _ _ _ _ _ _ _
   | exact LeO.none _
   | refine LeO.ite ?_ ?_
   | refine LeO.bind ?_ (fun _ => ?_)
def sleuthlaw25_known.T7 : Bool × List (List Nat × List Nat) := (true, [([], []), ([0], [0]), ([], []), ([], []), ([], []), ([4], [4]), ([3, 5], [3, 5]), ([6], [6]), ([2, 7], [2, 7]), ([8], [8]), ([1, 9], [1, 9]), ([0, 1, 2, 3, 4, 5, 6, 7, 8, 9, 10], []), ([11, 10, 10, 0, 1, 2, 3, 4, 5, 6, 7, 8, 9, 10], [10, 11])])
def sleuthlaw25_known.B7 : List Nat := [0, 1, 0, 0, 0, 16, 56, 120, 252, 508, 1023, 2047, 4095]
theorem sleuthlaw25_known.tab7 : rtab .any (opsOf Try.f12 7) = sleuthlaw25_known.T7 := by kernel_rfl
theorem sleuthlaw25_known.bits7 : waitsOk sleuthlaw25_known.T7.2 sleuthlaw25_known.B7 = true := by kernel_rfl
set_option maxHeartbeats 8000000 in
set_option maxRecDepth 100000 in
theorem sleuthlaw25_known.calls (k : Nat)  (r : Bool) (w : World) (h : sleuthlaw25_known.f k  = some r) :
  Calls Try.prog 12 #[] w fun e w' => e = .returned (.bool r) ∧ Below w.heap.size w w' := by
 have hu53 := Try.underlying53
 have hu58 := Try.underlying58
 have hu60 := Try.underlying60
 have hu62 := Try.underlying62
 have hu50 := Try.underlying50
 have hu37 := Try.underlying37
 have hu41 := Try.underlying41
 have hu39 := Try.underlying39
 have HB := Aside0.mk (Below.refl w.heap.size w)
 have H : ((sleuthlaw25_example.f).bind fun t143 => ((estimate_By.f k t143 1).bind fun bt146 => ((sleuthlaw25_example.f).bind fun t150 => ((estimate_By.f k t150 2).bind fun bt153 => (sleuthlaw25_known.l0 k bt146.1 bt146.2 bt153.1 bt153.2 1 3 1 ([] : List (S58))))))) = some r := h
 clear h
 replace H := Option.bind_eq_some_iff.mp H
 obtain ⟨t143, A10, H⟩ := H
 replace H : ((estimate_By.f k t143 1).bind fun bt146 => ((sleuthlaw25_example.f).bind fun t150 => ((estimate_By.f k t150 2).bind fun bt153 => (sleuthlaw25_known.l0 k bt146.1 bt146.2 bt153.1 bt153.2 1 3 1 ([] : List (S58)))))) = some r := H
 have A1 := Aside0.mk A10
 clear A10
 replace H := Option.bind_eq_some_iff.mp H
 obtain ⟨⟨t146, t147⟩, A20, H⟩ := H
 replace H : ((sleuthlaw25_example.f).bind fun t150 => ((estimate_By.f k t150 2).bind fun bt153 => (sleuthlaw25_known.l0 k t146 t147 bt153.1 bt153.2 1 3 1 ([] : List (S58))))) = some r := H
 have A2 := Aside0.mk A20
 clear A20
 replace H := Option.bind_eq_some_iff.mp H
 obtain ⟨t150, A30, H⟩ := H
 replace H : ((estimate_By.f k t150 2).bind fun bt153 => (sleuthlaw25_known.l0 k t146 t147 bt153.1 bt153.2 1 3 1 ([] : List (S58)))) = some r := H
 have A3 := Aside0.mk A30
 clear A30
 replace H := Option.bind_eq_some_iff.mp H
 obtain ⟨⟨t153, t154⟩, A40, H⟩ := H
 replace H : (sleuthlaw25_known.l0 k t146 t147 t153 t154 1 3 1 ([] : List (S58))) = some r := H
 have A4 := Aside0.mk A40
 clear A40
 have H' := Aside0.mk H
 clear H
 go_enter Try.func12, Try.ntmps12
 go_wp2_with (first | ((with_reducible refine gate_callee (f := 36) rfl ?_); refine goesL_ (some 10) rfl rfl Try.func36 (by kernel_rfl) rfl #[] rfl qgknown_5 ?_; (with_reducible refine (sleuthlaw25_example.calls  t143 _ A1.out).mono ?_); rintro e w5 ⟨v144, rfl, ho0, hb⟩; refine ⟨_, rfl, ?_⟩; have n0_ := Aside0.mk (Kd.N_lower (Kd.N_mono (ok' := fun k_ => True) ho0 (fun k_ hk_ => trivial)) (below_size qgknown_0)); have n1_ := Aside0.mk (below_step qgknown_0 hb); clear HB; have HO145 := n0_; have HB := n1_; clear n0_ n1_; (try clear hb); (try clear hb2); (try clear hk); (try clear hi); (try clear ho0); obtain ⟨Ao6, co6, eo6⟩ := Kd.N_slice HO145.out; subst eo6) | ((with_reducible refine gate_callee (f := 14) rfl ?_); refine goesL_ (some 11) rfl rfl Try.func14 (by kernel_rfl) rfl #[.slice Ao6 t143.length co6, .int .i64 1] rfl qgknown_5 ?_; (with_reducible refine (estimate_By.calls k _ _ t143 1 t146 t147 _ ?side1 ?side2 A2.out).mono ?_); (case side1 => repeat (first | exact (Kd.N_reads' HO145.out).2.2 | (with_reducible refine Kd.C_alloc ?_ _) | (with_reducible refine Kd.C_drewN ?_ _) | (with_reducible refine Kd.C_drew ?_))); (case side2 => exact (Kd.N_reads' HO145.out).2.1); rintro e w7 ⟨v148, rfl, ho0, hb⟩; refine ⟨_, rfl, ?_⟩; have n0_ := Aside0.mk (Kd.N_elder' qgknown_6 (Kd.R_base ho0) hb); have n1_ := Aside0.mk (Kd.R_lower ho0 (below_size qgknown_0)); have n2_ := Aside0.mk (below_step qgknown_0 hb); clear HO145; clear HB; have HO145 := n0_; have HO149 := n1_; have HB := n2_; clear n0_ n1_ n2_; (try clear hb); (try clear hb2); (try clear hk); (try clear hi); (try clear ho0)) | ((with_reducible refine gate_callee (f := 36) rfl ?_); refine goesL_ (some 15) rfl rfl Try.func36 (by kernel_rfl) rfl #[] rfl qgknown_5 ?_; (with_reducible refine (sleuthlaw25_example.calls  t150 _ A3.out).mono ?_); rintro e w8 ⟨v151, rfl, ho0, hb⟩; refine ⟨_, rfl, ?_⟩; have n0_ := Aside0.mk (Kd.N_elder' qgknown_6 (Kd.N_base ho0) hb); have n1_ := Aside0.mk (Kd.R_below qgknown_7 hb); have n2_ := Aside0.mk (Kd.N_lower (Kd.N_mono (ok' := fun k_ => some k_ ≠ (.slice Ao6 t143.length co6 : Value).ownBlock ∧ some k_ ≠ (v148 : Value).ownBlock) ho0 (fun k_ hk_ => ⟨(Kd.fresh' (Kd.N_lt qgknown_6) k_ hk_), (Kd.fresh' (Kd.R_lt qgknown_7) k_ hk_)⟩)) (below_size qgknown_0)); have n3_ := Aside0.mk (below_step qgknown_0 hb); clear HO145; clear HO149; clear HB; have HO145 := n0_; have HO149 := n1_; have HO152 := n2_; have HB := n3_; clear n0_ n1_ n2_ n3_; (try clear hb); (try clear hb2); (try clear hk); (try clear hi); (try clear ho0); obtain ⟨Ao9, co9, eo9⟩ := Kd.N_slice HO152.out; subst eo9) | ((with_reducible refine gate_callee (f := 14) rfl ?_); refine goesL_ (some 16) rfl rfl Try.func14 (by kernel_rfl) rfl #[.slice Ao9 t150.length co9, .int .i64 2] rfl qgknown_5 ?_; (with_reducible refine (estimate_By.calls k _ _ t150 2 t153 t154 _ ?side1 ?side2 A4.out).mono ?_); (case side1 => repeat (first | exact (Kd.N_reads' HO152.out).2.2 | (with_reducible refine Kd.C_alloc ?_ _) | (with_reducible refine Kd.C_drewN ?_ _) | (with_reducible refine Kd.C_drew ?_))); (case side2 => exact (Kd.N_reads' HO152.out).2.1); rintro e w10 ⟨v155, rfl, ho0, hb⟩; refine ⟨_, rfl, ?_⟩; have n0_ := Aside0.mk (Kd.N_elder' qgknown_6 (Kd.R_base ho0) hb); have n1_ := Aside0.mk (Kd.R_elder' qgknown_7 (Kd.R_base ho0) hb); have n2_ := Aside0.mk (Kd.N_elder' (by (with_reducible repeat (first | apply Kd.N_alloc | apply Kd.N_drewN | apply Kd.N_drew)); exact HO152.out) (Kd.R_base ho0) hb); have n3_ := Aside0.mk (Kd.R_lower (Kd.R_new' ho0 (Kd.R_lt qgknown_7)) (below_size qgknown_0)); have n4_ := Aside0.mk (below_step qgknown_0 hb); clear HO145; clear HO149; clear HO152; clear HB; have HO145 := n0_; have HO149 := n1_; have HO152 := n2_; have HO156 := n3_; have HB := n4_; clear n0_ n1_ n2_ n3_ n4_; (try clear hb); (try clear hb2); (try clear hk); (try clear hi); (try clear ho0)) | ((with_reducible refine gate_dst (N := 5) rfl ?_); (try (refine gate_guard (by rfl) ?_; dsimp only)); refine box_event ?hg (N := 5) ?hd (cs := #[.int .i64 0, .int .i64 0, .slice none 0 0]) (t := 53) ?hr ?_; (case hd => rfl); (case hg => rfl); (case hr => exact qgknown_11); intro gb157 hg w11 hbox hb; have n0_ := Aside0.mk (Kd.N_below (Kd.N_elderB qgknown_6 gb157 (Nat.le_of_eq hg.symm)) hb); have n1_ := Aside0.mk (Kd.R_below qgknown_7 hb); have n2_ := Aside0.mk (Kd.N_below (Kd.N_elderB (by (with_reducible repeat (first | apply Kd.N_alloc | apply Kd.N_drewN | apply Kd.N_drew)); exact HO152.out) gb157 (Nat.le_of_eq hg.symm)) hb); have n3_ := Aside0.mk (Kd.R_below (by (with_reducible repeat (first | apply Kd.R_alloc | apply Kd.R_drewN | apply Kd.R_drew)); exact HO156.out) hb); have n4_ := Aside0.mk (below_step qgknown_0 hb); have n5_ := Aside0.mk (hbox); have n6_ := Aside0.mk ((by rw [hg]; exact (below_size qgknown_0) : w.heap.size ≤ gb157)); have n7_ := Aside0.mk ((by rw [hg]; exact (below_size qgknown_0) : w.heap.size ≤ gb157)); clear HO145; clear HO149; clear HO152; clear HO156; clear HB; have HO145 := n0_; have HO149 := n1_; have HO152 := n2_; have HO156 := n3_; have HB := n4_; have BK157 := n5_; have GW157 := n6_; have GE157 := n7_; clear n0_ n1_ n2_ n3_ n4_ n5_ n6_ n7_; clear hb hbox hg; have hcz12_0 : w11.cell? ⟨gb157, 0, none⟩ = some (.int .i64 0) := (blk_cell BK157.out 0).trans rfl; have hcz12_1 : w11.cell? ⟨gb157, 1, none⟩ = some (.int .i64 0) := (blk_cell BK157.out 1).trans rfl; have hcz12_2 : w11.cell? ⟨gb157, 2, none⟩ = some (.slice none 0 0) := (blk_cell BK157.out 2).trans rfl; have hfz12_0 := blk_frozen BK157.out 0; have hfz12_1 := blk_frozen BK157.out 1; have hfz12_2 := blk_frozen BK157.out 2))
 go_loopg [6] k (fun kq v6 w' => ∃ (x6_1 : Int) (x158002_1 : List (S58)) (u158002 : Value), v6 = .int .i64 x6_1 ∧ Aside0 (sleuthlaw25_known.l0 kq t146 t147 t153 t154 x6_1 3 1 x158002_1 = some r) ∧ Aside0 (kq ≤ k) ∧ Aside0 (Kd.R k41 41 w' w.heap.size (fun k_ => some k_ ≠ (v155 : Value).ownBlock) v148 t146) ∧ Aside0 (Kd.R k41 41 w' w.heap.size (fun k_ => some k_ ≠ (v148 : Value).ownBlock) v155 t153) ∧ Aside0 (Kd.N k58 58 w' w.heap.size (fun k_ => some k_ ≠ (v148 : Value).ownBlock ∧ some k_ ≠ (v155 : Value).ownBlock ∧ k_ ≠ gb157) u158002 x158002_1) ∧ Aside0 (w'.heap[gb157]? = some (.cells #[.int .i64 3, .int .i64 1, u158002] 53 (0, 0))) ∧ Aside0 (Below w.heap.size w w'))
 case atStart => exact ⟨(1), (([] : List (S58))), (.slice none 0 0), (by first | rfl | (simp; done) | (simp [*]; done)), H', ⟨Nat.le_refl _⟩, ⟨by (with_reducible repeat (first | apply Kd.R_alloc | apply Kd.R_drewN | apply Kd.R_drew)); exact Kd.R_mono (Kd.R_far (p := ⟨gb157, 2, none⟩) (Kd.R_far (p := ⟨gb157, 1, none⟩) (Kd.R_far (p := ⟨gb157, 0, none⟩) (Kd.R_types HO149.out BK157.out (by decide)) (fun _ hk => hk.2) (.int .i64 3)) (fun _ hk => hk.2) (.int .i64 1)) (fun _ hk => hk.2) (.slice none 0 0)) (fun _ hk => hk.1.2)⟩, ⟨by (with_reducible repeat (first | apply Kd.R_alloc | apply Kd.R_drewN | apply Kd.R_drew)); exact Kd.R_mono (Kd.R_far (p := ⟨gb157, 2, none⟩) (Kd.R_far (p := ⟨gb157, 1, none⟩) (Kd.R_far (p := ⟨gb157, 0, none⟩) (Kd.R_types HO156.out BK157.out (by decide)) (fun _ hk => hk.2) (.int .i64 3)) (fun _ hk => hk.2) (.int .i64 1)) (fun _ hk => hk.2) (.slice none 0 0)) (fun _ hk => hk.1.2)⟩, ⟨by first | exact Kd.S_nil _ _ _ _ _ | exact Kd.N_nil _ _ _ _ _ | exact Kd.V_nil _ _ _ _ _ | exact Kd.Q_nil _ _ _ _ _ | exact Kd.R_nil _ _ _ _ _⟩, ⟨by (with_reducible repeat (first | refine blk_drewN ?_ _ | refine blk_drew ?_ | refine blk_alloc ?_ _)); refine blk_put (cs := #[.int .i64 3, .int .i64 1, .slice none 0 0]) ?_ 2 _ rfl; (with_reducible repeat (first | refine blk_drewN ?_ _ | refine blk_drew ?_ | refine blk_alloc ?_ _)); refine blk_put (cs := #[.int .i64 3, .int .i64 0, .slice none 0 0]) ?_ 1 _ rfl; (with_reducible repeat (first | refine blk_drewN ?_ _ | refine blk_drew ?_ | refine blk_alloc ?_ _)); refine blk_put (cs := #[.int .i64 0, .int .i64 0, .slice none 0 0]) ?_ 0 _ rfl; (with_reducible repeat (first | refine blk_drewN ?_ _ | refine blk_drew ?_ | refine blk_alloc ?_ _)); exact BK157.out⟩, ⟨qgknown_1⟩⟩
 clear H'
 try clear c1
 try clear p2
 try clear c3
 try clear c12
 try clear hcz12_0
 try clear hcz12_1
 try clear hcz12_2
 try clear hfz12_0
 try clear hfz12_1
 try clear hfz12_2
 obtain ⟨x6_1, x158002_1, u158002, rfl, HA, HK1, HO_1, HO_3, HO_158002, BK157, HB⟩ := hrel
 cases gk with
 | zero => exact absurd HA.out (by simp [sleuthlaw25_known.l0])
 | succ k1 =>
  have H := HA.out
  clear HA
  simp only [sleuthlaw25_known.l0] at H
  by_cases c13 : x6_1 ≤ 4
  ·rw [if_pos c13] at H
   have c13b0 : decide (x6_1 ≤ 4) = true := decide_eq_true c13
   clear c13
   obtain ⟨y158, hy158⟩ : ∃ y_ : List ByteArray, y_ = (([(⟨#[115]⟩ : ByteArray), (⟨#[115]⟩ : ByteArray), (⟨#[116]⟩ : ByteArray), (⟨#[115]⟩ : ByteArray)] : List ByteArray)) := ⟨_, rfl⟩
   replace H : (if 0 ≤ (wrap64 (x6_1 - 1)) then (if (wrap64 (x6_1 - 1)) < (y158.length : Int) then (if x158002_1.length < 837723144972 then (sleuthlaw25_known.l0 k1 t146 t147 t153 t154 (wrap64 (x6_1 + 1)) 3 1 (x158002_1 ++ [(⟨3, x6_1, 0, 0, 1, 3, rdOf ByteArray.empty y158 (wrap64 (x6_1 - 1)), (⟨#[]⟩ : ByteArray), (⟨#[111]⟩ : ByteArray), 0, 0, false, ([] : List (S141)), ([] : List (S146))⟩ : S58)])) else (none)) else (none)) else (none)) = some r := by first | (rw [hy158]; with_reducible exact H) | (have H2_ := (Option.bind_some _ _).symm.trans H; rw [hy158]; with_reducible exact H2_) | (have H2_ := (Option.bind_some _ _).symm.trans H; with_reducible exact H2_) | with_reducible exact H | (rw [hy158]; exact H) | exact H
   have Ny158 := Aside0.mk hy158
   clear hy158
   obtain ⟨ji14, hji14⟩ : ∃ j_ : Int, (wrap64 (x6_1 - 1)) = j_ := ⟨_, rfl⟩
   replace H : (if 0 ≤ (ji14) then (if (ji14) < (y158.length : Int) then (if x158002_1.length < 837723144972 then (sleuthlaw25_known.l0 k1 t146 t147 t153 t154 (wrap64 (x6_1 + 1)) 3 1 (x158002_1 ++ [(⟨3, x6_1, 0, 0, 1, 3, rdOf ByteArray.empty y158 (ji14), (⟨#[]⟩ : ByteArray), (⟨#[111]⟩ : ByteArray), 0, 0, false, ([] : List (S141)), ([] : List (S146))⟩ : S58)])) else (none)) else (none)) else (none)) = some r := by first | (rw [hji14] at H; exact H) | (simp only [hji14] at H ⊢; exact H)
   have hji14w : (IntKind.i64.wrap (x6_1 - 1)) = ji14 := (i64_w _).trans hji14
   by_cases c15 : 0 ≤ (ji14)
   rotate_left
   ·rw [if_neg c15] at H
    exact absurd H (by simp)
   rw [if_pos c15] at H
   have c15b0 : decide (0 ≤ (ji14)) = true := decide_eq_true c15
   clear c15
   by_cases c16 : (ji14) < (y158.length : Int)
   rotate_left
   ·rw [if_neg c16] at H
    exact absurd H (by simp)
   rw [if_pos c16] at H
   have c16b0 : decide ((ji14) < (y158.length : Int)) = true := decide_eq_true c16
   clear c16
   by_cases c17 : x158002_1.length < 837723144972
   rotate_left
   ·rw [if_neg c17] at H
    exact absurd H (by simp)
   rw [if_pos c17] at H
   have LMc17 := Aside0.mk c17
   clear c17
   obtain ⟨y162, hy162⟩ : ∃ y_ : List (S58), y_ = (x158002_1 ++ [(⟨3, x6_1, 0, 0, 1, 3, rdOf ByteArray.empty y158 (ji14), (⟨#[]⟩ : ByteArray), (⟨#[111]⟩ : ByteArray), 0, 0, false, ([] : List (S141)), ([] : List (S146))⟩ : S58)]) := ⟨_, rfl⟩
   replace H : (sleuthlaw25_known.l0 k1 t146 t147 t153 t154 (wrap64 (x6_1 + 1)) 3 1 y162) = some r := by first | (rw [hy162]; with_reducible exact H) | (have H2_ := (Option.bind_some _ _).symm.trans H; rw [hy162]; with_reducible exact H2_) | (have H2_ := (Option.bind_some _ _).symm.trans H; with_reducible exact H2_) | with_reducible exact H | (rw [hy162]; exact H) | exact H
   have Ny162 := Aside0.mk hy162
   clear hy162
   have H' := Aside0.mk H
   clear H
   try go_wp2
   have pi161 : (0 ≤ ((ji14) : Int)) = True := eq_true (of_decide_eq_true qgknown_9)
   have qi161 : ((ji14) < (y158.length : Int)) = True := eq_true (of_decide_eq_true qgknown_9)
   have n0_ := Aside0.mk (Kd.R_drew HO_1.out)
   have n1_ := Aside0.mk (Kd.R_drew HO_3.out)
   have n2_ := Aside0.mk (Kd.N_drew HO_158002.out)
   have n3_ := Aside0.mk (blk_drew BK157.out)
   have n4_ := Aside0.mk (below_drew1 HB.out)
   clear HO_1
   clear HO_3
   clear HO_158002
   clear BK157
   clear HB
   have HO_1 := n0_
   have HO_3 := n1_
   have HO_158002 := n2_
   have BK157 := n3_
   have HB := n4_
   clear n0_ n1_ n2_ n3_ n4_
   refine start_ (n := 13) (S := fun w' => w'.cell? ⟨gb157, 0, none⟩ = some (.int .i64 3) ∧ w'.cell? ⟨gb157, 1, none⟩ = some (.int .i64 1) ∧ w'.cell? ⟨gb157, 2, none⟩ = some (u158002)) (ds := [12]) #[F4970, F4970, F4970, F4970, F4970, F4970, F4970, F4970, F4970, F4970, F4970, F4970, F4970] (by kernel_rfl) rfl rfl ⟨(blk_cell BK157.out 0).trans rfl, (blk_cell BK157.out 1).trans rfl, (blk_cell BK157.out 2).trans rfl⟩ (fun hHeld => ?_); refine with_tabW sleuthlaw25_known.tab7 sleuthlaw25_known.bits7 (fun HT_ HW_ => ?_)
   generalize wr.drew = w18 at HO_1 HO_3 HO_158002 BK157 HB hHeld ⊢
   refine pure_ (i := 0) (N := some 24) (v := ?_) (a' := ?_) #[T4970, F4970, F4970, F4970, F4970, F4970, F4970, F4970, F4970, F4970, F4970, F4970, F4970] rfl rfl (any_of HT_.out (by kernel_rfl)) (fun _ _ _ h => h) (Or.inl ⟨by rfl, ?_⟩) ?_ ?_
   rotate_left
   ·intro w'
    go_simp
    with_reducible rfl
   rotate_left
   ·simp only [Act.put, List.setIfInBounds_toArray, List.set_cons_zero, List.set_cons_succ, i64_w, i32_w]
    rfl
   refine pure_ (i := 2) (N := some 26) (v := ?_) (a' := ?_) #[T4970, F4970, T4970, F4970, F4970, F4970, F4970, F4970, F4970, F4970, F4970, F4970, F4970] rfl rfl (any_of HT_.out (by kernel_rfl)) (fun _ _ _ h => h) (Or.inl ⟨by rfl, ?_⟩) ?_ ?_
   rotate_left
   ·intro w'
    go_simp
    with_reducible rfl
   rotate_left
   ·simp only [Act.put, List.setIfInBounds_toArray, List.set_cons_zero, List.set_cons_succ, i64_w, i32_w]
    rfl
   refine pure_ (i := 4) (N := some 28) (v := ?_) (a' := ?_) #[T4970, F4970, T4970, F4970, T4970, F4970, F4970, F4970, F4970, F4970, F4970, F4970, F4970] rfl rfl (any_of HT_.out (by kernel_rfl)) (fun _ _ _ h => h) (Or.inl ⟨by rfl, ?_⟩) ?_ ?_
   rotate_left
   ·intro w'
    go_simp
    with_reducible rfl
   rotate_left
   ·simp only [Act.put, List.setIfInBounds_toArray, List.set_cons_zero, List.set_cons_succ, i64_w, i32_w]
    rfl
   refine pure_ (i := 5) (N := some 29) (v := ?_) (a' := ?_) #[T4970, F4970, T4970, F4970, T4970, T4970, F4970, F4970, F4970, F4970, F4970, F4970, F4970] rfl rfl (any_of HT_.out (by kernel_rfl)) (fun _ _ _ h => h) (Or.inl ⟨by rfl, ?_⟩) ?_ ?_
   rotate_left
   ·intro w'
    go_simp
    with_reducible rfl
   rotate_left
   ·simp only [Act.put, List.setIfInBounds_toArray, List.set_cons_zero, List.set_cons_succ, i64_w, i32_w]
    rfl
   refine take_ (i := 1) (N := some 25) (v := ?_) (a' := ?_) #[T4970, T4970, T4970, F4970, T4970, T4970, F4970, F4970, F4970, F4970, F4970, F4970, F4970] rfl rfl (take_ofW HT_.out HW_.out (by kernel_rfl)) (fun _ _ _ h => h) (Or.inl ⟨by rfl, ?_⟩) hHeld ?_ ?_
   rotate_left
   ·rintro w' ⟨s0, s1, s2⟩
    go_simp
    with_reducible rfl
   rotate_left
   ·simp only [Act.put, List.setIfInBounds_toArray, List.set_cons_zero, List.set_cons_succ, i64_w, i32_w]
    rfl
   refine one_ (i := 3) (N := some 27) #[T4970, T4970, T4970, T4970, T4970, T4970, F4970, F4970, F4970, F4970, F4970, F4970, F4970] rfl rfl (one_of HT_.out (by kernel_rfl)) (by decide) (fun K hK => ?_)
   refine Kd.R_lit_step Kd.string _ 9 ?hg (N := 27) ?hd (xs := ([(⟨#[115]⟩ : ByteArray), (⟨#[115]⟩ : ByteArray), (⟨#[116]⟩ : ByteArray), (⟨#[115]⟩ : ByteArray)] : List ByteArray)) (inner := [.string (⟨#[115]⟩ : ByteArray), .string (⟨#[115]⟩ : ByteArray), .string (⟨#[116]⟩ : ByteArray), .string (⟨#[115]⟩ : ByteArray)]) (ok := fun _ => True) (okp := fun _ => True) ?hr ?hp (fun _ hk => hk) trivial (Below.refl _ _) (Nat.le_refl _) (by simp) ?_; (case hd => rfl); (case hg => rfl); (case hr => exact qgknown_11); (case hp => exact (Reps.one (show Kd.M Kd.string _ _ _ (⟨#[115]⟩ : ByteArray) [.string (⟨#[115]⟩ : ByteArray)] from rfl) (Reps.one (show Kd.M Kd.string _ _ _ (⟨#[115]⟩ : ByteArray) [.string (⟨#[115]⟩ : ByteArray)] from rfl) (Reps.one (show Kd.M Kd.string _ _ _ (⟨#[116]⟩ : ByteArray) [.string (⟨#[116]⟩ : ByteArray)] from rfl) (Reps.one (show Kd.M Kd.string _ _ _ (⟨#[115]⟩ : ByteArray) [.string (⟨#[115]⟩ : ByteArray)] from rfl) (Reps.none _ _))))))
   intro v159 w19 ho20 hb hg_ hnew_
   clear hg_ hnew_
   (first | rw [← Ny158.out] at ho20 | (simp only [Int.reduceToNat] at ho20; rw [← Ny158.out] at ho20))
   have n0_ := Aside0.mk (Kd.R_below qgknown_3 hb)
   have n1_ := Aside0.mk (Kd.R_below qgknown_4 hb)
   have n2_ := Aside0.mk (Kd.N_elder' qgknown_8 (Kd.R_base ho20) hb)
   have n3_ := Aside0.mk (Kd.R_lower ho20 (below_size qgknown_1))
   have n4_ := Aside0.mk (blk_below (g := gb157) (o := .cells #[.int .i64 3, .int .i64 1, u158002] 53 (0, 0)) qgknown_2 hb)
   have n5_ := Aside0.mk (below_step qgknown_1 hb)
   clear HO_1
   clear HO_3
   clear HO_158002
   clear BK157
   clear HB
   have HO_1 := n0_
   have HO_3 := n1_
   have HO_158002 := n2_
   have HO160 := n3_
   have BK157 := n4_
   have HB := n5_
   clear n0_ n1_ n2_ n3_ n4_ n5_
   clear hb ho20
   obtain ⟨Ao21, co21, eo21⟩ := Kd.R_slice HO160.out
   subst eo21
   obtain ⟨ado21, fo21, _⟩ := Kd.at_string (Kd.R_reads' HO160.out).2.2 0 (by decide) (by rw [Ny158.out]; simp)
   cases fo21
   refine hK.out _ _ ⟨(blk_cell BK157.out 0).trans rfl, (blk_cell BK157.out 1).trans rfl, (blk_cell BK157.out 2).trans rfl⟩ (fun hHeld => ?_)
   clear hK K
   refine norm_ (a' := ?_) ?_ ?_
   rotate_left
   ·show Act.put _ (some 27) _ = _
    simp only [Act.put, List.setIfInBounds_toArray, List.set_cons_zero, List.set_cons_succ, i64_w, i32_w]
    rfl
   refine pure_ (i := 6) (N := some 30) (v := ?_) (a' := ?_) #[T4970, T4970, T4970, T4970, T4970, T4970, T4970, F4970, F4970, F4970, F4970, F4970, F4970] rfl rfl (any_of HT_.out (by kernel_rfl)) (fun _ _ _ h => h) (Or.inl ⟨by rfl, ?_⟩) ?_ ?_
   rotate_left
   ·intro w'
    go_simp
    with_reducible rfl
   rotate_left
   ·simp only [Act.put, List.setIfInBounds_toArray, List.set_cons_zero, List.set_cons_succ, i64_w, i32_w]
    rfl
   refine one_ (i := 7) (N := some 31) #[T4970, T4970, T4970, T4970, T4970, T4970, T4970, T4970, F4970, F4970, F4970, F4970, F4970] rfl rfl (one_of HT_.out (by kernel_rfl)) (by decide) (fun K hK => ?_)
   (have p161 : 0 ≤ ((ji14) : Int) := of_decide_eq_true qgknown_9; have q161 : (ji14) < (y158.length : Int) := of_decide_eq_true qgknown_9; obtain ⟨ad161, e161, hx161_0⟩ := Kd.at_string (Kd.R_reads' HO160.out).2.2 (ji14) p161 q161; obtain rfl : ado21 = ad161 := (by injection e161))
   refine value_ (w1 := ?_) (v := ?_) (by rfl) rfl ?_ ?_
   rotate_left 2
   ·go_simp
    constructor
    ·rfl
    ·rfl
   clear hx161_0
   refine hK.out _ _ ⟨(blk_cell BK157.out 0).trans rfl, (blk_cell BK157.out 1).trans rfl, (blk_cell BK157.out 2).trans rfl⟩ (fun hHeld => ?_)
   clear hK K
   refine norm_ (a' := ?_) ?_ ?_
   rotate_left
   ·show Act.put _ (some 31) _ = _
    simp only [Act.put, List.setIfInBounds_toArray, List.set_cons_zero, List.set_cons_succ, i64_w, i32_w]
    rfl
   refine pure_ (i := 8) (N := some 32) (v := ?_) (a' := ?_) #[T4970, T4970, T4970, T4970, T4970, T4970, T4970, T4970, T4970, F4970, F4970, F4970, F4970] rfl rfl (any_of HT_.out (by kernel_rfl)) (fun _ _ _ h => h) (Or.inl ⟨by rfl, ?_⟩) ?_ ?_
   rotate_left
   ·intro w'
    go_simp
    with_reducible rfl
   rotate_left
   ·simp only [Act.put, List.setIfInBounds_toArray, List.set_cons_zero, List.set_cons_succ, i64_w, i32_w]
    rfl
   refine one_ (i := 9) (N := some 33) #[T4970, T4970, T4970, T4970, T4970, T4970, T4970, T4970, T4970, T4970, F4970, F4970, F4970] rfl rfl (one_of HT_.out (by kernel_rfl)) (by decide) (fun K hK => ?_)
   refine value_ (w1 := ?_) (v := ?_) (by rfl) rfl ?_ ?_
   rotate_left 2
   ·go_simp
    constructor
    ·rfl
    ·rfl
   refine hK.out _ _ ⟨(blk_cell (blk_alloc BK157.out _) 0).trans rfl, (blk_cell (blk_alloc BK157.out _) 1).trans rfl, (blk_cell (blk_alloc BK157.out _) 2).trans rfl⟩ (fun hHeld => ?_)
   clear hK K
   refine norm_ (a' := ?_) ?_ ?_
   rotate_left
   ·show Act.put _ (some 33) _ = _
    simp only [Act.put, List.setIfInBounds_toArray, List.set_cons_zero, List.set_cons_succ, i64_w, i32_w]
    rfl
   refine one_ (i := 10) (N := some 34) #[T4970, T4970, T4970, T4970, T4970, T4970, T4970, T4970, T4970, T4970, T4970, F4970, F4970] rfl rfl (one_of HT_.out (by kernel_rfl)) (by decide) (fun K hK => ?_)
   refine Kd.N_append_step k58 (w0 := w) w.heap.size (by rfl) (.tmp 25) (.tmp 33) 51 58 (.agg #[(.int .i64 0), (.int .i64 0), (.int .i64 0), (.int .i64 0), (.int .i64 0), (.int .i64 0), (.string ⟨#[]⟩), (.string ⟨#[]⟩), (.string ⟨#[]⟩), (.int .i64 0), (.int .i64 0), (.bool false), (.slice none 0 0), (.slice none 0 0)]) 168 rfl Try.underlying51 info58 rfl (by decide) (by omega) u158002 x158002_1 (⟨3, x6_1, 0, 0, 1, 3, rdOf ByteArray.empty y158 (ji14), (⟨#[]⟩ : ByteArray), (⟨#[111]⟩ : ByteArray), 0, 0, false, ([] : List (S141)), ([] : List (S146))⟩ : S58) [.int .i64 3, .int .i64 x6_1, .int .i64 0, .int .i64 0, .int .i64 1, .int .i64 3, .string (rdOf ByteArray.empty y158 (ji14)), .string (⟨#[]⟩ : ByteArray), .string (⟨#[111]⟩ : ByteArray), .int .i64 0, .int .i64 0, .bool false, .slice none 0 0, .slice none 0 0] (fun k_ => some k_ ≠ (v148 : Value).ownBlock ∧ some k_ ≠ (v155 : Value).ownBlock ∧ some k_ ≠ (.slice (some ado21) y158.length co21 : Value).ownBlock ∧ k_ ≠ gb157) (fun k_ => ((fun k_ => some k_ ≠ (v148 : Value).ownBlock ∧ some k_ ≠ (v155 : Value).ownBlock ∧ some k_ ≠ (.slice (some ado21) y158.length co21 : Value).ownBlock ∧ k_ ≠ gb157)) k_ ∧ some k_ ≠ (u158002 : Value).ownBlock) rfl rfl ?aP (fun _ hk => hk) ?aF ?aO ?aB ?aS ?aL ?_
   (case aP => exact (k58_mkF _ _ (⟨3, x6_1, 0, 0, 1, 3, rdOf ByteArray.empty y158 (ji14), (⟨#[]⟩ : ByteArray), (⟨#[111]⟩ : ByteArray), 0, 0, false, ([] : List (S141)), ([] : List (S146))⟩ : S58) (Nat.le_refl _) (Kd.F_nil _ _ _) (Nat.le_refl _) (Kd.F_nil _ _ _)))
   (case aB => exact qgknown_1)
   (case aF => exact (fun k_ hk => ⟨Kd.fresh' (Kd.R_lt qgknown_3) k_ hk, Kd.fresh' (Kd.R_lt qgknown_4) k_ hk, Kd.fresh' (Kd.R_lt (by (with_reducible repeat (first | apply Kd.R_alloc | apply Kd.R_drewN | apply Kd.R_drew)); exact HO160.out)) k_ hk, Kd.freshB (g := gb157) (o := .cells #[.int .i64 3, .int .i64 1, u158002] 53 (0, 0)) qgknown_2 k_ hk⟩))
   (case aO => exact (by (with_reducible repeat (first | apply Kd.N_alloc | apply Kd.N_drewN | apply Kd.N_drew)); exact Kd.N_mono HO_158002.out (fun _ hk => ⟨hk.1.1, ⟨hk.1.2.1, ⟨hk.2, hk.1.2.2⟩⟩⟩)))
   (case aS => exact (below_size qgknown_1))
   (case aL => have := LMc17.out; omega)
   intro v163 w22 ho hb hg hat
   rw [← Ny162.out] at ho
   have n0_ := Aside0.mk (Kd.R_over' qgknown_3 (Kd.N_typed qgknown_8) (by decide) hg)
   have n1_ := Aside0.mk (Kd.R_over' qgknown_4 (Kd.N_typed qgknown_8) (by decide) hg)
   have n2_ := Aside0.mk (blk_grown (g := gb157) (o := .cells #[.int .i64 3, .int .i64 1, u158002] 53 (0, 0)) qgknown_2 hg (Kd.N_ne HO_158002.out BK157.out (by decide)))
   have n3_ := Aside0.mk (Kd.R_over' (by (with_reducible repeat (first | apply Kd.R_alloc | apply Kd.R_drewN | apply Kd.R_drew)); exact HO160.out) (Kd.N_typed qgknown_8) (by decide) hg)
   have n4_ := Aside0.mk (hb)
   have n5_ := Aside0.mk (ho)
   clear HO_1
   clear HO_3
   clear BK157
   clear HO160
   clear HB
   clear HO_158002
   have HO_1 := n0_
   have HO_3 := n1_
   have BK157 := n2_
   have HO160 := n3_
   have HB := n4_
   have HO164 := n5_
   clear n0_ n1_ n2_ n3_ n4_ n5_
   clear ho hb hg hat
   obtain ⟨Ao23, co23, eo23⟩ := Kd.N_slice HO164.out
   (first | subst eo23 | (injection eo23 with f1_ f2_ f3_; have f4_ := f1_.symm; have f5_ := f3_.symm; clear f1_ f2_ f3_; subst f4_; subst f5_))
   refine hK.out _ _ ⟨(blk_cell BK157.out 0).trans rfl, (blk_cell BK157.out 1).trans rfl, (blk_cell BK157.out 2).trans rfl⟩ (fun hHeld => ?_)
   clear hK K
   refine norm_ (a' := ?_) ?_ ?_
   rotate_left
   ·show Act.put _ (some 34) _ = _
    simp only [Act.put, List.setIfInBounds_toArray, List.set_cons_zero, List.set_cons_succ, i64_w, i32_w]
    rfl
   refine pure_ (i := 11) (N := some 35) (v := ?_) (a' := ?_) #[T4970, T4970, T4970, T4970, T4970, T4970, T4970, T4970, T4970, T4970, T4970, T4970, F4970] rfl rfl (any_of HT_.out (by kernel_rfl)) (fun _ _ _ h => h) (Or.inl ⟨by rfl, ?_⟩) ?_ ?_
   rotate_left
   ·intro w'
    go_simp
    with_reducible rfl
   rotate_left
   ·simp only [Act.put, List.setIfInBounds_toArray, List.set_cons_zero, List.set_cons_succ, i64_w, i32_w]
    rfl
   refine last_ (i := 12) (N := none) #[T4970, T4970, T4970, T4970, T4970, T4970, T4970, T4970, T4970, T4970, T4970, T4970, T4970] rfl rfl (one_of HT_.out (by kernel_rfl)) (by decide) (fun K hK => ?_)
   have hs24 : w22.cell? ⟨gb157, 2, none⟩ = some (u158002) := (blk_cell BK157.out 2).trans rfl
   have hfs24 := blk_frozen BK157.out 2
   refine skip_ (w1 := ?_) (by rfl) rfl ?_ ?_
   rotate_left
   ·go_simp
    rfl
   refine hK.out _ _ ?_
   clear hK K
   refine done_ (done_of HT_.out (by kernel_rfl)) ?_
   try go_wp2
   go_roundg k1
   case measure => have := HK1.out; omega
   case rel => exact ⟨(wrap64 (x6_1 + 1)), (y162), (.slice Ao23 y162.length co23), (by first | rfl | (simp; done) | (simp [*]; done)), H', ⟨by have := HK1.out; omega⟩, ⟨by (with_reducible repeat (first | apply Kd.R_alloc | apply Kd.R_drewN | apply Kd.R_drew)); exact Kd.R_mono (Kd.R_far (p := ⟨gb157, 2, none⟩) (Kd.R_types HO_1.out BK157.out (by decide)) (fun _ hk => hk.2) (.slice Ao23 y162.length co23)) (fun _ hk => hk.1)⟩, ⟨by (with_reducible repeat (first | apply Kd.R_alloc | apply Kd.R_drewN | apply Kd.R_drew)); exact Kd.R_mono (Kd.R_far (p := ⟨gb157, 2, none⟩) (Kd.R_types HO_3.out BK157.out (by decide)) (fun _ hk => hk.2) (.slice Ao23 y162.length co23)) (fun _ hk => hk.1)⟩, ⟨by (with_reducible repeat (first | apply Kd.N_alloc | apply Kd.N_drewN | apply Kd.N_drew)); exact Kd.N_mono (Kd.N_far (p := ⟨gb157, 2, none⟩) (Kd.N_mono HO164.out (fun k_ hk => (⟨hk, hk.2.2.2⟩ : _ ∧ k_ ≠ gb157))) (fun _ hk => hk.2) (.slice Ao23 y162.length co23)) (fun _ hk => ⟨hk.1.1, ⟨hk.1.2.1, hk.1.2.2.2⟩⟩)⟩, ⟨by (with_reducible repeat (first | refine blk_drewN ?_ _ | refine blk_drew ?_ | refine blk_alloc ?_ _)); refine blk_put (cs := #[.int .i64 3, .int .i64 1, u158002]) ?_ 2 _ rfl; (with_reducible repeat (first | refine blk_drewN ?_ _ | refine blk_drew ?_ | refine blk_alloc ?_ _)); exact BK157.out⟩, ⟨qgknown_1⟩⟩
  rw [if_neg c13] at H
  have c13b0 : decide (x6_1 ≤ 4) = false := decide_eq_false c13
  clear c13
  obtain ⟨y165, hy165⟩ : ∃ y_ : List (S53), y_ = (([(⟨3, 1, x158002_1⟩ : S53)] : List (S53))) := ⟨_, rfl⟩
  replace H : ((estimate_Count.f k1 y165 ([] : List (S195)) (([(⟨0, (⟨#[115]⟩ : ByteArray), 10, 0⟩ : S60)] : List (S60))) (([(⟨0, 2⟩ : S62)] : List (S62))) 0 (⟨#[115]⟩ : ByteArray)).bind fun bt174 => (if t147 = 0 then (if t154 = 0 then (if (t146.length : Int) = 1 then (if 0 < (t146.length : Int) then (if (((rd_T41 t146 0).f1.f0) == 8 && (((rd_T41 t146 0).f1.f1) == 4 && (((rd_T41 t146 0).f1.f2) == 60 && (((rd_T41 t146 0).f1.f3) == 4)))) = true then (if (t153.length : Int) = 2 then (if 1 < (t153.length : Int) then (if (((((rd_T41 t153 1).f0.f0).toList) == ([97, 112, 105] : List UInt8) && ((((rd_T41 t153 1).f0.f1).toList) == ([118, 50] : List UInt8) && ((((rd_T41 t153 1).f0.f2).toList) == ([] : List UInt8)))) && ((((rd_T41 t153 1).f1.f0) == 4 && (((rd_T41 t153 1).f1.f1) == 4 && (((rd_T41 t153 1).f1.f2) == 20 && (((rd_T41 t153 1).f1.f3) == 4)))))) = true then (if bt174.1 = 11 then (some (bt174.2 == 15)) else (none)) else (none)) else (none)) else (none)) else (none)) else (none)) else (none)) else (none)) else (none))) = some r := by first | (rw [hy165]; with_reducible exact H) | (have H2_ := (Option.bind_some _ _).symm.trans H; rw [hy165]; with_reducible exact H2_) | (have H2_ := (Option.bind_some _ _).symm.trans H; with_reducible exact H2_) | with_reducible exact H | (rw [hy165]; exact H) | exact H
  have Ny165 := Aside0.mk hy165
  clear hy165
  obtain ⟨y168, hy168⟩ : ∃ y_ : List (S60), y_ = (([(⟨0, (⟨#[115]⟩ : ByteArray), 10, 0⟩ : S60)] : List (S60))) := ⟨_, rfl⟩
  replace H : ((estimate_Count.f k1 y165 ([] : List (S195)) y168 (([(⟨0, 2⟩ : S62)] : List (S62))) 0 (⟨#[115]⟩ : ByteArray)).bind fun bt174 => (if t147 = 0 then (if t154 = 0 then (if (t146.length : Int) = 1 then (if 0 < (t146.length : Int) then (if (((rd_T41 t146 0).f1.f0) == 8 && (((rd_T41 t146 0).f1.f1) == 4 && (((rd_T41 t146 0).f1.f2) == 60 && (((rd_T41 t146 0).f1.f3) == 4)))) = true then (if (t153.length : Int) = 2 then (if 1 < (t153.length : Int) then (if (((((rd_T41 t153 1).f0.f0).toList) == ([97, 112, 105] : List UInt8) && ((((rd_T41 t153 1).f0.f1).toList) == ([118, 50] : List UInt8) && ((((rd_T41 t153 1).f0.f2).toList) == ([] : List UInt8)))) && ((((rd_T41 t153 1).f1.f0) == 4 && (((rd_T41 t153 1).f1.f1) == 4 && (((rd_T41 t153 1).f1.f2) == 20 && (((rd_T41 t153 1).f1.f3) == 4)))))) = true then (if bt174.1 = 11 then (some (bt174.2 == 15)) else (none)) else (none)) else (none)) else (none)) else (none)) else (none)) else (none)) else (none)) else (none))) = some r := by first | (rw [hy168]; with_reducible exact H) | (have H2_ := (Option.bind_some _ _).symm.trans H; rw [hy168]; with_reducible exact H2_) | (have H2_ := (Option.bind_some _ _).symm.trans H; with_reducible exact H2_) | with_reducible exact H | (rw [hy168]; exact H) | exact H
  have Ny168 := Aside0.mk hy168
  clear hy168
  obtain ⟨y171, hy171⟩ : ∃ y_ : List (S62), y_ = (([(⟨0, 2⟩ : S62)] : List (S62))) := ⟨_, rfl⟩
  replace H : ((estimate_Count.f k1 y165 ([] : List (S195)) y168 y171 0 (⟨#[115]⟩ : ByteArray)).bind fun bt174 => (if t147 = 0 then (if t154 = 0 then (if (t146.length : Int) = 1 then (if 0 < (t146.length : Int) then (if (((rd_T41 t146 0).f1.f0) == 8 && (((rd_T41 t146 0).f1.f1) == 4 && (((rd_T41 t146 0).f1.f2) == 60 && (((rd_T41 t146 0).f1.f3) == 4)))) = true then (if (t153.length : Int) = 2 then (if 1 < (t153.length : Int) then (if (((((rd_T41 t153 1).f0.f0).toList) == ([97, 112, 105] : List UInt8) && ((((rd_T41 t153 1).f0.f1).toList) == ([118, 50] : List UInt8) && ((((rd_T41 t153 1).f0.f2).toList) == ([] : List UInt8)))) && ((((rd_T41 t153 1).f1.f0) == 4 && (((rd_T41 t153 1).f1.f1) == 4 && (((rd_T41 t153 1).f1.f2) == 20 && (((rd_T41 t153 1).f1.f3) == 4)))))) = true then (if bt174.1 = 11 then (some (bt174.2 == 15)) else (none)) else (none)) else (none)) else (none)) else (none)) else (none)) else (none)) else (none)) else (none))) = some r := by first | (rw [hy171]; with_reducible exact H) | (have H2_ := (Option.bind_some _ _).symm.trans H; rw [hy171]; with_reducible exact H2_) | (have H2_ := (Option.bind_some _ _).symm.trans H; with_reducible exact H2_) | with_reducible exact H | (rw [hy171]; exact H) | exact H
  have Ny171 := Aside0.mk hy171
  clear hy171
  replace H := Option.bind_eq_some_iff.mp H
  obtain ⟨⟨t174, t175⟩, A250, H⟩ := H
  replace H : (if t147 = 0 then (if t154 = 0 then (if (t146.length : Int) = 1 then (if 0 < (t146.length : Int) then (if (((rd_T41 t146 0).f1.f0) == 8 && (((rd_T41 t146 0).f1.f1) == 4 && (((rd_T41 t146 0).f1.f2) == 60 && (((rd_T41 t146 0).f1.f3) == 4)))) = true then (if (t153.length : Int) = 2 then (if 1 < (t153.length : Int) then (if (((((rd_T41 t153 1).f0.f0).toList) == ([97, 112, 105] : List UInt8) && ((((rd_T41 t153 1).f0.f1).toList) == ([118, 50] : List UInt8) && ((((rd_T41 t153 1).f0.f2).toList) == ([] : List UInt8)))) && ((((rd_T41 t153 1).f1.f0) == 4 && (((rd_T41 t153 1).f1.f1) == 4 && (((rd_T41 t153 1).f1.f2) == 20 && (((rd_T41 t153 1).f1.f3) == 4)))))) = true then (if t174 = 11 then (some (t175 == 15)) else (none)) else (none)) else (none)) else (none)) else (none)) else (none)) else (none)) else (none)) else (none)) = some r := H
  have A25 := Aside0.mk A250
  clear A250
  by_cases c26 : t147 = 0
  rotate_left
  ·rw [if_neg c26] at H
   exact absurd H (by simp)
  rw [if_pos c26] at H
  have c26b0 : (t147 == 0) = true := beq_iff_eq.mpr c26
  have c26b1 : (t147 != 0) = false := bne_eq_false_iff_eq.mpr c26
  clear c26
  by_cases c27 : t154 = 0
  rotate_left
  ·rw [if_neg c27] at H
   exact absurd H (by simp)
  rw [if_pos c27] at H
  have c27b0 : (t154 == 0) = true := beq_iff_eq.mpr c27
  have c27b1 : (t154 != 0) = false := bne_eq_false_iff_eq.mpr c27
  clear c27
  by_cases c28 : (t146.length : Int) = 1
  rotate_left
  ·rw [if_neg c28] at H
   exact absurd H (by simp)
  rw [if_pos c28] at H
  have c28b0 : ((t146.length : Int) == 1) = true := beq_iff_eq.mpr c28
  have c28b1 : ((t146.length : Int) != 1) = false := bne_eq_false_iff_eq.mpr c28
  clear c28
  by_cases c29 : 0 < (t146.length : Int)
  rotate_left
  ·rw [if_neg c29] at H
   exact absurd H (by simp)
  rw [if_pos c29] at H
  have c29b0 : decide (0 < (t146.length : Int)) = true := decide_eq_true c29
  have c29b1 : decide (0 < t146.length) = true := decide_eq_true (by omega)
  clear c29
  by_cases c30 : (((rd_T41 t146 0).f1.f0) == 8 && (((rd_T41 t146 0).f1.f1) == 4 && (((rd_T41 t146 0).f1.f2) == 60 && (((rd_T41 t146 0).f1.f3) == 4)))) = true
  rotate_left
  ·rw [if_neg c30] at H
   exact absurd H (by simp)
  rw [if_pos c30] at H
  have c30b0 : (((rd_T41 t146 0).f1.f0) == 8 && (((rd_T41 t146 0).f1.f1) == 4 && (((rd_T41 t146 0).f1.f2) == 60 && (((rd_T41 t146 0).f1.f3) == 4)))) = true := c30
  (try (have c30b1 : decide (((rd_T41 t146 0).f1.f0) = 8 && (((rd_T41 t146 0).f1.f1) == 4 && (((rd_T41 t146 0).f1.f2) == 60 && (((rd_T41 t146 0).f1.f3) == 4)))) = true := by simpa using c30))
  (try (have c30b2 : (((rd_T41 t146 0).f1.f0) == 8 && (((rd_T41 t146 0).f1.f1) == 4 && (((rd_T41 t146 0).f1.f2) == 60 && (((rd_T41 t146 0).f1.f3) == 4)))) = true := by simpa using c30))
  clear c30
  by_cases c31 : (t153.length : Int) = 2
  rotate_left
  ·rw [if_neg c31] at H
   exact absurd H (by simp)
  rw [if_pos c31] at H
  have c31b0 : ((t153.length : Int) == 2) = true := beq_iff_eq.mpr c31
  have c31b1 : ((t153.length : Int) != 2) = false := bne_eq_false_iff_eq.mpr c31
  clear c31
  by_cases c32 : 1 < (t153.length : Int)
  rotate_left
  ·rw [if_neg c32] at H
   exact absurd H (by simp)
  rw [if_pos c32] at H
  have c32b0 : decide (1 < (t153.length : Int)) = true := decide_eq_true c32
  have c32b1 : decide (1 < t153.length) = true := decide_eq_true (by omega)
  clear c32
  by_cases c33 : (((((rd_T41 t153 1).f0.f0).toList) == ([97, 112, 105] : List UInt8) && ((((rd_T41 t153 1).f0.f1).toList) == ([118, 50] : List UInt8) && ((((rd_T41 t153 1).f0.f2).toList) == ([] : List UInt8)))) && ((((rd_T41 t153 1).f1.f0) == 4 && (((rd_T41 t153 1).f1.f1) == 4 && (((rd_T41 t153 1).f1.f2) == 20 && (((rd_T41 t153 1).f1.f3) == 4)))))) = true
  rotate_left
  ·rw [if_neg c33] at H
   exact absurd H (by simp)
  rw [if_pos c33] at H
  have c33b0 : (((((rd_T41 t153 1).f0.f0).toList) == ([97, 112, 105] : List UInt8) && ((((rd_T41 t153 1).f0.f1).toList) == ([118, 50] : List UInt8) && ((((rd_T41 t153 1).f0.f2).toList) == ([] : List UInt8)))) && ((((rd_T41 t153 1).f1.f0) == 4 && (((rd_T41 t153 1).f1.f1) == 4 && (((rd_T41 t153 1).f1.f2) == 20 && (((rd_T41 t153 1).f1.f3) == 4)))))) = true := c33
  have c33d0 : (((((rd_T41 t153 1).f0.f0).toList) = ([97, 112, 105] : List UInt8) ∧ ((((rd_T41 t153 1).f0.f1).toList) = ([118, 50] : List UInt8) ∧ ((((rd_T41 t153 1).f0.f2).toList) = ([] : List UInt8)))) ∧ ((((rd_T41 t153 1).f1.f0) = 4 ∧ (((rd_T41 t153 1).f1.f1) = 4 ∧ (((rd_T41 t153 1).f1.f2) = 20 ∧ (((rd_T41 t153 1).f1.f3) = 4)))))) := by simpa using c33
  clear c33
  by_cases c34 : t174 = 11
  rotate_left
  ·rw [if_neg c34] at H
   exact absurd H (by simp)
  rw [if_pos c34] at H
  have c34b0 : (t174 == 11) = true := beq_iff_eq.mpr c34
  have c34b1 : (t174 != 11) = false := bne_eq_false_iff_eq.mpr c34
  clear c34
  obtain rfl := Option.some.inj H
  have hcz35_0 : wr.cell? ⟨gb157, 0, none⟩ = some (.int .i64 3) := (blk_cell BK157.out 0).trans rfl
  have hcz35_1 : wr.cell? ⟨gb157, 1, none⟩ = some (.int .i64 1) := (blk_cell BK157.out 1).trans rfl
  have hcz35_2 : wr.cell? ⟨gb157, 2, none⟩ = some (u158002) := (blk_cell BK157.out 2).trans rfl
  have hfz35_0 := blk_frozen BK157.out 0
  have hfz35_1 := blk_frozen BK157.out 1
  have hfz35_2 := blk_frozen BK157.out 2
  obtain ⟨Ao36, co36, eo36⟩ := Kd.N_slice HO_158002.out
  subst eo36
  go_wp2_with (first | ((with_reducible refine gate_dst (N := 38) rfl ?_); (try (refine gate_guard (by rfl) ?_; dsimp only)); refine Kd.N_lit k53 _ 53 ?hg (N' := 38) ?hd (xs := ([(⟨3, 1, x158002_1⟩ : S53)] : List (S53))) (inner := [.int .i64 3, .int .i64 1, .slice Ao36 x158002_1.length co36]) (ok := (fun k_ => some k_ ≠ (v148 : Value).ownBlock ∧ some k_ ≠ (v155 : Value).ownBlock ∧ k_ ≠ gb157)) (okp := (fun k_ => some k_ ≠ (v148 : Value).ownBlock ∧ some k_ ≠ (v155 : Value).ownBlock ∧ k_ ≠ gb157)) ?hr ?hp (fun _ hk => hk) ((show ∀ k_, wr.heap.size ≤ k_ → (fun k_ => some k_ ≠ (v148 : Value).ownBlock ∧ some k_ ≠ (v155 : Value).ownBlock ∧ k_ ≠ gb157) k_ from fun k_ hk => ⟨Kd.fresh' (Kd.R_lt qgknown_3) k_ hk, Kd.fresh' (Kd.R_lt qgknown_4) k_ hk, Kd.freshB (g := gb157) (o := .cells #[.int .i64 3, .int .i64 1, .slice Ao36 x158002_1.length co36] 53 (0, 0)) qgknown_2 k_ hk⟩) _ (Nat.le_refl _)) (Below.refl _ _) (Nat.le_refl _) (by simp) ?_; (case hd => rfl); (case hg => rfl); (case hr => exact qgknown_11); (case hp => exact (Reps.c3 (show Kd.FK k53 _ _ (⟨3, 1, x158002_1⟩ : S53) [.int .i64 3, .int .i64 1, .slice Ao36 x158002_1.length co36] from (k53_mkF _ _ (⟨3, 1, x158002_1⟩ : S53) (Kd.N_reads' (Kd.N_mono (ok' := (fun k_ => some k_ ≠ (v148 : Value).ownBlock ∧ some k_ ≠ (v155 : Value).ownBlock ∧ k_ ≠ gb157)) (HO_158002.out) (fun k_ hk => ⟨hk.1, ⟨hk.2.1, hk.2.2⟩⟩))).2.1 (Kd.N_F (Kd.N_mono (ok' := (fun k_ => some k_ ≠ (v148 : Value).ownBlock ∧ some k_ ≠ (v155 : Value).ownBlock ∧ k_ ≠ gb157)) (HO_158002.out) (fun k_ hk => ⟨hk.1, ⟨hk.2.1, hk.2.2⟩⟩))))) (Reps.none _ _))); intro v166 w37 ho38 hb hg_ hnew_; clear hg_ hnew_; (first | rw [← Ny165.out] at ho38 | (simp only [Int.reduceToNat] at ho38; rw [← Ny165.out] at ho38)); have n0_ := Aside0.mk (Kd.R_below qgknown_3 hb); have n1_ := Aside0.mk (Kd.R_below qgknown_4 hb); have n2_ := Aside0.mk (Kd.N_lower ho38 (below_size qgknown_1)); have n3_ := Aside0.mk (blk_below (g := gb157) (o := .cells #[.int .i64 3, .int .i64 1, .slice Ao36 x158002_1.length co36] 53 (0, 0)) qgknown_2 hb); have n4_ := Aside0.mk (below_step qgknown_1 hb); clear HO_1; clear HO_3; clear BK157; clear HB; clear HO_158002; have HO_1 := n0_; have HO_3 := n1_; have HO167 := n2_; have BK157 := n3_; have HB := n4_; clear n0_ n1_ n2_ n3_ n4_; clear hb ho38) | ((with_reducible refine gate_dst (N := 40) rfl ?_); (try (refine gate_guard (by rfl) ?_; dsimp only)); refine Kd.R_lit k60 _ 60 ?hg (N := 40) ?hd (xs := ([(⟨0, (⟨#[115]⟩ : ByteArray), 10, 0⟩ : S60)] : List (S60))) (inner := [.int .i64 0, .string (⟨#[115]⟩ : ByteArray), .int .i64 10, .int .i64 0]) (ok := fun _ => True) (okp := fun _ => True) ?hr ?hp (fun _ hk => hk) trivial (Below.refl _ _) (Nat.le_refl _) (by simp) ?_; (case hd => rfl); (case hg => rfl); (case hr => exact qgknown_11); (case hp => exact (Reps.c4 (show Kd.M k60 _ _ _ (⟨0, (⟨#[115]⟩ : ByteArray), 10, 0⟩ : S60) [.int .i64 0, .string (⟨#[115]⟩ : ByteArray), .int .i64 10, .int .i64 0] from (k60_mkM _ _ _ (⟨0, (⟨#[115]⟩ : ByteArray), 10, 0⟩ : S60) )) (Reps.none _ _))); intro v169 w39 ho40 hb hg_ hnew_; clear hg_ hnew_; (first | rw [← Ny168.out] at ho40 | (simp only [Int.reduceToNat] at ho40; rw [← Ny168.out] at ho40)); have n0_ := Aside0.mk (Kd.R_below qgknown_3 hb); have n1_ := Aside0.mk (Kd.R_below qgknown_4 hb); have n2_ := Aside0.mk (Kd.N_elder' qgknown_10 (Kd.R_base ho40) hb); have n3_ := Aside0.mk (Kd.R_lower ho40 (below_size qgknown_1)); have n4_ := Aside0.mk (blk_below (g := gb157) (o := .cells #[.int .i64 3, .int .i64 1, .slice Ao36 x158002_1.length co36] 53 (0, 0)) qgknown_2 hb); have n5_ := Aside0.mk (below_step qgknown_1 hb); clear HO_1; clear HO_3; clear HO167; clear BK157; clear HB; have HO_1 := n0_; have HO_3 := n1_; have HO167 := n2_; have HO170 := n3_; have BK157 := n4_; have HB := n5_; clear n0_ n1_ n2_ n3_ n4_ n5_; clear hb ho40) | ((with_reducible refine gate_dst (N := 42) rfl ?_); (try (refine gate_guard (by rfl) ?_; dsimp only)); refine Kd.R_lit k62 _ 62 ?hg (N := 42) ?hd (xs := ([(⟨0, 2⟩ : S62)] : List (S62))) (inner := [.int .i64 0, .int .i64 2]) (ok := fun _ => True) (okp := fun _ => True) ?hr ?hp (fun _ hk => hk) trivial (Below.refl _ _) (Nat.le_refl _) (by simp) ?_; (case hd => rfl); (case hg => rfl); (case hr => exact qgknown_11); (case hp => exact (Reps.c2 (show Kd.M k62 _ _ _ (⟨0, 2⟩ : S62) [.int .i64 0, .int .i64 2] from (k62_mkM _ _ _ (⟨0, 2⟩ : S62) )) (Reps.none _ _))); intro v172 w41 ho42 hb hg_ hnew_; clear hg_ hnew_; (first | rw [← Ny171.out] at ho42 | (simp only [Int.reduceToNat] at ho42; rw [← Ny171.out] at ho42)); have n0_ := Aside0.mk (Kd.R_below qgknown_3 hb); have n1_ := Aside0.mk (Kd.R_below qgknown_4 hb); have n2_ := Aside0.mk (Kd.N_elder' qgknown_10 (Kd.R_base ho42) hb); have n3_ := Aside0.mk (Kd.R_below (by (with_reducible repeat (first | apply Kd.R_alloc | apply Kd.R_drewN | apply Kd.R_drew)); exact HO170.out) hb); have n4_ := Aside0.mk (Kd.R_lower ho42 (below_size qgknown_1)); have n5_ := Aside0.mk (blk_below (g := gb157) (o := .cells #[.int .i64 3, .int .i64 1, .slice Ao36 x158002_1.length co36] 53 (0, 0)) qgknown_2 hb); have n6_ := Aside0.mk (below_step qgknown_1 hb); clear HO_1; clear HO_3; clear HO167; clear HO170; clear BK157; clear HB; have HO_1 := n0_; have HO_3 := n1_; have HO167 := n2_; have HO170 := n3_; have HO173 := n4_; have BK157 := n5_; have HB := n6_; clear n0_ n1_ n2_ n3_ n4_ n5_ n6_; clear hb ho42; obtain ⟨Ao43, co43, eo43⟩ := Kd.R_slice HO173.out; subst eo43; obtain ⟨Ao44, co44, eo44⟩ := Kd.R_slice HO170.out; subst eo44; obtain ⟨Ao45, co45, eo45⟩ := Kd.N_slice HO167.out; subst eo45) | ((with_reducible refine gate_callee (f := 19) rfl ?_); refine goesL_ (some 44) rfl rfl Try.func19 (by kernel_rfl) rfl #[.agg #[.slice Ao45 y165.length co45, .slice none 0 0, .slice Ao44 y168.length co44, .slice Ao43 y171.length co43], .int .i64 0, .string (⟨#[115]⟩ : ByteArray)] rfl qgknown_5 ?_; (refine (estimate_Count.calls k1 _ _ y165 _ _ ([] : List (S195)) _ _ y168 _ _ y171 0 (⟨#[115]⟩ : ByteArray) t174 t175 _ ?side1 ?side2 ?side3 ?side4 ?side5 ?side6 ?side7 ?side8 A25.out).mono ?_); (case side1 => repeat (first | exact (Kd.N_reads' HO167.out).2.2 | (with_reducible refine Kd.C_alloc ?_ _) | (with_reducible refine Kd.C_drewN ?_ _) | (with_reducible refine Kd.C_drew ?_))); (case side2 => exact (Kd.N_reads' HO167.out).2.1); (case side3 => exact Kd.C_nil _ _); (case side4 => exact Nat.le_refl _); (case side5 => repeat (first | exact (Kd.R_reads' HO170.out).2.2 | (with_reducible refine Kd.C_alloc ?_ _) | (with_reducible refine Kd.C_drewN ?_ _) | (with_reducible refine Kd.C_drew ?_))); (case side6 => exact (Kd.R_reads' HO170.out).2.1); (case side7 => repeat (first | exact (Kd.R_reads' HO173.out).2.2 | (with_reducible refine Kd.C_alloc ?_ _) | (with_reducible refine Kd.C_drewN ?_ _) | (with_reducible refine Kd.C_drew ?_))); (case side8 => exact (Kd.R_reads' HO173.out).2.1); rintro e w46 ⟨rfl, hb⟩; refine ⟨_, rfl, ?_⟩; have n0_ := Aside0.mk (Kd.R_below qgknown_3 hb); have n1_ := Aside0.mk (Kd.R_below qgknown_4 hb); have n2_ := Aside0.mk (Kd.N_below qgknown_10 hb); have n3_ := Aside0.mk (Kd.R_below (by (with_reducible repeat (first | apply Kd.R_alloc | apply Kd.R_drewN | apply Kd.R_drew)); exact HO170.out) hb); have n4_ := Aside0.mk (Kd.R_below (by (with_reducible repeat (first | apply Kd.R_alloc | apply Kd.R_drewN | apply Kd.R_drew)); exact HO173.out) hb); have n5_ := Aside0.mk (blk_below (g := gb157) (o := .cells #[.int .i64 3, .int .i64 1, .slice Ao36 x158002_1.length co36] 53 (0, 0)) qgknown_2 hb); have n6_ := Aside0.mk (below_step qgknown_1 hb); clear HO_1; clear HO_3; clear HO167; clear HO170; clear HO173; clear BK157; clear HB; have HO_1 := n0_; have HO_3 := n1_; have HO167 := n2_; have HO170 := n3_; have HO173 := n4_; have BK157 := n5_; have HB := n6_; clear n0_ n1_ n2_ n3_ n4_ n5_ n6_; (try clear hb); (try clear hb2); (try clear hk); (try clear hi); obtain ⟨Ao47, co47, eo47⟩ := Kd.R_slice HO_1.out; subst eo47; have p176 : 0 ≤ (0 : Int) := (by omega); have q176 : 0 < (t146.length : Int) := of_decide_eq_true qgknown_9; obtain ⟨ad176, e176, hx176_0, hx176_1, hx176_2, hx176_3, hx176_4, hx176_5, hx176_6⟩ := at_T41 (Kd.R_reads' HO_1.out).2.2 0 p176 q176; cases e176; have qi176 : (0 < t146.length) = True := eq_true (by omega); (try rw [show ((0 : Int)).toNat = 0 from rfl] at hx176_0); (try rw [show 0 * 7 = 0 from rfl] at hx176_0); (try rw [Addr.add_zero'] at hx176_0); (try rw [show ((0 : Int)).toNat = 0 from rfl] at hx176_1); (try rw [show 0 * 7 = 0 from rfl] at hx176_1); (try rw [Addr.add_zero'] at hx176_1); (try rw [show ((0 : Int)).toNat = 0 from rfl] at hx176_2); (try rw [show 0 * 7 = 0 from rfl] at hx176_2); (try rw [Addr.add_zero'] at hx176_2); (try rw [show ((0 : Int)).toNat = 0 from rfl] at hx176_3); (try rw [show 0 * 7 = 0 from rfl] at hx176_3); (try rw [Addr.add_zero'] at hx176_3); (try rw [show ((0 : Int)).toNat = 0 from rfl] at hx176_4); (try rw [show 0 * 7 = 0 from rfl] at hx176_4); (try rw [Addr.add_zero'] at hx176_4); (try rw [show ((0 : Int)).toNat = 0 from rfl] at hx176_5); (try rw [show 0 * 7 = 0 from rfl] at hx176_5); (try rw [Addr.add_zero'] at hx176_5); (try rw [show ((0 : Int)).toNat = 0 from rfl] at hx176_6); (try rw [show 0 * 7 = 0 from rfl] at hx176_6); (try rw [Addr.add_zero'] at hx176_6); replace p176 := eq_true p176; replace q176 := eq_true q176; obtain ⟨Ao48, co48, eo48⟩ := Kd.R_slice HO_3.out; subst eo48; have p177 : 0 ≤ (1 : Int) := (by omega); have q177 : 1 < (t153.length : Int) := of_decide_eq_true qgknown_9; obtain ⟨ad177, e177, hx177_0, hx177_1, hx177_2, hx177_3, hx177_4, hx177_5, hx177_6⟩ := at_T41 (Kd.R_reads' HO_3.out).2.2 1 p177 q177; cases e177; (try simp only [show (1 : Int).toNat = 1 from rfl, Nat.reduceMul, Nat.reduceEqDiff, Go.Addr.add, ↓reduceIte] at hx177_0); (try simp only [show (1 : Int).toNat = 1 from rfl, Nat.reduceMul, Nat.reduceEqDiff, Go.Addr.add, ↓reduceIte] at hx177_1); (try simp only [show (1 : Int).toNat = 1 from rfl, Nat.reduceMul, Nat.reduceEqDiff, Go.Addr.add, ↓reduceIte] at hx177_2); (try simp only [show (1 : Int).toNat = 1 from rfl, Nat.reduceMul, Nat.reduceEqDiff, Go.Addr.add, ↓reduceIte] at hx177_3); (try simp only [show (1 : Int).toNat = 1 from rfl, Nat.reduceMul, Nat.reduceEqDiff, Go.Addr.add, ↓reduceIte] at hx177_4); (try simp only [show (1 : Int).toNat = 1 from rfl, Nat.reduceMul, Nat.reduceEqDiff, Go.Addr.add, ↓reduceIte] at hx177_5); (try simp only [show (1 : Int).toNat = 1 from rfl, Nat.reduceMul, Nat.reduceEqDiff, Go.Addr.add, ↓reduceIte] at hx177_6); have qi177 : (1 < t153.length) = True := eq_true (by omega); (try rw [show ((1 : Int)).toNat = 1 from rfl] at hx177_0); (try rw [show 1 * 7 = 7 from rfl] at hx177_0); (try rw [show ((1 : Int)).toNat = 1 from rfl] at hx177_1); (try rw [show 1 * 7 = 7 from rfl] at hx177_1); (try rw [show ((1 : Int)).toNat = 1 from rfl] at hx177_2); (try rw [show 1 * 7 = 7 from rfl] at hx177_2); (try rw [show ((1 : Int)).toNat = 1 from rfl] at hx177_3); (try rw [show 1 * 7 = 7 from rfl] at hx177_3); (try rw [show ((1 : Int)).toNat = 1 from rfl] at hx177_4); (try rw [show 1 * 7 = 7 from rfl] at hx177_4); (try rw [show ((1 : Int)).toNat = 1 from rfl] at hx177_5); (try rw [show 1 * 7 = 7 from rfl] at hx177_5); (try rw [show ((1 : Int)).toNat = 1 from rfl] at hx177_6); (try rw [show 1 * 7 = 7 from rfl] at hx177_6); replace p177 := eq_true p177; replace q177 := eq_true q177))
  go_ret
  exact ⟨by first | rfl | (simp [errW_none, errW_some] <;> rfl) | (simp [*, errW_none, errW_some] <;> rfl), qgknown_1⟩
end Go.Proofs.Ythdifdnjodbdnaa.Q
