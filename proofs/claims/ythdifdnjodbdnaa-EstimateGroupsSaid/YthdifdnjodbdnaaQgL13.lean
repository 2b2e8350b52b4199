-- Laid by myprint.py (a program of this session's, over the kit's printer and with functions proved by hand)
import Derived.Test.YthdifdnjodbdnaaTy
import Derived.Test.YthdifdnjodbdnaaGs
namespace Go.Proofs.Ythdifdnjodbdnaa.Q
open Go.RowKit Go.Proofs.YthdifdnjodbdnaaW.PrintWords Go.Proofs.YthdifdnjodbdnaaW.PrintLast Go.Proofs.YthdifdnjodbdnaaW.PrintMore
attribute [local go_sem] max2_int min2_int max_two min_two max_three min_three max_four min_four   -- for this text's walks alone
set_option linter.unusedVariables false
set_option linter.unusedSimpArgs false

attribute [local go_sem high] eqA37 eqA41
attribute [local go_sem high] Str.u8w Str.tmod256 Str.w64m2
abbrev T2525 : Bool := true
abbrev F2525 : Bool := false
theorem qgl13_0 {p : Prop} (h : p := by repeat (first | (with_reducible first | exact HB.out | apply below_alloc | apply pw_below_drewN | apply below_drew1) | exact HB.out)) : p := h
theorem qgl13_1 {p : Prop} (h : p := by repeat (first | (with_reducible first | exact HB.out | apply below_alloc | apply pw_below_drewN | apply below_drew1 | refine below_set ?_ GE208.out) | exact HB.out)) : p := h
theorem qgl13_2 {p : Prop} (h : p := by first | (with_reducible assumption) | assumption) : p := h
/-! ### sleuthlaw13_TraceId: function 41 -/
def sleuthlaw13_TraceId.f (l0_0 : List (S104)) (a0_1 : Int) (a0_2 : Int) (a0_3 : Int) (a0_4 : Int) (l0_5 : List (S193)) (a0_6 : Int) (a1 : Int) : Option (Int) := if 0 ≤ a1 then (if a1 < (l0_0.length : Int) then (some (wrap64 ((wrap64 ((wrap64 ((wrap64 (Int.tmod ((rd_T104 l0_0 a1).f0) 64)) * 1048576)) + 1)) + a1))) else (none)) else (none)
set_option maxHeartbeats 8000000 in
set_option maxRecDepth 100000 in
theorem sleuthlaw13_TraceId.calls (A0_0 : Option Addr) (c0_0 : Nat) (l0_0 : List (S104)) (a0_1 : Int) (a0_2 : Int) (a0_3 : Int) (a0_4 : Int) (A0_5 : Option Addr) (c0_5 : Nat) (l0_5 : List (S193)) (a0_6 : Int) (a1 : Int) (r : Int) (w : World) (hr0_0 : Kd.C k104 w A0_0 l0_0.length l0_0) (hc0_0 : l0_0.length ≤ c0_0) (hr0_5 : Kd.C k193 w A0_5 l0_5.length l0_5) (hc0_5 : l0_5.length ≤ c0_5) (h : sleuthlaw13_TraceId.f l0_0 a0_1 a0_2 a0_3 a0_4 l0_5 a0_6 a1 = some r) :
  Calls Try.prog 41 #[.agg #[.slice A0_0 l0_0.length c0_0, .int .i8 a0_1, .int .i8 a0_2, .int .i8 a0_3, .int .i8 a0_4, .slice A0_5 l0_5.length c0_5, .int .u8 a0_6], .int .i64 a1] w fun e w' => e = .returned (.int .i64 r) ∧ Below w.heap.size w w' := by
 have hu27 := Try.underlying27
 have HR0_0 := Aside0.mk hr0_0
 have HC0_0 := Aside0.mk hc0_0
 clear hr0_0 hc0_0
 have HR0_5 := Aside0.mk hr0_5
 have HC0_5 := Aside0.mk hc0_5
 clear hr0_5 hc0_5
 have HB := Aside0.mk (Below.refl w.heap.size w)
 have H : (if 0 ≤ a1 then (if a1 < (l0_0.length : Int) then (some (wrap64 ((wrap64 ((wrap64 ((wrap64 (Int.tmod ((rd_T104 l0_0 a1).f0) 64)) * 1048576)) + 1)) + a1))) else (none)) else (none)) = some r := h
 clear h
 by_cases c3 : 0 ≤ a1
 rotate_left
 ·rw [if_neg c3] at H
  exact absurd H (by simp)
 rw [if_pos c3] at H
 have c3b0 : decide (0 ≤ a1) = true := decide_eq_true c3
 clear c3
 by_cases c4 : a1 < (l0_0.length : Int)
 rotate_left
 ·rw [if_neg c4] at H
  exact absurd H (by simp)
 rw [if_pos c4] at H
 have c4b0 : decide (a1 < (l0_0.length : Int)) = true := decide_eq_true c4
 clear c4
 obtain rfl := Option.some.inj H
 go_enter Try.func41, Try.ntmps41
 go_wp2_with (first | ((with_reducible refine gate_dst (N := 2) rfl ?_); refine box_event ?hg (N := 2) ?hd (cs := #[.slice A0_0 l0_0.length c0_0, .int .i8 a0_1, .int .i8 a0_2, .int .i8 a0_3, .int .i8 a0_4, .slice A0_5 l0_5.length c0_5, .int .u8 a0_6]) (t := 27) ?hr ?_; (case hd => rfl); (case hg => rfl); (case hr => first | (go_simp; done) | (go_simp; rfl)); intro gb180 hg w5 hbox hb; have n0_ := Aside0.mk (below_step qgl13_0 hb); have n1_ := Aside0.mk (hbox); have n2_ := Aside0.mk ((by rw [hg]; exact (below_size qgl13_0) : w.heap.size ≤ gb180)); have n3_ := Aside0.mk ((by rw [hg]; exact (below_size qgl13_0) : w.heap.size ≤ gb180)); clear HB; have HB := n0_; have BK180 := n1_; have GW180 := n2_; have GE180 := n3_; clear n0_ n1_ n2_ n3_; clear hb hbox hg; have hcz6_0 : w5.cell? ⟨gb180, 0, none⟩ = some (.slice A0_0 l0_0.length c0_0) := (blk_cell BK180.out 0).trans rfl; have hcz6_1 : w5.cell? ⟨gb180, 1, none⟩ = some (.int .i8 a0_1) := (blk_cell BK180.out 1).trans rfl; have hcz6_2 : w5.cell? ⟨gb180, 2, none⟩ = some (.int .i8 a0_2) := (blk_cell BK180.out 2).trans rfl; have hcz6_3 : w5.cell? ⟨gb180, 3, none⟩ = some (.int .i8 a0_3) := (blk_cell BK180.out 3).trans rfl; have hcz6_4 : w5.cell? ⟨gb180, 4, none⟩ = some (.int .i8 a0_4) := (blk_cell BK180.out 4).trans rfl; have hcz6_5 : w5.cell? ⟨gb180, 5, none⟩ = some (.slice A0_5 l0_5.length c0_5) := (blk_cell BK180.out 5).trans rfl; have hcz6_6 : w5.cell? ⟨gb180, 6, none⟩ = some (.int .u8 a0_6) := (blk_cell BK180.out 6).trans rfl; have hfz6_0 := blk_frozen BK180.out 0; have hfz6_1 := blk_frozen BK180.out 1; have hfz6_2 := blk_frozen BK180.out 2; have hfz6_3 := blk_frozen BK180.out 3; have hfz6_4 := blk_frozen BK180.out 4; have hfz6_5 := blk_frozen BK180.out 5; have hfz6_6 := blk_frozen BK180.out 6; have p181 : 0 ≤ (a1 : Int) := of_decide_eq_true qgl13_2; have q181 : a1 < (l0_0.length : Int) := of_decide_eq_true qgl13_2; obtain ⟨ad181, A181_2, c181_2, e181, hx181_0, hx181_1, hx181_2, hl181_2, hi181_2⟩ := at_T104 HR0_0.out a1 p181 q181; cases e181; replace hx181_0 := (HB.out.cell (World.block_lt_of_cell? w _ hx181_0)).trans hx181_0; replace hx181_1 := (HB.out.cell (World.block_lt_of_cell? w _ hx181_1)).trans hx181_1; replace hx181_2 := (HB.out.cell (World.block_lt_of_cell? w _ hx181_2)).trans hx181_2; have HR181_2 := Aside0.mk hi181_2; have HC181_2 := Aside0.mk hl181_2; clear hi181_2 hl181_2; replace p181 := eq_true p181; replace q181 := eq_true q181))
 go_ret
 exact ⟨by first | rfl | (simp [errW_none, errW_some] <;> rfl) | (simp [*, errW_none, errW_some] <;> rfl), by repeat (first | (with_reducible first | exact HB.out | apply below_alloc | apply pw_below_drewN | apply below_drew1 | refine below_set ?_ GE180.out) | exact HB.out)⟩

/-! ### sleuthlaw13_kind: function 83 -/
def sleuthlaw13_kind.f (a0_0 : Int) (a0_1 : Int) (a0_2 : Int) (a0_3 : Int) (a0_4 : Int) (a0_5 : Int) (a0_6 : Int) (a0_7 : Int) (a0_8 : Int) (a0_9 : Int) (a0_10 : Bool) : Option (Int) := some (wrap64 (1 + (wrap64 (Int.tmod a0_2 5))))
set_option maxHeartbeats 8000000 in
set_option maxRecDepth 100000 in
theorem sleuthlaw13_kind.calls (a0_0 : Int) (a0_1 : Int) (a0_2 : Int) (a0_3 : Int) (a0_4 : Int) (a0_5 : Int) (a0_6 : Int) (a0_7 : Int) (a0_8 : Int) (a0_9 : Int) (a0_10 : Bool) (r : Int) (w : World) (h : sleuthlaw13_kind.f a0_0 a0_1 a0_2 a0_3 a0_4 a0_5 a0_6 a0_7 a0_8 a0_9 a0_10 = some r) :
  Calls Try.prog 83 #[.agg #[.int .u8 a0_0, .int .u8 a0_1, .int .u8 a0_2, .int .u8 a0_3, .int .u8 a0_4, .int .u8 a0_5, .int .u8 a0_6, .int .u8 a0_7, .int .u8 a0_8, .int .u8 a0_9, .bool a0_10]] w fun e w' => e = .returned (.int .i64 r) ∧ Below w.heap.size w w' := by
 have hu153 := Try.underlying153
 have HB := Aside0.mk (Below.refl w.heap.size w)
 have H : (some (wrap64 (1 + (wrap64 (Int.tmod a0_2 5))))) = some r := h
 clear h
 obtain rfl := Option.some.inj H
 go_enter Try.func83, Try.ntmps83
 go_wp2_with (first | ((with_reducible refine gate_dst (N := 1) rfl ?_); refine box_event ?hg (N := 1) ?hd (cs := #[.int .u8 a0_0, .int .u8 a0_1, .int .u8 a0_2, .int .u8 a0_3, .int .u8 a0_4, .int .u8 a0_5, .int .u8 a0_6, .int .u8 a0_7, .int .u8 a0_8, .int .u8 a0_9, .bool a0_10]) (t := 153) ?hr ?_; (case hd => rfl); (case hg => rfl); (case hr => first | (go_simp; done) | (go_simp; rfl)); intro gb182 hg w2 hbox hb; have n0_ := Aside0.mk (below_step qgl13_0 hb); have n1_ := Aside0.mk (hbox); have n2_ := Aside0.mk ((by rw [hg]; exact (below_size qgl13_0) : w.heap.size ≤ gb182)); have n3_ := Aside0.mk ((by rw [hg]; exact (below_size qgl13_0) : w.heap.size ≤ gb182)); clear HB; have HB := n0_; have BK182 := n1_; have GW182 := n2_; have GE182 := n3_; clear n0_ n1_ n2_ n3_; clear hb hbox hg; have hcz3_0 : w2.cell? ⟨gb182, 0, none⟩ = some (.int .u8 a0_0) := (blk_cell BK182.out 0).trans rfl; have hcz3_1 : w2.cell? ⟨gb182, 1, none⟩ = some (.int .u8 a0_1) := (blk_cell BK182.out 1).trans rfl; have hcz3_2 : w2.cell? ⟨gb182, 2, none⟩ = some (.int .u8 a0_2) := (blk_cell BK182.out 2).trans rfl; have hcz3_3 : w2.cell? ⟨gb182, 3, none⟩ = some (.int .u8 a0_3) := (blk_cell BK182.out 3).trans rfl; have hcz3_4 : w2.cell? ⟨gb182, 4, none⟩ = some (.int .u8 a0_4) := (blk_cell BK182.out 4).trans rfl; have hcz3_5 : w2.cell? ⟨gb182, 5, none⟩ = some (.int .u8 a0_5) := (blk_cell BK182.out 5).trans rfl; have hcz3_6 : w2.cell? ⟨gb182, 6, none⟩ = some (.int .u8 a0_6) := (blk_cell BK182.out 6).trans rfl; have hcz3_7 : w2.cell? ⟨gb182, 7, none⟩ = some (.int .u8 a0_7) := (blk_cell BK182.out 7).trans rfl; have hcz3_8 : w2.cell? ⟨gb182, 8, none⟩ = some (.int .u8 a0_8) := (blk_cell BK182.out 8).trans rfl; have hcz3_9 : w2.cell? ⟨gb182, 9, none⟩ = some (.int .u8 a0_9) := (blk_cell BK182.out 9).trans rfl; have hcz3_10 : w2.cell? ⟨gb182, 10, none⟩ = some (.bool a0_10) := (blk_cell BK182.out 10).trans rfl; have hfz3_0 := blk_frozen BK182.out 0; have hfz3_1 := blk_frozen BK182.out 1; have hfz3_2 := blk_frozen BK182.out 2; have hfz3_3 := blk_frozen BK182.out 3; have hfz3_4 := blk_frozen BK182.out 4; have hfz3_5 := blk_frozen BK182.out 5; have hfz3_6 := blk_frozen BK182.out 6; have hfz3_7 := blk_frozen BK182.out 7; have hfz3_8 := blk_frozen BK182.out 8; have hfz3_9 := blk_frozen BK182.out 9; have hfz3_10 := blk_frozen BK182.out 10))
 go_ret
 exact ⟨by first | rfl | (simp [errW_none, errW_some] <;> rfl) | (simp [*, errW_none, errW_some] <;> rfl), by repeat (first | (with_reducible first | exact HB.out | apply below_alloc | apply pw_below_drewN | apply below_drew1 | refine below_set ?_ GE182.out) | exact HB.out)⟩

/-! ### sleuthlaw13_attrs: function 84 -/
def sleuthlaw13_attrs.f (a0_0 : Int) (a0_1 : Int) (a0_2 : Int) (a0_3 : Int) (a0_4 : Int) (a0_5 : Int) (a0_6 : Int) (a0_7 : Int) (a0_8 : Int) (a0_9 : Int) (a0_10 : Bool) : Option ((List (S141))) := (some (([(⟨#[97]⟩ : ByteArray), (⟨#[98]⟩ : ByteArray), (⟨#[119, 101, 115, 116, 32, 49]⟩ : ByteArray)] : List ByteArray) : List ByteArray)).bind fun y209 => (if 0 ≤ (((Int.tdiv a0_9 8) % 256) % 3) then (if (((Int.tdiv a0_9 8) % 256) % 3) < (y209.length : Int) then ((some (([(⟨(⟨#[111, 107]⟩ : ByteArray), (⟨3, (⟨#[]⟩ : ByteArray), ((Int.tdiv a0_9 4) % 256) % 2⟩ : S139)⟩ : S141), (⟨(⟨#[115, 105, 122, 101]⟩ : ByteArray), (⟨2, (⟨#[]⟩ : ByteArray), wrap64 ((wrap64 (a0_9)) - 100)⟩ : S139)⟩ : S141), (⟨(⟨#[122, 111, 110, 101]⟩ : ByteArray), (⟨1, rdOf ByteArray.empty y209 (((Int.tdiv a0_9 8) % 256) % 3), 0⟩ : S139)⟩ : S141)] : List (S141)) : List (S141))).bind fun y213 => (if 0 ≤ (Int.tmod a0_9 4) then (if (Int.tmod a0_9 4) ≤ (y213.length : Int) then (some (y213.take ((Int.tmod a0_9 4) : Int).toNat)) else (none)) else (none))) else (none)) else (none))
def sleuthlaw13_attrs.T1 : Bool × List (List Nat × List Nat) := (true, [([], []), ([0], [0]), ([1], [1]), ([2], [2]), ([3], [3]), ([4], [4]), ([5], [5]), ([], []), ([7], [7]), ([8], [8]), ([9], [9]), ([10], [10]), ([11], [11]), ([], []), ([], []), ([14], [14]), ([15], [15]), ([16], [16]), ([13, 17], [13, 17]), ([18], [18]), ([19], [19]), ([20], [20]), ([6, 12, 21], [6, 12, 21]), ([22, 0, 1, 2, 3, 4, 5, 6, 7, 8, 9, 10, 11, 12, 13, 14, 15, 16, 17, 18, 19, 20, 21, 22], [22])])
def sleuthlaw13_attrs.B1 : List Nat := [0, 1, 3, 7, 15, 31, 63, 0, 128, 384, 896, 1920, 3968, 0, 0, 16384, 49152, 114688, 253952, 516096, 1040384, 2088960, 4194303, 8388607]
theorem sleuthlaw13_attrs.tab1 : rtab .any (opsOf Try.f84 1) = sleuthlaw13_attrs.T1 := by kernel_rfl
theorem sleuthlaw13_attrs.bits1 : waitsOk sleuthlaw13_attrs.T1.2 sleuthlaw13_attrs.B1 = true := by kernel_rfl
set_option maxHeartbeats 8000000 in
set_option maxRecDepth 100000 in
theorem sleuthlaw13_attrs.calls (a0_0 : Int) (a0_1 : Int) (a0_2 : Int) (a0_3 : Int) (a0_4 : Int) (a0_5 : Int) (a0_6 : Int) (a0_7 : Int) (a0_8 : Int) (a0_9 : Int) (a0_10 : Bool) (r : List (S141)) (w : World) (h : sleuthlaw13_attrs.f a0_0 a0_1 a0_2 a0_3 a0_4 a0_5 a0_6 a0_7 a0_8 a0_9 a0_10 = some r) :
  Calls Try.prog 84 #[.agg #[.int .u8 a0_0, .int .u8 a0_1, .int .u8 a0_2, .int .u8 a0_3, .int .u8 a0_4, .int .u8 a0_5, .int .u8 a0_6, .int .u8 a0_7, .int .u8 a0_8, .int .u8 a0_9, .bool a0_10]] w fun e w' => ∃ v0_ : Value, e = .returned (v0_) ∧ Kd.R k141 141 w' w.heap.size (fun _ => True) v0_ r ∧ Below w.heap.size w w' := by
 have hu153 := Try.underlying153
 have hu139 := Try.underlying139
 have hu141 := Try.underlying141
 have HB := Aside0.mk (Below.refl w.heap.size w)
 have H : ((some (([(⟨#[97]⟩ : ByteArray), (⟨#[98]⟩ : ByteArray), (⟨#[119, 101, 115, 116, 32, 49]⟩ : ByteArray)] : List ByteArray) : List ByteArray)).bind fun y209 => (if 0 ≤ (((Int.tdiv a0_9 8) % 256) % 3) then (if (((Int.tdiv a0_9 8) % 256) % 3) < (y209.length : Int) then ((some (([(⟨(⟨#[111, 107]⟩ : ByteArray), (⟨3, (⟨#[]⟩ : ByteArray), ((Int.tdiv a0_9 4) % 256) % 2⟩ : S139)⟩ : S141), (⟨(⟨#[115, 105, 122, 101]⟩ : ByteArray), (⟨2, (⟨#[]⟩ : ByteArray), wrap64 ((wrap64 (a0_9)) - 100)⟩ : S139)⟩ : S141), (⟨(⟨#[122, 111, 110, 101]⟩ : ByteArray), (⟨1, rdOf ByteArray.empty y209 (((Int.tdiv a0_9 8) % 256) % 3), 0⟩ : S139)⟩ : S141)] : List (S141)) : List (S141))).bind fun y213 => (if 0 ≤ (Int.tmod a0_9 4) then (if (Int.tmod a0_9 4) ≤ (y213.length : Int) then (some (y213.take ((Int.tmod a0_9 4) : Int).toNat)) else (none)) else (none))) else (none)) else (none))) = some r := h
 clear h
 obtain ⟨y209, hy209⟩ : ∃ y_ : List ByteArray, y_ = (([(⟨#[97]⟩ : ByteArray), (⟨#[98]⟩ : ByteArray), (⟨#[119, 101, 115, 116, 32, 49]⟩ : ByteArray)] : List ByteArray)) := ⟨_, rfl⟩
 replace H : (if 0 ≤ (((Int.tdiv a0_9 8) % 256) % 3) then (if (((Int.tdiv a0_9 8) % 256) % 3) < (y209.length : Int) then ((some (([(⟨(⟨#[111, 107]⟩ : ByteArray), (⟨3, (⟨#[]⟩ : ByteArray), ((Int.tdiv a0_9 4) % 256) % 2⟩ : S139)⟩ : S141), (⟨(⟨#[115, 105, 122, 101]⟩ : ByteArray), (⟨2, (⟨#[]⟩ : ByteArray), wrap64 ((wrap64 (a0_9)) - 100)⟩ : S139)⟩ : S141), (⟨(⟨#[122, 111, 110, 101]⟩ : ByteArray), (⟨1, rdOf ByteArray.empty y209 (((Int.tdiv a0_9 8) % 256) % 3), 0⟩ : S139)⟩ : S141)] : List (S141)) : List (S141))).bind fun y213 => (if 0 ≤ (Int.tmod a0_9 4) then (if (Int.tmod a0_9 4) ≤ (y213.length : Int) then (some (y213.take ((Int.tmod a0_9 4) : Int).toNat)) else (none)) else (none))) else (none)) else (none)) = some r := by first | (rw [hy209]; with_reducible exact H) | (have H2_ := (Option.bind_some _ _).symm.trans H; rw [hy209]; with_reducible exact H2_) | (have H2_ := (Option.bind_some _ _).symm.trans H; with_reducible exact H2_) | with_reducible exact H | (rw [hy209]; exact H) | exact H
 have Ny209 := Aside0.mk hy209
 clear hy209
 obtain ⟨ji2, hji2⟩ : ∃ j_ : Int, (((Int.tdiv a0_9 8) % 256) % 3) = j_ := ⟨_, rfl⟩
 replace H : (if 0 ≤ (ji2) then (if (ji2) < (y209.length : Int) then ((some (([(⟨(⟨#[111, 107]⟩ : ByteArray), (⟨3, (⟨#[]⟩ : ByteArray), ((Int.tdiv a0_9 4) % 256) % 2⟩ : S139)⟩ : S141), (⟨(⟨#[115, 105, 122, 101]⟩ : ByteArray), (⟨2, (⟨#[]⟩ : ByteArray), wrap64 ((wrap64 (a0_9)) - 100)⟩ : S139)⟩ : S141), (⟨(⟨#[122, 111, 110, 101]⟩ : ByteArray), (⟨1, rdOf ByteArray.empty y209 (ji2), 0⟩ : S139)⟩ : S141)] : List (S141)) : List (S141))).bind fun y213 => (if 0 ≤ (Int.tmod a0_9 4) then (if (Int.tmod a0_9 4) ≤ (y213.length : Int) then (some (y213.take ((Int.tmod a0_9 4) : Int).toNat)) else (none)) else (none))) else (none)) else (none)) = some r := by first | (rw [hji2] at H; exact H) | (simp only [hji2] at H ⊢; exact H)
 by_cases c3 : 0 ≤ (ji2)
 rotate_left
 ·rw [if_neg c3] at H
  exact absurd H (by simp)
 rw [if_pos c3] at H
 have c3b0 : decide (0 ≤ (ji2)) = true := decide_eq_true c3
 clear c3
 by_cases c4 : (ji2) < (y209.length : Int)
 rotate_left
 ·rw [if_neg c4] at H
  exact absurd H (by simp)
 rw [if_pos c4] at H
 have c4b0 : decide ((ji2) < (y209.length : Int)) = true := decide_eq_true c4
 clear c4
 obtain ⟨y213, hy213⟩ : ∃ y_ : List (S141), y_ = (([(⟨(⟨#[111, 107]⟩ : ByteArray), (⟨3, (⟨#[]⟩ : ByteArray), ((Int.tdiv a0_9 4) % 256) % 2⟩ : S139)⟩ : S141), (⟨(⟨#[115, 105, 122, 101]⟩ : ByteArray), (⟨2, (⟨#[]⟩ : ByteArray), wrap64 ((wrap64 (a0_9)) - 100)⟩ : S139)⟩ : S141), (⟨(⟨#[122, 111, 110, 101]⟩ : ByteArray), (⟨1, rdOf ByteArray.empty y209 (ji2), 0⟩ : S139)⟩ : S141)] : List (S141))) := ⟨_, rfl⟩
 replace H : (if 0 ≤ (Int.tmod a0_9 4) then (if (Int.tmod a0_9 4) ≤ (y213.length : Int) then (some (y213.take ((Int.tmod a0_9 4) : Int).toNat)) else (none)) else (none)) = some r := by first | (rw [hy213]; with_reducible exact H) | (have H2_ := (Option.bind_some _ _).symm.trans H; rw [hy213]; with_reducible exact H2_) | (have H2_ := (Option.bind_some _ _).symm.trans H; with_reducible exact H2_) | with_reducible exact H | (rw [hy213]; exact H) | exact H
 have Ny213 := Aside0.mk hy213
 clear hy213
 obtain ⟨ji5, hji5⟩ : ∃ j_ : Int, (Int.tmod a0_9 4) = j_ := ⟨_, rfl⟩
 replace H : (if 0 ≤ (ji5) then (if (ji5) ≤ (y213.length : Int) then (some (y213.take ((ji5) : Int).toNat)) else (none)) else (none)) = some r := by first | (rw [hji5] at H; exact H) | (simp only [hji5] at H ⊢; exact H)
 by_cases c6 : 0 ≤ (ji5)
 rotate_left
 ·rw [if_neg c6] at H
  exact absurd H (by simp)
 rw [if_pos c6] at H
 have c6b0 := eq_true c6
 have c6b1 : decide (0 ≤ (ji5)) = true := decide_eq_true c6
 clear c6
 by_cases c7 : (ji5) ≤ (y213.length : Int)
 rotate_left
 ·rw [if_neg c7] at H
  exact absurd H (by simp)
 rw [if_pos c7] at H
 have c7b0 := eq_true c7
 have c7b1 : decide ((ji5) ≤ (y213.length : Int)) = true := decide_eq_true c7
 clear c7
 obtain ⟨y216, hy216⟩ : ∃ y_ : List (S141), y_ = (y213.take ((ji5) : Int).toNat) := ⟨_, rfl⟩
 replace H : (some y216) = some r := by first | (rw [hy216]; with_reducible exact H) | (have H2_ := (Option.bind_some _ _).symm.trans H; rw [hy216]; with_reducible exact H2_) | (have H2_ := (Option.bind_some _ _).symm.trans H; with_reducible exact H2_) | with_reducible exact H | (rw [hy216]; exact H) | exact H
 have Ny216 := Aside0.mk hy216
 clear hy216
 obtain rfl := Option.some.inj H
 go_enter Try.func84, Try.ntmps84
 try go_wp2_with (first | ((with_reducible refine gate_dst (N := 1) rfl ?_); refine box_event ?hg (N := 1) ?hd (cs := #[.int .u8 a0_0, .int .u8 a0_1, .int .u8 a0_2, .int .u8 a0_3, .int .u8 a0_4, .int .u8 a0_5, .int .u8 a0_6, .int .u8 a0_7, .int .u8 a0_8, .int .u8 a0_9, .bool a0_10]) (t := 153) ?hr ?_; (case hd => rfl); (case hg => rfl); (case hr => first | (go_simp; done) | (go_simp; rfl)); intro gb208 hg w8 hbox hb; have n0_ := Aside0.mk (below_step qgl13_0 hb); have n1_ := Aside0.mk (hbox); have n2_ := Aside0.mk ((by rw [hg]; exact (below_size qgl13_0) : w.heap.size ≤ gb208)); have n3_ := Aside0.mk ((by rw [hg]; exact (below_size qgl13_0) : w.heap.size ≤ gb208)); clear HB; have HB := n0_; have BK208 := n1_; have GW208 := n2_; have GE208 := n3_; clear n0_ n1_ n2_ n3_; clear hb hbox hg))
 have pi212 : (0 ≤ ((ji2) : Int)) = True := eq_true (of_decide_eq_true qgl13_2)
 have qi212 : ((ji2) < (y209.length : Int)) = True := eq_true (of_decide_eq_true qgl13_2)
 have n0_ := Aside0.mk (blk_drew BK208.out)
 have n1_ := Aside0.mk (below_drew1 HB.out)
 clear BK208
 clear HB
 have BK208 := n0_
 have HB := n1_
 clear n0_ n1_
 refine start_ (n := 24) (S := fun w' => w'.cell? ⟨gb208, 0, none⟩ = some (.int .u8 a0_0) ∧ w'.cell? ⟨gb208, 1, none⟩ = some (.int .u8 a0_1) ∧ w'.cell? ⟨gb208, 2, none⟩ = some (.int .u8 a0_2) ∧ w'.cell? ⟨gb208, 3, none⟩ = some (.int .u8 a0_3) ∧ w'.cell? ⟨gb208, 4, none⟩ = some (.int .u8 a0_4) ∧ w'.cell? ⟨gb208, 5, none⟩ = some (.int .u8 a0_5) ∧ w'.cell? ⟨gb208, 6, none⟩ = some (.int .u8 a0_6) ∧ w'.cell? ⟨gb208, 7, none⟩ = some (.int .u8 a0_7) ∧ w'.cell? ⟨gb208, 8, none⟩ = some (.int .u8 a0_8) ∧ w'.cell? ⟨gb208, 9, none⟩ = some (.int .u8 a0_9) ∧ w'.cell? ⟨gb208, 10, none⟩ = some (.bool a0_10)) (ds := []) #[F2525, F2525, F2525, F2525, F2525, F2525, F2525, F2525, F2525, F2525, F2525, F2525, F2525, F2525, F2525, F2525, F2525, F2525, F2525, F2525, F2525, F2525, F2525, F2525] (by kernel_rfl) rfl rfl ⟨(blk_cell BK208.out 0).trans rfl, (blk_cell BK208.out 1).trans rfl, (blk_cell BK208.out 2).trans rfl, (blk_cell BK208.out 3).trans rfl, (blk_cell BK208.out 4).trans rfl, (blk_cell BK208.out 5).trans rfl, (blk_cell BK208.out 6).trans rfl, (blk_cell BK208.out 7).trans rfl, (blk_cell BK208.out 8).trans rfl, (blk_cell BK208.out 9).trans rfl, (blk_cell BK208.out 10).trans rfl⟩ (fun hHeld => ?_); refine with_tabW sleuthlaw13_attrs.tab1 sleuthlaw13_attrs.bits1 (fun HT_ HW_ => ?_)
 generalize w8.drew = w9 at BK208 HB hHeld ⊢
 refine pure_ (i := 0) (N := some 4) (v := ?_) (a' := ?_) #[T2525, F2525, F2525, F2525, F2525, F2525, F2525, F2525, F2525, F2525, F2525, F2525, F2525, F2525, F2525, F2525, F2525, F2525, F2525, F2525, F2525, F2525, F2525, F2525] rfl rfl (any_of HT_.out (by kernel_rfl)) (fun _ _ _ h => h) (Or.inl ⟨by rfl, ?_⟩) ?_ ?_
 rotate_left
 ·intro w'
  go_simp
  with_reducible rfl
 rotate_left
 ·simp only [Act.put, List.setIfInBounds_toArray, List.set_cons_zero, List.set_cons_succ, i64_w, i32_w]
  rfl
 refine pure_ (i := 7) (N := some 11) (v := ?_) (a' := ?_) #[T2525, F2525, F2525, F2525, F2525, F2525, F2525, T2525, F2525, F2525, F2525, F2525, F2525, F2525, F2525, F2525, F2525, F2525, F2525, F2525, F2525, F2525, F2525, F2525] rfl rfl (any_of HT_.out (by kernel_rfl)) (fun _ _ _ h => h) (Or.inl ⟨by rfl, ?_⟩) ?_ ?_
 rotate_left
 ·intro w'
  go_simp
  with_reducible rfl
 rotate_left
 ·simp only [Act.put, List.setIfInBounds_toArray, List.set_cons_zero, List.set_cons_succ, i64_w, i32_w]
  rfl
 refine pure_ (i := 14) (N := some 18) (v := ?_) (a' := ?_) #[T2525, F2525, F2525, F2525, F2525, F2525, F2525, T2525, F2525, F2525, F2525, F2525, F2525, F2525, T2525, F2525, F2525, F2525, F2525, F2525, F2525, F2525, F2525, F2525] rfl rfl (any_of HT_.out (by kernel_rfl)) (fun _ _ _ h => h) (Or.inl ⟨by rfl, ?_⟩) ?_ ?_
 rotate_left
 ·intro w'
  go_simp
  with_reducible rfl
 rotate_left
 ·simp only [Act.put, List.setIfInBounds_toArray, List.set_cons_zero, List.set_cons_succ, i64_w, i32_w]
  rfl
 refine take_ (i := 1) (N := some 5) (v := ?_) (a' := ?_) #[T2525, T2525, F2525, F2525, F2525, F2525, F2525, T2525, F2525, F2525, F2525, F2525, F2525, F2525, T2525, F2525, F2525, F2525, F2525, F2525, F2525, F2525, F2525, F2525] rfl rfl (take_ofW HT_.out HW_.out (by kernel_rfl)) (fun _ _ _ h => h) (Or.inl ⟨by rfl, ?_⟩) hHeld ?_ ?_
 rotate_left
 ·rintro w' ⟨s0, s1, s2, s3, s4, s5, s6, s7, s8, s9, s10⟩
  go_simp
  with_reducible rfl
 rotate_left
 ·simp only [Act.put, List.setIfInBounds_toArray, List.set_cons_zero, List.set_cons_succ, i64_w, i32_w]
  rfl
 refine pure_ (i := 2) (N := some 6) (v := ?_) (a' := ?_) #[T2525, T2525, T2525, F2525, F2525, F2525, F2525, T2525, F2525, F2525, F2525, F2525, F2525, F2525, T2525, F2525, F2525, F2525, F2525, F2525, F2525, F2525, F2525, F2525] rfl rfl (any_of HT_.out (by kernel_rfl)) (fun _ _ _ h => h) (Or.inl ⟨by rfl, ?_⟩) ?_ ?_
 rotate_left
 ·intro w'
  go_simp
  with_reducible rfl
 rotate_left
 ·simp only [Act.put, List.setIfInBounds_toArray, List.set_cons_zero, List.set_cons_succ, i64_w, i32_w]
  rfl
 refine pure_ (i := 3) (N := some 7) (v := ?_) (a' := ?_) #[T2525, T2525, T2525, T2525, F2525, F2525, F2525, T2525, F2525, F2525, F2525, F2525, F2525, F2525, T2525, F2525, F2525, F2525, F2525, F2525, F2525, F2525, F2525, F2525] rfl rfl (any_of HT_.out (by kernel_rfl)) (fun _ _ _ h => h) (Or.inl ⟨by rfl, ?_⟩) ?_ ?_
 rotate_left
 ·intro w'
  go_simp
  with_reducible rfl
 rotate_left
 ·simp only [Act.put, List.setIfInBounds_toArray, List.set_cons_zero, List.set_cons_succ, i64_w, i32_w]
  rfl
 refine pure_ (i := 4) (N := some 8) (v := ?_) (a' := ?_) #[T2525, T2525, T2525, T2525, T2525, F2525, F2525, T2525, F2525, F2525, F2525, F2525, F2525, F2525, T2525, F2525, F2525, F2525, F2525, F2525, F2525, F2525, F2525, F2525] rfl rfl (any_of HT_.out (by kernel_rfl)) (fun _ _ _ h => h) (Or.inl ⟨by rfl, ?_⟩) ?_ ?_
 rotate_left
 ·intro w'
  go_simp
  with_reducible rfl
 rotate_left
 ·simp only [Act.put, List.setIfInBounds_toArray, List.set_cons_zero, List.set_cons_succ, i64_w, i32_w]
  rfl
 refine pure_ (i := 5) (N := some 9) (v := ?_) (a' := ?_) #[T2525, T2525, T2525, T2525, T2525, T2525, F2525, T2525, F2525, F2525, F2525, F2525, F2525, F2525, T2525, F2525, F2525, F2525, F2525, F2525, F2525, F2525, F2525, F2525] rfl rfl (any_of HT_.out (by kernel_rfl)) (fun _ _ _ h => h) (Or.inl ⟨by rfl, ?_⟩) ?_ ?_
 rotate_left
 ·intro w'
  go_simp
  with_reducible rfl
 rotate_left
 ·simp only [Act.put, List.setIfInBounds_toArray, List.set_cons_zero, List.set_cons_succ, i64_w, i32_w]
  rfl
 refine pure_ (i := 6) (N := some 10) (v := ?_) (a' := ?_) #[T2525, T2525, T2525, T2525, T2525, T2525, T2525, T2525, F2525, F2525, F2525, F2525, F2525, F2525, T2525, F2525, F2525, F2525, F2525, F2525, F2525, F2525, F2525, F2525] rfl rfl (any_of HT_.out (by kernel_rfl)) (fun _ _ _ h => h) (Or.inl ⟨by rfl, ?_⟩) ?_ ?_
 rotate_left
 ·intro w'
  go_simp
  with_reducible rfl
 rotate_left
 ·simp only [Act.put, List.setIfInBounds_toArray, List.set_cons_zero, List.set_cons_succ, i64_w, i32_w]
  rfl
 refine take_ (i := 8) (N := some 12) (v := ?_) (a' := ?_) #[T2525, T2525, T2525, T2525, T2525, T2525, T2525, T2525, T2525, F2525, F2525, F2525, F2525, F2525, T2525, F2525, F2525, F2525, F2525, F2525, F2525, F2525, F2525, F2525] rfl rfl (take_ofW HT_.out HW_.out (by kernel_rfl)) (fun _ _ _ h => h) (Or.inl ⟨by rfl, ?_⟩) hHeld ?_ ?_
 rotate_left
 ·rintro w' ⟨s0, s1, s2, s3, s4, s5, s6, s7, s8, s9, s10⟩
  go_simp
  with_reducible rfl
 rotate_left
 ·simp only [Act.put, List.setIfInBounds_toArray, List.set_cons_zero, List.set_cons_succ, i64_w, i32_w]
  rfl
 refine pure_ (i := 9) (N := some 13) (v := ?_) (a' := ?_) #[T2525, T2525, T2525, T2525, T2525, T2525, T2525, T2525, T2525, T2525, F2525, F2525, F2525, F2525, T2525, F2525, F2525, F2525, F2525, F2525, F2525, F2525, F2525, F2525] rfl rfl (any_of HT_.out (by kernel_rfl)) (fun _ _ _ h => h) (Or.inl ⟨by rfl, ?_⟩) ?_ ?_
 rotate_left
 ·intro w'
  go_simp
  with_reducible rfl
 rotate_left
 ·simp only [Act.put, List.setIfInBounds_toArray, List.set_cons_zero, List.set_cons_succ, i64_w, i32_w]
  rfl
 refine pure_ (i := 10) (N := some 14) (v := ?_) (a' := ?_) #[T2525, T2525, T2525, T2525, T2525, T2525, T2525, T2525, T2525, T2525, T2525, F2525, F2525, F2525, T2525, F2525, F2525, F2525, F2525, F2525, F2525, F2525, F2525, F2525] rfl rfl (any_of HT_.out (by kernel_rfl)) (fun _ _ _ h => h) (Or.inl ⟨by rfl, ?_⟩) ?_ ?_
 rotate_left
 ·intro w'
  go_simp
  with_reducible rfl
 rotate_left
 ·simp only [Act.put, List.setIfInBounds_toArray, List.set_cons_zero, List.set_cons_succ, i64_w, i32_w]
  rfl
 refine pure_ (i := 11) (N := some 15) (v := ?_) (a' := ?_) #[T2525, T2525, T2525, T2525, T2525, T2525, T2525, T2525, T2525, T2525, T2525, T2525, F2525, F2525, T2525, F2525, F2525, F2525, F2525, F2525, F2525, F2525, F2525, F2525] rfl rfl (any_of HT_.out (by kernel_rfl)) (fun _ _ _ h => h) (Or.inl ⟨by rfl, ?_⟩) ?_ ?_
 rotate_left
 ·intro w'
  go_simp
  with_reducible rfl
 rotate_left
 ·simp only [Act.put, List.setIfInBounds_toArray, List.set_cons_zero, List.set_cons_succ, i64_w, i32_w]
  rfl
 refine pure_ (i := 12) (N := some 16) (v := ?_) (a' := ?_) #[T2525, T2525, T2525, T2525, T2525, T2525, T2525, T2525, T2525, T2525, T2525, T2525, T2525, F2525, T2525, F2525, F2525, F2525, F2525, F2525, F2525, F2525, F2525, F2525] rfl rfl (any_of HT_.out (by kernel_rfl)) (fun _ _ _ h => h) (Or.inl ⟨by rfl, ?_⟩) ?_ ?_
 rotate_left
 ·intro w'
  go_simp
  with_reducible rfl
 rotate_left
 ·simp only [Act.put, List.setIfInBounds_toArray, List.set_cons_zero, List.set_cons_succ, i64_w, i32_w]
  rfl
 refine take_ (i := 15) (N := some 19) (v := ?_) (a' := ?_) #[T2525, T2525, T2525, T2525, T2525, T2525, T2525, T2525, T2525, T2525, T2525, T2525, T2525, F2525, T2525, T2525, F2525, F2525, F2525, F2525, F2525, F2525, F2525, F2525] rfl rfl (take_ofW HT_.out HW_.out (by kernel_rfl)) (fun _ _ _ h => h) (Or.inl ⟨by rfl, ?_⟩) hHeld ?_ ?_
 rotate_left
 ·rintro w' ⟨s0, s1, s2, s3, s4, s5, s6, s7, s8, s9, s10⟩
  go_simp
  with_reducible rfl
 rotate_left
 ·simp only [Act.put, List.setIfInBounds_toArray, List.set_cons_zero, List.set_cons_succ, i64_w, i32_w]
  rfl
 refine pure_ (i := 16) (N := some 20) (v := ?_) (a' := ?_) #[T2525, T2525, T2525, T2525, T2525, T2525, T2525, T2525, T2525, T2525, T2525, T2525, T2525, F2525, T2525, T2525, T2525, F2525, F2525, F2525, F2525, F2525, F2525, F2525] rfl rfl (any_of HT_.out (by kernel_rfl)) (fun _ _ _ h => h) (Or.inl ⟨by rfl, ?_⟩) ?_ ?_
 rotate_left
 ·intro w'
  go_simp
  with_reducible rfl
 rotate_left
 ·simp only [Act.put, List.setIfInBounds_toArray, List.set_cons_zero, List.set_cons_succ, i64_w, i32_w]
  rfl
 refine pure_ (i := 17) (N := some 21) (v := ?_) (a' := ?_) #[T2525, T2525, T2525, T2525, T2525, T2525, T2525, T2525, T2525, T2525, T2525, T2525, T2525, F2525, T2525, T2525, T2525, T2525, F2525, F2525, F2525, F2525, F2525, F2525] rfl rfl (any_of HT_.out (by kernel_rfl)) (fun _ _ _ h => h) (Or.inl ⟨by rfl, ?_⟩) ?_ ?_
 rotate_left
 ·intro w'
  go_simp
  with_reducible rfl
 rotate_left
 ·simp only [Act.put, List.setIfInBounds_toArray, List.set_cons_zero, List.set_cons_succ, i64_w, i32_w]
  rfl
 refine one_ (i := 13) (N := some 17) #[T2525, T2525, T2525, T2525, T2525, T2525, T2525, T2525, T2525, T2525, T2525, T2525, T2525, T2525, T2525, T2525, T2525, T2525, F2525, F2525, F2525, F2525, F2525, F2525] rfl rfl (one_of HT_.out (by kernel_rfl)) (by decide) (fun K hK => ?_)
 refine Kd.R_lit_step Kd.string _ 9 ?hg (N := 17) ?hd (xs := ([(⟨#[97]⟩ : ByteArray), (⟨#[98]⟩ : ByteArray), (⟨#[119, 101, 115, 116, 32, 49]⟩ : ByteArray)] : List ByteArray)) (inner := [.string (⟨#[97]⟩ : ByteArray), .string (⟨#[98]⟩ : ByteArray), .string (⟨#[119, 101, 115, 116, 32, 49]⟩ : ByteArray)]) (ok := fun _ => True) (okp := fun _ => True) ?hr ?hp (fun _ hk => hk) trivial (Below.refl _ _) (Nat.le_refl _) (by simp) ?_; (case hd => rfl); (case hg => rfl); (case hr => first | (go_simp; done) | (go_simp; rfl)); (case hp => exact (Reps.one (show Kd.M Kd.string _ _ _ (⟨#[97]⟩ : ByteArray) [.string (⟨#[97]⟩ : ByteArray)] from rfl) (Reps.one (show Kd.M Kd.string _ _ _ (⟨#[98]⟩ : ByteArray) [.string (⟨#[98]⟩ : ByteArray)] from rfl) (Reps.one (show Kd.M Kd.string _ _ _ (⟨#[119, 101, 115, 116, 32, 49]⟩ : ByteArray) [.string (⟨#[119, 101, 115, 116, 32, 49]⟩ : ByteArray)] from rfl) (Reps.none _ _)))))
 intro v210 w10 ho11 hb hg_ hnew_
 clear hg_ hnew_
 (first | rw [← Ny209.out] at ho11 | (simp only [Int.reduceToNat] at ho11; rw [← Ny209.out] at ho11))
 have n0_ := Aside0.mk (Kd.R_lower ho11 (below_size qgl13_1))
 have n1_ := Aside0.mk (blk_below (g := gb208) (o := .cells #[.int .u8 a0_0, .int .u8 a0_1, .int .u8 a0_2, .int .u8 a0_3, .int .u8 a0_4, .int .u8 a0_5, .int .u8 a0_6, .int .u8 a0_7, .int .u8 a0_8, .int .u8 a0_9, .bool a0_10] 153 (0, 0)) (by (with_reducible repeat (first | refine blk_drewN ?_ _ | refine blk_drew ?_ | refine blk_alloc ?_ _)); exact BK208.out) hb)
 have n2_ := Aside0.mk (below_step qgl13_1 hb)
 clear BK208
 clear HB
 have HO211 := n0_
 have BK208 := n1_
 have HB := n2_
 clear n0_ n1_ n2_
 clear hb ho11
 obtain ⟨Ao12, co12, eo12⟩ := Kd.R_slice HO211.out
 subst eo12
 obtain ⟨ado12, fo12, _⟩ := Kd.at_string (Kd.R_reads' HO211.out).2.2 0 (by decide) (by rw [Ny209.out]; simp)
 cases fo12
 refine hK.out _ _ ⟨(blk_cell BK208.out 0).trans rfl, (blk_cell BK208.out 1).trans rfl, (blk_cell BK208.out 2).trans rfl, (blk_cell BK208.out 3).trans rfl, (blk_cell BK208.out 4).trans rfl, (blk_cell BK208.out 5).trans rfl, (blk_cell BK208.out 6).trans rfl, (blk_cell BK208.out 7).trans rfl, (blk_cell BK208.out 8).trans rfl, (blk_cell BK208.out 9).trans rfl, (blk_cell BK208.out 10).trans rfl⟩ (fun hHeld => ?_)
 clear hK K
 refine norm_ (a' := ?_) ?_ ?_
 rotate_left
 ·show Act.put _ (some 17) _ = _
  simp only [Act.put, List.setIfInBounds_toArray, List.set_cons_zero, List.set_cons_succ, i64_w, i32_w]
  rfl
 refine pure_ (i := 18) (N := some 22) (v := ?_) (a' := ?_) #[T2525, T2525, T2525, T2525, T2525, T2525, T2525, T2525, T2525, T2525, T2525, T2525, T2525, T2525, T2525, T2525, T2525, T2525, T2525, F2525, F2525, F2525, F2525, F2525] rfl rfl (any_of HT_.out (by kernel_rfl)) (fun _ _ _ h => h) (Or.inl ⟨by rfl, ?_⟩) ?_ ?_
 rotate_left
 ·intro w'
  go_simp
  with_reducible rfl
 rotate_left
 ·simp only [Act.put, List.setIfInBounds_toArray, List.set_cons_zero, List.set_cons_succ, i64_w, i32_w]
  rfl
 refine one_ (i := 19) (N := some 23) #[T2525, T2525, T2525, T2525, T2525, T2525, T2525, T2525, T2525, T2525, T2525, T2525, T2525, T2525, T2525, T2525, T2525, T2525, T2525, T2525, F2525, F2525, F2525, F2525] rfl rfl (one_of HT_.out (by kernel_rfl)) (by decide) (fun K hK => ?_)
 (have p212 : 0 ≤ ((ji2) : Int) := of_decide_eq_true qgl13_2; have q212 : (ji2) < (y209.length : Int) := of_decide_eq_true qgl13_2; obtain ⟨ad212, e212, hx212_0⟩ := Kd.at_string (Kd.R_reads' HO211.out).2.2 (ji2) p212 q212; obtain rfl : ado12 = ad212 := (by injection e212))
 refine value_ (w1 := ?_) (v := ?_) (by rfl) rfl ?_ ?_
 rotate_left 2
 ·go_simp
  constructor
  ·rfl
  ·rfl
 clear hx212_0
 refine hK.out _ _ ⟨(blk_cell BK208.out 0).trans rfl, (blk_cell BK208.out 1).trans rfl, (blk_cell BK208.out 2).trans rfl, (blk_cell BK208.out 3).trans rfl, (blk_cell BK208.out 4).trans rfl, (blk_cell BK208.out 5).trans rfl, (blk_cell BK208.out 6).trans rfl, (blk_cell BK208.out 7).trans rfl, (blk_cell BK208.out 8).trans rfl, (blk_cell BK208.out 9).trans rfl, (blk_cell BK208.out 10).trans rfl⟩ (fun hHeld => ?_)
 clear hK K
 refine norm_ (a' := ?_) ?_ ?_
 rotate_left
 ·show Act.put _ (some 23) _ = _
  simp only [Act.put, List.setIfInBounds_toArray, List.set_cons_zero, List.set_cons_succ, i64_w, i32_w]
  rfl
 refine pure_ (i := 20) (N := some 24) (v := ?_) (a' := ?_) #[T2525, T2525, T2525, T2525, T2525, T2525, T2525, T2525, T2525, T2525, T2525, T2525, T2525, T2525, T2525, T2525, T2525, T2525, T2525, T2525, T2525, F2525, F2525, F2525] rfl rfl (any_of HT_.out (by kernel_rfl)) (fun _ _ _ h => h) (Or.inl ⟨by rfl, ?_⟩) ?_ ?_
 rotate_left
 ·intro w'
  go_simp
  with_reducible rfl
 rotate_left
 ·simp only [Act.put, List.setIfInBounds_toArray, List.set_cons_zero, List.set_cons_succ, i64_w, i32_w]
  rfl
 refine pure_ (i := 21) (N := some 25) (v := ?_) (a' := ?_) #[T2525, T2525, T2525, T2525, T2525, T2525, T2525, T2525, T2525, T2525, T2525, T2525, T2525, T2525, T2525, T2525, T2525, T2525, T2525, T2525, T2525, T2525, F2525, F2525] rfl rfl (any_of HT_.out (by kernel_rfl)) (fun _ _ _ h => h) (Or.inl ⟨by rfl, ?_⟩) ?_ ?_
 rotate_left
 ·intro w'
  go_simp
  with_reducible rfl
 rotate_left
 ·simp only [Act.put, List.setIfInBounds_toArray, List.set_cons_zero, List.set_cons_succ, i64_w, i32_w]
  rfl
 refine one_ (i := 22) (N := some 26) #[T2525, T2525, T2525, T2525, T2525, T2525, T2525, T2525, T2525, T2525, T2525, T2525, T2525, T2525, T2525, T2525, T2525, T2525, T2525, T2525, T2525, T2525, T2525, F2525] rfl rfl (one_of HT_.out (by kernel_rfl)) (by decide) (fun K hK => ?_)
 refine Kd.R_lit_step k141 _ 141 ?hg (N := 26) ?hd (xs := ([(⟨(⟨#[111, 107]⟩ : ByteArray), (⟨3, (⟨#[]⟩ : ByteArray), ((Int.tdiv a0_9 4) % 256) % 2⟩ : S139)⟩ : S141), (⟨(⟨#[115, 105, 122, 101]⟩ : ByteArray), (⟨2, (⟨#[]⟩ : ByteArray), wrap64 ((wrap64 (a0_9)) - 100)⟩ : S139)⟩ : S141), (⟨(⟨#[122, 111, 110, 101]⟩ : ByteArray), (⟨1, rdOf ByteArray.empty y209 (ji2), 0⟩ : S139)⟩ : S141)] : List (S141))) (inner := [.string (⟨#[111, 107]⟩ : ByteArray), .int .i64 3, .string (⟨#[]⟩ : ByteArray), .int .i64 (((Int.tdiv a0_9 4) % 256) % 2), .string (⟨#[115, 105, 122, 101]⟩ : ByteArray), .int .i64 2, .string (⟨#[]⟩ : ByteArray), .int .i64 (wrap64 ((wrap64 (a0_9)) - 100)), .string (⟨#[122, 111, 110, 101]⟩ : ByteArray), .int .i64 1, .string (rdOf ByteArray.empty y209 (ji2)), .int .i64 0]) (ok := fun _ => True) (okp := fun _ => True) ?hr ?hp (fun _ hk => hk) trivial (Below.refl _ _) (Nat.le_refl _) (by simp) ?_; (case hd => rfl); (case hg => rfl); (case hr => first | (go_simp; done) | (go_simp; rfl)); (case hp => exact (Reps.c4 (show Kd.M k141 _ _ _ (⟨(⟨#[111, 107]⟩ : ByteArray), (⟨3, (⟨#[]⟩ : ByteArray), ((Int.tdiv a0_9 4) % 256) % 2⟩ : S139)⟩ : S141) [.string (⟨#[111, 107]⟩ : ByteArray), .int .i64 3, .string (⟨#[]⟩ : ByteArray), .int .i64 (((Int.tdiv a0_9 4) % 256) % 2)] from (k141_mkM _ _ _ (⟨(⟨#[111, 107]⟩ : ByteArray), (⟨3, (⟨#[]⟩ : ByteArray), ((Int.tdiv a0_9 4) % 256) % 2⟩ : S139)⟩ : S141) )) (Reps.c4 (show Kd.M k141 _ _ _ (⟨(⟨#[115, 105, 122, 101]⟩ : ByteArray), (⟨2, (⟨#[]⟩ : ByteArray), wrap64 ((wrap64 (a0_9)) - 100)⟩ : S139)⟩ : S141) [.string (⟨#[115, 105, 122, 101]⟩ : ByteArray), .int .i64 2, .string (⟨#[]⟩ : ByteArray), .int .i64 (wrap64 ((wrap64 (a0_9)) - 100))] from (k141_mkM _ _ _ (⟨(⟨#[115, 105, 122, 101]⟩ : ByteArray), (⟨2, (⟨#[]⟩ : ByteArray), wrap64 ((wrap64 (a0_9)) - 100)⟩ : S139)⟩ : S141) )) (Reps.c4 (show Kd.M k141 _ _ _ (⟨(⟨#[122, 111, 110, 101]⟩ : ByteArray), (⟨1, rdOf ByteArray.empty y209 (ji2), 0⟩ : S139)⟩ : S141) [.string (⟨#[122, 111, 110, 101]⟩ : ByteArray), .int .i64 1, .string (rdOf ByteArray.empty y209 (ji2)), .int .i64 0] from (k141_mkM _ _ _ (⟨(⟨#[122, 111, 110, 101]⟩ : ByteArray), (⟨1, rdOf ByteArray.empty y209 (ji2), 0⟩ : S139)⟩ : S141) )) (Reps.none _ _)))))
 intro v214 w13 ho14 hb hg_ hnew_
 clear hg_ hnew_
 (first | rw [← Ny213.out] at ho14 | (simp only [Int.reduceToNat] at ho14; rw [← Ny213.out] at ho14))
 have n0_ := Aside0.mk (Kd.R_below (by (with_reducible repeat (first | apply Kd.R_alloc | apply Kd.R_drewN | apply Kd.R_drew)); exact HO211.out) hb)
 have n1_ := Aside0.mk (Kd.R_lower ho14 (below_size qgl13_1))
 have n2_ := Aside0.mk (blk_below (g := gb208) (o := .cells #[.int .u8 a0_0, .int .u8 a0_1, .int .u8 a0_2, .int .u8 a0_3, .int .u8 a0_4, .int .u8 a0_5, .int .u8 a0_6, .int .u8 a0_7, .int .u8 a0_8, .int .u8 a0_9, .bool a0_10] 153 (0, 0)) (by (with_reducible repeat (first | refine blk_drewN ?_ _ | refine blk_drew ?_ | refine blk_alloc ?_ _)); exact BK208.out) hb)
 have n3_ := Aside0.mk (below_step qgl13_1 hb)
 clear HO211
 clear BK208
 clear HB
 have HO211 := n0_
 have HO215 := n1_
 have BK208 := n2_
 have HB := n3_
 clear n0_ n1_ n2_ n3_
 clear hb ho14
 refine hK.out _ _ ⟨(blk_cell BK208.out 0).trans rfl, (blk_cell BK208.out 1).trans rfl, (blk_cell BK208.out 2).trans rfl, (blk_cell BK208.out 3).trans rfl, (blk_cell BK208.out 4).trans rfl, (blk_cell BK208.out 5).trans rfl, (blk_cell BK208.out 6).trans rfl, (blk_cell BK208.out 7).trans rfl, (blk_cell BK208.out 8).trans rfl, (blk_cell BK208.out 9).trans rfl, (blk_cell BK208.out 10).trans rfl⟩ (fun hHeld => ?_)
 clear hK K
 refine norm_ (a' := ?_) ?_ ?_
 rotate_left
 ·show Act.put _ (some 26) _ = _
  simp only [Act.put, List.setIfInBounds_toArray, List.set_cons_zero, List.set_cons_succ, i64_w, i32_w]
  rfl
 refine pure_ (i := 23) (N := some 3) (v := ?_) (a' := ?_) #[T2525, T2525, T2525, T2525, T2525, T2525, T2525, T2525, T2525, T2525, T2525, T2525, T2525, T2525, T2525, T2525, T2525, T2525, T2525, T2525, T2525, T2525, T2525, T2525] rfl rfl (any_of HT_.out (by kernel_rfl)) (fun _ _ _ h => h) (Or.inl ⟨by rfl, ?_⟩) ?_ ?_
 rotate_left
 ·intro w'
  go_simp
  with_reducible rfl
 rotate_left
 ·simp only [Act.put, List.setIfInBounds_toArray, List.set_cons_zero, List.set_cons_succ, i64_w, i32_w]
  rfl
 refine done_ (done_of HT_.out (by kernel_rfl)) ?_
 have hcz15_0 : w13.cell? ⟨gb208, 0, none⟩ = some (.int .u8 a0_0) := (blk_cell BK208.out 0).trans rfl
 have hcz15_1 : w13.cell? ⟨gb208, 1, none⟩ = some (.int .u8 a0_1) := (blk_cell BK208.out 1).trans rfl
 have hcz15_2 : w13.cell? ⟨gb208, 2, none⟩ = some (.int .u8 a0_2) := (blk_cell BK208.out 2).trans rfl
 have hcz15_3 : w13.cell? ⟨gb208, 3, none⟩ = some (.int .u8 a0_3) := (blk_cell BK208.out 3).trans rfl
 have hcz15_4 : w13.cell? ⟨gb208, 4, none⟩ = some (.int .u8 a0_4) := (blk_cell BK208.out 4).trans rfl
 have hcz15_5 : w13.cell? ⟨gb208, 5, none⟩ = some (.int .u8 a0_5) := (blk_cell BK208.out 5).trans rfl
 have hcz15_6 : w13.cell? ⟨gb208, 6, none⟩ = some (.int .u8 a0_6) := (blk_cell BK208.out 6).trans rfl
 have hcz15_7 : w13.cell? ⟨gb208, 7, none⟩ = some (.int .u8 a0_7) := (blk_cell BK208.out 7).trans rfl
 have hcz15_8 : w13.cell? ⟨gb208, 8, none⟩ = some (.int .u8 a0_8) := (blk_cell BK208.out 8).trans rfl
 have hcz15_9 : w13.cell? ⟨gb208, 9, none⟩ = some (.int .u8 a0_9) := (blk_cell BK208.out 9).trans rfl
 have hcz15_10 : w13.cell? ⟨gb208, 10, none⟩ = some (.bool a0_10) := (blk_cell BK208.out 10).trans rfl
 have hfz15_0 := blk_frozen BK208.out 0
 have hfz15_1 := blk_frozen BK208.out 1
 have hfz15_2 := blk_frozen BK208.out 2
 have hfz15_3 := blk_frozen BK208.out 3
 have hfz15_4 := blk_frozen BK208.out 4
 have hfz15_5 := blk_frozen BK208.out 5
 have hfz15_6 := blk_frozen BK208.out 6
 have hfz15_7 := blk_frozen BK208.out 7
 have hfz15_8 := blk_frozen BK208.out 8
 have hfz15_9 := blk_frozen BK208.out 9
 have hfz15_10 := blk_frozen BK208.out 10
 obtain ⟨Ao16, co16, eo16⟩ := Kd.R_slice HO215.out
 subst eo16
 have q17 : ((ji5) : Int) ≤ ((y213.length : Int) : Int) := of_decide_eq_true qgl13_2
 obtain ⟨i017, hi017, _, hsz17, _⟩ := info_parts info141
 have hcut17 := cut_to (P := Try.prog) 55 141 .u8 Try.underlying55 hi017 Ao16 y213.length co16 (ji5) (of_decide_eq_true qgl13_2) q17 (Kd.R_reads' HO215.out).2.1
 have hr17 := Kd.R_take (m := ((ji5) : Int).toNat) HO215.out (by omega)
 have hy17 : y216.length = ((ji5) : Int).toNat := (by rw [Ny216.out, List.length_take]; omega)
 rw [← Ny216.out] at hr17
 rw [← hy17] at hr17 hcut17
 clear hy17 hi017 hsz17 HO215
 have HO218 := Aside0.mk hr17
 clear hr17
 replace q17 := eq_true q17
 try go_wp2
 go_ret
 exact ⟨_, by first | rfl | (simp [errW_none, errW_some] <;> rfl) | (simp only [← hji2, ← hji5]; first | rfl | (simp [errW_none, errW_some] <;> rfl)) | (simp [*, errW_none, errW_some] <;> rfl), by (with_reducible repeat (first | apply Kd.R_alloc | apply Kd.R_drewN | apply Kd.R_drew)); exact HO218.out, qgl13_1⟩

end Go.Proofs.Ythdifdnjodbdnaa.Q
