/- The shelf's contracts at this program (slices.Sort, Clone, Insert, Delete, ContainsFunc, Grow, Concat), told of the print's own kinds. -/
import Derived.Shelf.SlicesE.IndexFunc
import Derived.Shelf.Spec.SlicesGrow
import Derived.Test.YtcjgmofgfblmnaaProg
import Derived.Test.YtcjgmofgfblmnaaWd
import Derived.WalkKit
import Derived.RowKit
import Derived.Deep.LoopGhost
import Derived.Laws.Slices
import Derived.Lib.Hide
import Derived.Shelf.Sort.Plain
import Derived.Ground.NamesProg
import Derived.Ground.Names2Prog
import Derived.Shelf.Slices.Clone
import Derived.Shelf.Slices.CompactI
import Derived.Shelf.Slices.Delete
import Derived.Shelf.Spec.SlicesInsert
import Derived.Shelf.Spec.SlicesInsertGrow
import Derived.Shelf.Slices.In.SortNone
namespace Go.Proofs.Ytcjgmofgfblmnaa.Hand
open Go.Shelf Go.Proofs
def renC : Go.Shelf.Ren := ⟨fun | 6 => 67 | 8 => 42 | n => n, fun | 0 => 0 | 3 => 3 | 4 => 4 | 22 => 26 | 25 => 86 | 23 => 3 | n => n, fun | n => n⟩
theorem layC : SlLaysH.n8 Try.prog renC := {
  mixed := by kernel_rfl
  f6 := ⟨Try.f67.name, by kernel_rfl, Try.func67.trans (congrArg some (by kernel_rfl))⟩
  f8 := ⟨Try.f42.name, by kernel_rfl, Try.func42.trans (congrArg some (by kernel_rfl))⟩
  t0 := Try.underlying0
  a0 := Try.isAgg0
  z0 := Try.sizeOf0
  v0 := Try.zeroValue0
  t3 := Try.underlying3
  a3 := Try.isAgg3
  z3 := Try.sizeOf3
  v3 := Try.zeroValue3
  t4 := Try.underlying4
  a4 := Try.isAgg4
  z4 := Try.sizeOf4
  v4 := Try.zeroValue4
  t22 := Try.underlying26
  a22 := Try.isAgg26
  z22 := Try.sizeOf26
  v22 := Try.zeroValue26
  t25 := Try.underlying86
  a25 := Try.isAgg86
  z25 := Try.sizeOf86
  v25 := Try.zeroValue86
  a23 := Try.isAgg3
  z23 := Try.sizeOf3 }
def renG : Go.Shelf.Ren := ⟨fun | 4 => 68 | n => n, fun | 0 => 0 | 3 => 3 | 4 => 4 | 9 => 9 | 20 => 20 | 22 => 26 | 25 => 3 | n => n, fun | n => n⟩
theorem layG : Lays8.n4 Try.prog renG := {
  mixed := by kernel_rfl
  f4 := ⟨Try.f68.name, by kernel_rfl, Try.func68.trans (congrArg some (by kernel_rfl))⟩
  t0 := Try.underlying0
  a0 := Try.isAgg0
  z0 := Try.sizeOf0
  v0 := Try.zeroValue0
  t3 := Try.underlying3
  a3 := Try.isAgg3
  z3 := Try.sizeOf3
  v3 := Try.zeroValue3
  t4 := Try.underlying4
  a4 := Try.isAgg4
  z4 := Try.sizeOf4
  v4 := Try.zeroValue4
  t9 := Try.underlying9
  a9 := Try.isAgg9
  z9 := Try.sizeOf9
  v9 := Try.zeroValue9
  t20 := Try.underlying20
  a20 := Try.isAgg20
  z20 := Try.sizeOf20
  v20 := Try.zeroValue20
  t22 := Try.underlying26
  a22 := Try.isAgg26
  z22 := Try.sizeOf26
  v22 := Try.zeroValue26 }
end Go.Proofs.Ytcjgmofgfblmnaa.Hand
namespace Go.Proofs.Ytcjgmofgfblmnaa.HandC
open Go.RowKit Go.Shelf Go.Proofs.YtcjgmofgfblmnaaW.PrintWords Go.Sort Go.Proofs.Ytcjgmofgfblmnaa.Hand
set_option linter.unusedVariables false
set_option linter.unusedSimpArgs false
set_option linter.unusedSimpArgs false
def bad (v : Int) : Bool := decide (v < 0) || decide (v > 1099511627776)
set_option maxHeartbeats 400000 in
theorem check1_calls (w : World) (v : Int) : Calls Try.prog 43 #[.int .i64 v] w fun e w' => e = .returned (.bool (bad v)) ∧ ∃ q, w' = w.drewN q := by
  unfold bad
  by_cases h1 : v < 0
  · have h1' : decide (v < 0) = true := decide_eq_true h1
    rw [h1']
    clear h1
    go_enter Try.func43, Try.ntmps43
    go_wp2
    go_ret
    exact ⟨by simp, ⟨0, rfl⟩⟩
  · have h1' : decide (v < 0) = false := decide_eq_false h1
    rw [h1']
    clear h1
    go_enter Try.func43, Try.ntmps43
    go_wp2
    go_ret
    exact ⟨by simp, ⟨0, rfl⟩⟩
theorem contains_calls (A0 : Option Addr) (c0 : Nat) (l0 : List Int) (w : World) (hr0 : Kd.C (Kd.int .i64) w A0 l0.length l0) (hc0 : l0.length ≤ c0) :
    Calls Try.prog 42 #[.slice A0 l0.length c0, .func (.func 43) #[] #[]] w fun e w' => e = .returned (.bool (l0.any bad)) ∧ Drawn0 w w' := by
  rcases Nat.eq_zero_or_pos l0.length with h | h
  · have h0 : l0 = [] := List.length_eq_zero_iff.1 h
    subst h0
    refine (AnyE.slices_ContainsFunc_empty layC A0 c0 _ w).mono ?_
    rintro e w' ⟨rfl, rfl⟩
    exact ⟨rfl, Drawn0.refl _⟩
  · obtain ⟨hl1, hm, h3⟩ := Kd.reads_of_C (enc := Value.int .i64) (d := (0 : Int)) (h1 := fun _ => rfl) hr0
    obtain ⟨ad, e, hc⟩ := h3 h
    subst e
    have hc0 := hc 0 h
    have hs : ad.spot = none := by
      rw [show ad.add 0 = ad by simp [Addr.add]] at hc0
      unfold World.cell? at hc0
      split at hc0
      · split at hc0
        · cases hc0
        · rename_i hh; simpa using hh
      · cases hc0
    obtain ⟨b, off, sp⟩ := ad
    simp only at hs
    subst hs
    have hbd : Bears Try.prog 43 Try.f43 := ⟨Try.f43.name, by kernel_rfl, Try.func43⟩
    have heg : ∀ args w, (callFunc 43 args).run Try.prog w = .ok (.enter 43 args) w := hbd.enters rfl
    have hP : PredAt Try.prog 43 #[] (Value.int .i64) bad w := fun W x _ => check1_calls W x
    refine (AnyE.slices_ContainsFunc layC (Value.int .i64) bad 43 #[] heg b off l0.length c0 l0 w hP (Nat.le_refl _) hm (fun j hj => ?_)).mono ?_
    · have := hc j hj
      rw [show (⟨b, off, none⟩ : Addr).add j = ⟨b, off + j, none⟩ by unfold Addr.add; split <;> simp_all] at this
      rw [this]
      simp [List.getD_eq_getElem?_getD, List.getElem?_eq_getElem hj, getElem!_pos, hj]
    · rintro e w' ⟨rfl, q, rfl⟩
      rw [List.take_of_length_le (Nat.le_refl _)]
      exact ⟨rfl, ⟨⟨q, rfl⟩⟩⟩
theorem size_alloc' (w : World) (o : Obj) : (w.alloc o).heap.size = w.heap.size + 1 := by unfold World.alloc; exact Array.size_push ..
/-- Grow of nothing. -/
theorem grow_calls (n : Nat) (w : World) (h0 : 0 < n) (hn : n < 17592186044416) :
    Calls Try.prog 68 #[.slice none 0 0, .int .i64 n] w fun e w' => ∃ v0_ : Value, e = .returned v0_ ∧ Kd.R (Kd.int .i64) 3 w' w.heap.size (fun _ => True) v0_ ([] : List Int) ∧ Below w.heap.size w w' := by
  obtain ⟨i0, hi, hz0, hz1, hz2⟩ := info_parts (show (Try.prog.info? 3).map (fun i => (i.zero, i.size, i.bytes)) = some (some (.int .i64 0), 1, 8) by kernel_rfl)
  refine (Any8.slices_Grow_grow layG i0 (.int .i64 0) hi hz0 (by rw [hz1]; decide) none 0 0 n [] w (Nat.le_refl _) (by omega) (by rw [hz2]; omega) (by omega) (by simp) (fun _ => rfl) (fun a e => by cases e)).mono ?_
  rintro e w' ⟨rfl, rfl⟩
  have hg := grownCap_ge w (0 + n) 0 3
  have hg2 := grownCap_le_maxLen w (0 + n) 0 3 (by unfold maxLen; omega)
  refine ⟨_, rfl, ?_, below_alloc (below_drew (Below.refl _ _)) _⟩
  refine Kd.R_of_own (enc := Value.int .i64) (h1 := fun _ => rfl) ⟨rfl, .inr ⟨w.heap.size, _, _, rfl, Nat.le_refl _, heap_alloc_new _ _, Nat.zero_le _, hg2, ?_, rfl⟩⟩ (fun _ _ => trivial)
  have zc : ∀ n : Nat, (Builtin.zeroCells (Value.int .i64 0).cells n).size = n := fun n => by rw [size_zeroCells, show (Value.int .i64 0).cells.size = 1 from rfl, Nat.mul_one]
  simp only [Array.size_append, zc]
  show 0 + (0 + n - 0) + (grownCap w (0 + n) 0 3 - (0 + n)) = grownCap w (0 + n) 0 3 * 1
  omega

theorem info3 : (Try.prog.info? 3).map (fun i => (i.zero, i.size, i.bytes)) = some (some (.int .i64 0), 1, 8) := by kernel_rfl
/-- A row of rows, read. -/
def rdL (xs : List (List Int)) (i : Nat) : List Int := xs.getD i []
theorem at_L {w : World} {A : Option Addr} {n : Nat} {xs : List (List Int)} (h : Kd.C (Kd.slice 3 (Kd.int .i64)) w A n xs) (i : Nat) (h1 : i < n) : ∃ ad A0 c0, A = some ad ∧ w.cell? (ad.add i) = some (.slice A0 (rdL xs i).length c0) ∧ (rdL xs i).length ≤ c0 ∧ (Kd.int .i64).C w A0 (rdL xs i).length (rdL xs i) := by
  obtain ⟨ad, c, e, _, hK, hc0⟩ := Kd.C_get h ([] : List Int) (i : Int) (Int.natCast_nonneg _) (by omega)
  obtain ⟨A0, c0, rfl, l0, g0⟩ := hK
  refine ⟨ad, A0, c0, e, ?_, l0, g0⟩
  have hq := hc0 0 _ rfl
  have e1 : (i : Int).toNat * Kd.sz (Kd.slice 3 (Kd.int .i64)) + 0 = i := by show (i : Int).toNat * 1 + 0 = i; omega
  rwa [e1] at hq
/-- How many numbers the first rows have. -/
def tl (ls : List (List Int)) (i : Nat) : Nat := (ls.take i).flatten.length
theorem tl_zero (ls : List (List Int)) : tl ls 0 = 0 := rfl
theorem take_snocL (ls : List (List Int)) (i : Nat) (h : i < ls.length) : (ls.take (i + 1)).flatten = (ls.take i).flatten ++ rdL ls i := by
  rw [List.take_succ_eq_append_getElem h, List.flatten_append]
  unfold rdL
  rw [List.getD_eq_getElem?_getD, List.getElem?_eq_getElem h]
  simp
theorem tl_succ (ls : List (List Int)) (i : Nat) (h : i < ls.length) : tl ls (i + 1) = tl ls i + (rdL ls i).length := by
  unfold tl
  rw [take_snocL ls i h, List.length_append]
theorem tl_le (ls : List (List Int)) (i : Nat) : tl ls i ≤ ls.flatten.length := by
  unfold tl
  have := congrArg (fun l => (List.flatten l).length) (List.take_append_drop i ls)
  simp only [List.flatten_append, List.length_append] at this
  omega
theorem tl_all (ls : List (List Int)) : tl ls ls.length = ls.flatten.length := by unfold tl; rw [List.take_length]
set_option maxHeartbeats 1000000 in
set_option maxRecDepth 100000 in
/-- slices.Concat. -/
theorem concat_calls (A0 : Option Addr) (c0 : Nat) (ls : List (List Int)) (w : World) (hr0 : Kd.C (Kd.slice 3 (Kd.int .i64)) w A0 ls.length ls) (hc0 : ls.length ≤ c0) (ht : ls.flatten.length < 17592186044416) (hp : 0 < ls.flatten.length) :
    Calls Try.prog 45 #[.slice A0 ls.length c0] w fun e w' => ∃ v0_ : Value, e = .returned v0_ ∧ Kd.R (Kd.int .i64) 3 w' w.heap.size (fun _ => True) v0_ ls.flatten ∧ Below w.heap.size w w' := by
  have hpos : 0 < ls.length := by
    cases ls with
    | nil => simp at hp
    | cons x l => simp
  have hmax : ls.length ≤ 9223372036854775807 := hr0.2.1
  obtain ⟨ad, _, _, e, _⟩ := at_L hr0 0 hpos
  subst e
  have HR0 := Aside0.mk hr0
  clear hr0
  go_enter Try.func45, Try.ntmps45
  go_wp2
  go_loop [3, 11] (fun v3 v11 => ∃ i : Nat, i ≤ ls.length ∧ v3 = .int .i64 (tl ls i : Nat) ∧ v11 = .int .i64 (i : Nat)) (fun _ v11 => ls.length - (intOf v11).toNat)
  case atStart => exact ⟨0, Nat.zero_le _, by rw [tl_zero]; rfl, rfl⟩
  case round =>
    obtain ⟨i, hi, rfl, rfl⟩ := hrel
    by_cases hlt : i < ls.length
    · obtain ⟨ad', Ai, ci, e, hcell, hl, hC⟩ := at_L HR0.out i hlt
      cases e
      have h1 := tl_succ ls i hlt
      have h2 := tl_le ls (i + 1)
      have H1 := Lib.hid h1
      clear hC hl
      have h3 : tl ls i + (rdL ls i).length < 17592186044416 := by omega
      clear h1 h2
      go_wp2
      go_round
      case rel => exact ⟨i + 1, by omega, by rw [H1.out]; go_num, by go_num⟩
      case measure => simp [intOf]; omega
    · obtain rfl : i = ls.length := by omega
      have ht' : tl ls ls.length < 17592186044416 := by rw [tl_all]; exact ht
      have hp' : 0 < tl ls ls.length := by rw [tl_all]; exact hp
      go_wp2_with (go_at_call 68; (with_reducible refine (grow_calls (tl ls ls.length) _ hp' ht').mono ?_); rintro e w1 ⟨v0, rfl, HO, HB⟩)
      go_loopw [6, 27] (fun v6 v27 w' => ∃ i : Nat, i ≤ ls.length ∧ v27 = .int .i64 (i : Nat) ∧ Kd.R (Kd.int .i64) 3 w' w.heap.size (fun _ => True) v6 (ls.take i).flatten ∧ Below w.heap.size w w') (fun _ v27 _ => ls.length - (intOf v27).toNat)
      case atStart => exact ⟨0, Nat.zero_le _, rfl, HO, HB⟩
      case round =>
        obtain ⟨i, hi, rfl, HO, HB⟩ := hrel
        by_cases hlt : i < ls.length
        · obtain ⟨ad', Ai, ci, e, hcell, hl, hC⟩ := at_L HR0.out i hlt
          cases e
          have hcell' := pw_cell_below HB hcell
          clear hcell
          have HC := Aside0.mk (Kd.C_below hC HB)
          have HL : Aside0 ((ls.take i).flatten.length + (rdL ls i).length < 17592186044416) := ⟨by
            have h1 := tl_succ ls i hlt
            have h2 := tl_le ls (i + 1)
            unfold tl at h1 h2
            omega⟩
          have HO' := Aside0.mk HO
          have HB' := Aside0.mk HB
          clear HO HB hC hl
          go_wp2_with (at_builtin; refine Kd.R_append_row (Value.int .i64) (0 : Int) (h1 := fun _ => rfl) (w0 := w) w.heap.size rfl (.tmp 31) (.tmp 32) 26 3 (.int .i64 0) 8 rfl Try.underlying26 info3 rfl (by decide) _ ((ls.take i).flatten) (rdL ls i) _ _ _ (fun _ => True) rfl rfl (fun _ _ => trivial) ?aO ?aR ?aB ?aS ?aL ?_; (case aO => exact HO'.out); (case aR => exact HC.out); (case aB => exact HB'.out); (case aS => exact HB'.out.size); (case aL => have := HL.out; omega); intro v1 w1 ho hb hg hat; have HO2 := Aside0.mk ho; have HB2 := Aside0.mk hb; clear ho hb hg hat)
          go_roundw
          case rel => exact ⟨i + 1, by omega, by go_num, by rw [take_snocL ls i hlt]; exact HO2.out, HB2.out⟩
          case measure => simp [intOf]; omega
        · obtain rfl : i = ls.length := by omega
          have HO' := Aside0.mk HO
          have HB' := Aside0.mk HB
          clear HO HB
          go_wp2
          go_ret
          exact ⟨_, rfl, by have h := HO'.out; rw [List.take_length] at h; exact h, HB'.out⟩
end Go.Proofs.Ytcjgmofgfblmnaa.HandC
namespace Go.Proofs
open Go.Shelf
def Try.lays189_ren : Go.Shelf.Ren := ⟨fun | 189 => 51 | 125 => 72 | 257 => 71 | 128 => 90 | 129 => 91 | 294 => 81 | 295 => 82 | 296 => 83 | 297 => 84 | 298 => 85 | 299 => 86 | 216 => 87 | 300 => 88 | 301 => 89 | 328 => 106 | 329 => 107 | 330 => 108 | 331 => 109 | 332 => 110 | 215 => 73 | 343 => 116 | n => n, fun | 28 => 26 | 3 => 3 | 46 => 120 | 0 => 0 | 51 => 139 | 53 => 141 | 4 => 4 | 183 => 132 | 182 => 131 | 131 => 124 | 5 => 5 | 9 => 9 | 218 => 150 | 222 => 154 | 228 => 158 | 229 => 159 | n => n, fun | n => n⟩
theorem Try.lays189 : Go.Proofs.Lays.n189 Try.prog Try.lays189_ren := {
  mixed := by kernel_rfl
  f125 := Try.func72.trans (congrArg some (by kernel_rfl))
  f128 := Try.func90.trans (congrArg some (by kernel_rfl))
  f129 := Try.func91.trans (congrArg some (by kernel_rfl))
  f189 := Try.func51.trans (congrArg some (by kernel_rfl))
  f215 := Try.func73.trans (congrArg some (by kernel_rfl))
  f216 := Try.func87.trans (congrArg some (by kernel_rfl))
  f257 := Try.func71.trans (congrArg some (by kernel_rfl))
  f294 := Try.func81.trans (congrArg some (by kernel_rfl))
  f295 := Try.func82.trans (congrArg some (by kernel_rfl))
  f296 := Try.func83.trans (congrArg some (by kernel_rfl))
  f297 := Try.func84.trans (congrArg some (by kernel_rfl))
  f298 := Try.func85.trans (congrArg some (by kernel_rfl))
  f299 := Try.func86.trans (congrArg some (by kernel_rfl))
  f300 := Try.func88.trans (congrArg some (by kernel_rfl))
  f301 := Try.func89.trans (congrArg some (by kernel_rfl))
  f328 := Try.func106.trans (congrArg some (by kernel_rfl))
  f329 := Try.func107.trans (congrArg some (by kernel_rfl))
  f330 := Try.func108.trans (congrArg some (by kernel_rfl))
  f331 := Try.func109.trans (congrArg some (by kernel_rfl))
  f332 := Try.func110.trans (congrArg some (by kernel_rfl))
  f343 := Try.func116.trans (congrArg some (by kernel_rfl))
  t0 := Try.underlying0
  a0 := Try.isAgg0
  z0 := Try.sizeOf0
  v0 := Try.zeroValue0
  t3 := Try.underlying3
  a3 := Try.isAgg3
  z3 := Try.sizeOf3
  v3 := Try.zeroValue3
  t4 := Try.underlying4
  a4 := Try.isAgg4
  z4 := Try.sizeOf4
  v4 := Try.zeroValue4
  t5 := Try.underlying5
  a5 := Try.isAgg5
  z5 := Try.sizeOf5
  v5 := Try.zeroValue5
  t9 := Try.underlying9
  a9 := Try.isAgg9
  z9 := Try.sizeOf9
  v9 := Try.zeroValue9
  t28 := Try.underlying26
  a28 := Try.isAgg26
  z28 := Try.sizeOf26
  v28 := Try.zeroValue26
  t46 := Try.underlying120
  a46 := Try.isAgg120
  z46 := Try.sizeOf120
  v46 := Try.zeroValue120
  t51 := Try.underlying139
  a51 := Try.isAgg139
  z51 := Try.sizeOf139
  v51 := Try.zeroValue139
  t53 := Try.underlying141
  a53 := Try.isAgg141
  z53 := Try.sizeOf141
  v53 := Try.zeroValue141
  t131 := Try.underlying124
  a131 := Try.isAgg124
  z131 := Try.sizeOf124
  v131 := Try.zeroValue124
  t182 := Try.underlying131
  a182 := Try.isAgg131
  z182 := Try.sizeOf131
  v182 := Try.zeroValue131
  t183 := Try.underlying132
  a183 := Try.isAgg132
  z183 := Try.sizeOf132
  v183 := Try.zeroValue132
  t218 := Try.underlying150
  a218 := Try.isAgg150
  z218 := Try.sizeOf150
  v218 := Try.zeroValue150
  t222 := Try.underlying154
  a222 := Try.isAgg154
  z222 := Try.sizeOf154
  v222 := Try.zeroValue154
  t228 := Try.underlying158
  a228 := Try.isAgg158
  z228 := Try.sizeOf158
  v228 := Try.zeroValue158
  t229 := Try.underlying159
  a229 := Try.isAgg159
  z229 := Try.sizeOf159
  v229 := Try.zeroValue159 }
def Try.laysNm215_ren : Go.Shelf.Ren := ⟨fun | 15 => 50 | n => n, fun | 22 => 26 | 3 => 3 | 4 => 4 | n => n, fun | n => n⟩
theorem Try.laysNm215 : Go.Proofs.Lays2.n15 Try.prog Try.laysNm215_ren := {
  mixed := by kernel_rfl
  f15 := Try.func50.trans (congrArg some (by kernel_rfl))
  t3 := Try.underlying3
  a3 := Try.isAgg3
  z3 := Try.sizeOf3
  v3 := Try.zeroValue3
  t4 := Try.underlying4
  a4 := Try.isAgg4
  z4 := Try.sizeOf4
  v4 := Try.zeroValue4
  t22 := Try.underlying26
  a22 := Try.isAgg26
  z22 := Try.sizeOf26
  v22 := Try.zeroValue26
  i3 := by kernel_rfl }
def Try.laysNm223_ren : Go.Shelf.Ren := ⟨fun | 23 => 79 | n => n, fun | 22 => 26 | 3 => 3 | 4 => 4 | 0 => 0 | n => n, fun | n => n⟩
theorem Try.laysNm223 : Go.Proofs.Lays2.n23 Try.prog Try.laysNm223_ren := {
  mixed := by kernel_rfl
  f23 := Try.func79.trans (congrArg some (by kernel_rfl))
  t0 := Try.underlying0
  a0 := Try.isAgg0
  z0 := Try.sizeOf0
  v0 := Try.zeroValue0
  t3 := Try.underlying3
  a3 := Try.isAgg3
  z3 := Try.sizeOf3
  v3 := Try.zeroValue3
  t4 := Try.underlying4
  a4 := Try.isAgg4
  z4 := Try.sizeOf4
  v4 := Try.zeroValue4
  t22 := Try.underlying26
  a22 := Try.isAgg26
  z22 := Try.sizeOf26
  v22 := Try.zeroValue26
  i3 := by kernel_rfl }
def Try.laysNm221_ren : Go.Shelf.Ren := ⟨fun | 21 => 78 | 27 => 102 | 28 => 103 | 35 => 115 | 39 => 119 | n => n, fun | 22 => 26 | 3 => 3 | 4 => 4 | 0 => 0 | n => n, fun | n => n⟩
theorem Try.laysNm221 : Go.Proofs.Lays2.n21 Try.prog Try.laysNm221_ren := {
  mixed := by kernel_rfl
  f21 := Try.func78.trans (congrArg some (by kernel_rfl))
  f27 := Try.func102.trans (congrArg some (by kernel_rfl))
  f28 := Try.func103.trans (congrArg some (by kernel_rfl))
  f35 := Try.func115.trans (congrArg some (by kernel_rfl))
  f39 := Try.func119.trans (congrArg some (by kernel_rfl))
  t0 := Try.underlying0
  a0 := Try.isAgg0
  z0 := Try.sizeOf0
  v0 := Try.zeroValue0
  t3 := Try.underlying3
  a3 := Try.isAgg3
  z3 := Try.sizeOf3
  v3 := Try.zeroValue3
  t4 := Try.underlying4
  a4 := Try.isAgg4
  z4 := Try.sizeOf4
  v4 := Try.zeroValue4
  t22 := Try.underlying26
  a22 := Try.isAgg26
  z22 := Try.sizeOf26
  v22 := Try.zeroValue26
  i3 := by kernel_rfl }
def Try.laysNm220_ren : Go.Shelf.Ren := ⟨fun | 20 => 52 | n => n, fun | 22 => 26 | 3 => 3 | 4 => 4 | 0 => 0 | n => n, fun | n => n⟩
theorem Try.laysNm220 : Go.Proofs.Lays2.n20 Try.prog Try.laysNm220_ren := {
  mixed := by kernel_rfl
  f20 := Try.func52.trans (congrArg some (by kernel_rfl))
  t0 := Try.underlying0
  a0 := Try.isAgg0
  z0 := Try.sizeOf0
  v0 := Try.zeroValue0
  t3 := Try.underlying3
  a3 := Try.isAgg3
  z3 := Try.sizeOf3
  v3 := Try.zeroValue3
  t4 := Try.underlying4
  a4 := Try.isAgg4
  z4 := Try.sizeOf4
  v4 := Try.zeroValue4
  t22 := Try.underlying26
  a22 := Try.isAgg26
  z22 := Try.sizeOf26
  v22 := Try.zeroValue26
  i3 := by kernel_rfl }
end Go.Proofs
namespace Go.Proofs.Ytcjgmofgfblmnaa.Hand
open Go.RowKit Go.Shelf Go.Proofs.YtcjgmofgfblmnaaW.PrintWords Go.Sort
set_option linter.unusedVariables false
set_option linter.unusedSimpArgs false
set_option linter.unusedSimpArgs false

/-- An own row of ints, laid open. -/
theorem form {e : Nat} {w : World} {base : Nat} {ok : Nat → Prop} {v : Value} {xs : List Int} (h : (Kd.int .i64).R e w base ok v xs) :
    (v = .slice none 0 0 ∧ xs = []) ∨ ∃ g cap cur, v = .slice (some ⟨g, 0, none⟩) xs.length cap ∧ base ≤ g ∧ ok g ∧ g < w.heap.size ∧ w.heap[g]? = some (.cells cur e (0, 0)) ∧ xs.length ≤ cap ∧ cap ≤ 9223372036854775807 ∧ cur.size = cap ∧ cur.toList.take xs.length = xs.map (Value.int .i64) := by
  have ho := Kd.own_of_R (enc := Value.int .i64) (h1 := fun _ => rfl) h
  obtain ⟨hl, hc⟩ := ho
  rcases hc with ⟨rfl, hn⟩ | ⟨g, cap, cur, rfl, hb, hh, hn, hm, hs, ht⟩
  · exact .inl ⟨rfl, List.length_eq_zero_iff.1 hn⟩
  · refine .inr ⟨g, cap, cur, rfl, hb, h.1 g rfl, blk_lt hh, hh, hn, by simpa [maxLen] using hm, by simpa using hs, by simpa [encs] using ht⟩

/-- And put together. -/
theorem make {e : Nat} {w : World} {base : Nat} {ok : Nat → Prop} {g cap n : Nat} {cur : Array Value} {xs : List Int} (hl : n = xs.length) (hb : base ≤ g) (hok : ok g) (hh : w.heap[g]? = some (.cells cur e (0, 0)))
    (hn : xs.length ≤ cap) (hm : cap ≤ 9223372036854775807) (hs : cur.size = cap) (ht : cur.toList.take xs.length = xs.map (Value.int .i64)) : (Kd.int .i64).R e w base ok (.slice (some ⟨g, 0, none⟩) n cap) xs := by
  subst hl
  refine Kd.R_of_own (enc := Value.int .i64) (h1 := fun _ => rfl) ⟨by simp [encs], .inr ⟨g, cap, cur, rfl, hb, hh, hn, by simpa [maxLen] using hm, by simpa using hs, by simpa [encs] using ht⟩⟩ (fun k hk => ?_)
  simp [Value.ownBlock] at hk
  subst hk
  exact hok

/-- A world that parts from another one in one block alone. -/
structure But (g : Nat) (w w' : World) : Prop where
  os : w'.os = w.os
  tape : w'.tape = w.tape
  output : w'.output = w.output
  size : w.heap.size ≤ w'.heap.size
  block : ∀ k, k < w.heap.size → k ≠ g → w'.heap[k]? = w.heap[k]?

theorem But.below {g : Nat} {w0 w w' : World} (h : But g w w') (hB : Below w0.heap.size w0 w) (hg : w0.heap.size ≤ g) : Below w0.heap.size w0 w' :=
  ⟨h.os.trans hB.os, h.tape.trans hB.tape, h.output.trans hB.output, Nat.le_trans hB.size h.size, fun k hk => (h.block k (Nat.lt_of_lt_of_le hk hB.size) (by omega)).trans (hB.block k hk)⟩
theorem But.kept {g : Nat} {w w' : World} {P : Nat → Prop} (h : But g w w') (hg : P g) : Kept w w' P :=
  ⟨h.size, fun i hi hn => h.block i hi (fun e => hn (e ▸ hg))⟩

theorem But.of_ahead {g n : Nat} {w w' : World} (h : But g (Sort.ahead w n) w') : But g w w' := ⟨h.os, h.tape, h.output, h.size, h.block⟩
theorem mapBlock_but (w : World) (g : Nat) (f : Array Value → Array Value) : But g w (mapBlock w g f) :=
  ⟨rfl, rfl, rfl, by simp [mapBlock], fun k _ hk => by simp [mapBlock, Array.getElem?_modify, Ne.symm hk]⟩
theorem mapBlock_at {w : World} {g : Nat} {c : Array Value} {e : TypeId} {fr : Nat × Nat} (f : Array Value → Array Value) (h : w.heap[g]? = some (.cells c e fr)) : (mapBlock w g f).heap[g]? = some (.cells (f c) e fr) := by
  simp [mapBlock, Array.getElem?_modify, h, onCells]
theorem grow_but {g : Nat} {w w' : World} (h : But g w w') (os : Array Obj) : But g w (Sort.grow w' os) :=
  ⟨h.os, h.tape, h.output, by have := h.size; simp; omega, fun k hk hn => by
    have := h.size
    rw [← h.block k hk hn]
    show (w'.heap ++ os)[k]? = _
    rw [Array.getElem?_append, if_pos (by omega)]⟩
theorem grow_at {w' : World} {g : Nat} {o : Obj} (os : Array Obj) (h : w'.heap[g]? = some o) : (Sort.grow w' os).heap[g]? = some o := by
  show (w'.heap ++ os)[g]? = _
  rw [Array.getElem?_append, if_pos (blk_lt h), h]

theorem putCells_take (off : Nat) (d : List Int) (c : Array Value) (h : d.length ≤ c.size) : (putCells (Value.int .i64) 0 d.toArray c).toList.take d.length = d.map (Value.int .i64) := by
  apply List.ext_getElem?
  intro j
  rw [List.getElem?_take]
  split
  · rename_i hj
    have hc : j < c.size := by omega
    simp only [putCells, Array.getElem?_toList, Array.getElem?_mapIdx, Array.getElem?_eq_getElem hc, Option.map_some, List.getElem?_map, List.getElem?_eq_getElem hj]
    have h2 : (0 ≤ j ∧ j < 0 + d.toArray.size) := ⟨Nat.zero_le _, by simpa using hj⟩
    rw [if_pos h2]
    simp [hj, getElem!_pos]
  · rename_i hj
    rw [List.getElem?_eq_none (by simp; omega)]

theorem holds_of {w : World} {g e : Nat} {cur : Array Value} {xs : List Int} (hh : w.heap[g]? = some (.cells cur e (0, 0))) (hn : xs.length ≤ cur.size) (ht : cur.toList.take xs.length = xs.map (Value.int .i64)) : Holds (Value.int .i64) w g 0 xs.toArray := by
  intro j hj
  have hj' : j < xs.length := by simpa using hj
  refine ⟨?_, blk_frozen hh _⟩
  rw [Nat.zero_add, blk_cell hh j]
  have h3 := congrArg (fun l => l[j]?) ht
  simp only [List.getElem?_take, if_pos hj', Array.getElem?_toList, List.getElem?_map, List.getElem?_eq_getElem hj', Option.map_some] at h3
  rw [h3]
  simp [hj', getElem!_pos]

/-- slices.Sort. -/
theorem sort_calls (P0_ : Nat → Prop) (v : Value) (l0 : List Int) (w0 w : World) (hB : Below w0.heap.size w0 w) (ho0 : Kd.R (Kd.int .i64) 3 w w0.heap.size P0_ v l0) (hl : l0.length < 4611686018427387904) :
    Calls Try.prog 51 #[v] w fun e w' => e = .returned (.tuple #[]) ∧ Kd.R (Kd.int .i64) 3 w' w0.heap.size (fun k_ => (P0_ k_ ∨ w.heap.size ≤ k_)) v (l0.mergeSort fun x y => decide (x ≤ y)) ∧ Below w0.heap.size w0 w' ∧ Kept w w' (fun k_ => P0_ k_) := by
  rcases form ho0 with ⟨rfl, rfl⟩ | ⟨g, cap, cur, rfl, hb, hok, hlt, hh, hn, hm, hs, ht⟩
  · refine (Any.slices_Sort_int_none Try.lays189 none 0 w).mono ?_
    rintro e w' ⟨rfl, rfl⟩
    exact ⟨rfl, by rw [List.mergeSort_nil]; exact Kd.R_nil _ _ _ _ _, hB, Kept.refl _ _⟩
  · refine (Any.slices_Sort_int Try.lays189 g 0 cap l0 w (holds_of hh (by omega) ht) hlt hl).mono ?_
    rintro e w' ⟨rfl, n, os, rfl⟩
    have hbut := grow_but (mapBlock_but (Sort.ahead w n) g (putCells (Value.int .i64) 0 (l0.mergeSort fun x y => decide (x ≤ y)).toArray)) os
    have hbut' : But g w (Sort.grow (putRow (Value.int .i64) (Sort.ahead w n) g 0 (l0.mergeSort fun x y => decide (x ≤ y)).toArray) os) := hbut.of_ahead
    refine ⟨rfl, ?_, hbut'.below hB hb, hbut'.kept hok⟩
    have hh' : (Sort.ahead w n).heap[g]? = some (.cells cur 3 (0, 0)) := hh
    exact make (by simp) hb (.inl hok) (grow_at os (mapBlock_at _ hh')) (by simpa using hn) hm (by simpa [putCells] using hs) (putCells_take 0 _ _ (by simp; omega))

/-- slices.Delete. -/
theorem delete_calls (P0_ : Nat → Prop) (v : Value) (l0 : List Int) (i j : Nat) (w0 w : World) (hB : Below w0.heap.size w0 w) (ho0 : Kd.R (Kd.int .i64) 3 w w0.heap.size P0_ v l0) (hij : i ≤ j) (hj : j ≤ l0.length) (hne : l0 ≠ []) :
    Calls Try.prog 79 #[v, .int .i64 i, .int .i64 j] w fun e w' => ∃ v0_ : Value, e = .returned (v0_) ∧ Kd.R (Kd.int .i64) 3 w' w0.heap.size (fun k_ => (P0_ k_ ∨ w.heap.size ≤ k_)) v0_ (l0.take i ++ l0.drop j) ∧ Below w0.heap.size w0 w' ∧ Kept w w' (fun k_ => P0_ k_) := by
  rcases form ho0 with ⟨rfl, rfl⟩ | ⟨g, cap, cur, rfl, hb, hok, hlt, hh, hn, hm, hs, ht⟩
  · exact absurd rfl hne
  · refine (Any.slices_Delete_int Try.laysNm223 g 0 cap i j l0 w (holds_of hh (by omega) ht) (by omega) hm hij hj).mono ?_
    rintro e w' ⟨rfl, n, rfl⟩
    have hbut : But g w (putRow (Value.int .i64) (Sort.ahead w n) g 0 (l0.take i ++ l0.drop j ++ List.replicate (j - i) 0).toArray) := (mapBlock_but (Sort.ahead w n) g _).of_ahead
    have hlen : (l0.take i ++ l0.drop j).length = l0.length - (j - i) := by simp; omega
    have hlen2 : (l0.take i ++ l0.drop j ++ List.replicate (j - i) 0).length = l0.length := by simp; omega
    refine ⟨_, rfl, ?_, hbut.below hB hb, hbut.kept hok⟩
    have hh' : (Sort.ahead w n).heap[g]? = some (.cells cur 3 (0, 0)) := hh
    refine make hlen.symm hb (.inl hok) (mapBlock_at _ hh') (by rw [hlen]; omega) hm (by simpa [putCells] using hs) ?_
    have h1 := putCells_take 0 (l0.take i ++ l0.drop j ++ List.replicate (j - i) 0) cur (by rw [hlen2]; omega)
    have h2 := congrArg (List.take (l0.take i ++ l0.drop j).length) h1
    rw [List.take_take, Nat.min_eq_left (by rw [hlen2, hlen]; omega)] at h2
    exact h2.trans (by rw [List.map_append]; exact List.take_left' (by simp))

/-- slices.Clone. -/
theorem clone_calls (A0 : Option Addr) (c0 : Nat) (l0 : List Int) (w : World) (hr0 : Kd.C (Kd.int .i64) w A0 l0.length l0) (hc0 : l0.length ≤ c0) (hl : l0.length < 17592186044416) :
    Calls Try.prog 50 #[.slice A0 l0.length c0] w fun e w' => ∃ v0_ : Value, e = .returned (v0_) ∧ Kd.R (Kd.int .i64) 3 w' w.heap.size (fun _ => True) v0_ l0 ∧ Below w.heap.size w w' := by
  cases A0 with
  | some ad =>
    rcases Nat.eq_zero_or_pos l0.length with h | h
    · have h0 : l0 = [] := List.length_eq_zero_iff.1 h
      subst h0
      refine (Any.slices_Clone_int_zero Try.laysNm215 ad c0 w).mono ?_
      rintro e w' ⟨v', rfl, ho, _, hb⟩
      exact ⟨v', rfl, Kd.R_of_own (enc := Value.int .i64) (h1 := fun _ => rfl) ho (fun _ _ => trivial), hb⟩
    · obtain ⟨hl1, _, h3⟩ := Kd.reads_of_C (enc := Value.int .i64) (d := (0 : Int)) (h1 := fun _ => rfl) hr0
      obtain ⟨ad', e, hc⟩ := h3 h
      cases e
      have hc0 := hc 0 h
      have hs : ad.spot = none := by
        rw [show ad.add 0 = ad by simp [Addr.add]] at hc0
        unfold World.cell? at hc0
        split at hc0
        · split at hc0
          · cases hc0
          · rename_i hh; simpa using hh
        · cases hc0
      obtain ⟨b, off, sp⟩ := ad
      simp only at hs
      subst hs
      refine (Any.slices_Clone_int Try.laysNm215 b off l0.length c0 l0 w (Nat.le_refl _) (by omega) (fun j hj => ?_)).mono ?_
      · have := hc j hj
        rw [show (⟨b, off, none⟩ : Addr).add j = ⟨b, off + j, none⟩ by unfold Addr.add; split <;> simp_all] at this
        exact this
      · rintro e w' ⟨v', rfl, ho, _, hb⟩
        rw [List.take_of_length_le (Nat.le_refl _)] at ho
        exact ⟨v', rfl, Kd.R_of_own (enc := Value.int .i64) (h1 := fun _ => rfl) ho (fun _ _ => trivial), hb⟩
  | none =>
    have h0 : l0 = [] := by
      rcases Nat.eq_zero_or_pos l0.length with h | h
      · exact List.length_eq_zero_iff.1 h
      · obtain ⟨ad, e, _⟩ := hr0.2.2 h
        cases e
    subst h0
    refine (Any.slices_Clone_int_nil Try.laysNm215 0 c0 w).mono ?_
    rintro e w' ⟨rfl, rfl⟩
    exact ⟨_, rfl, Kd.R_nil _ _ _ _ _, Below.refl _ _⟩

theorem setCells_but (w : World) (g o : Nat) (vs : List Value) : But g w (w.setCells g o vs) := by
  obtain ⟨h1, h2, h3, h4⟩ := setCells_same g vs o w
  exact ⟨h1, h2, h3, by omega, fun k _ hk => setCells_far vs o k hk⟩
theorem But.trans {g : Nat} {a b c : World} (h : But g a b) (k : But g b c) : But g a c :=
  ⟨k.os.trans h.os, k.tape.trans h.tape, k.output.trans h.output, Nat.le_trans h.size k.size, fun i hi hn => (k.block i (Nat.lt_of_lt_of_le hi h.size) hn).trans (h.block i hi hn)⟩
theorem But.drew {g : Nat} {a b : World} (h : But g a b) : But g a b.drew := ⟨h.os, h.tape, h.output, h.size, h.block⟩
theorem size_alloc_ (w : World) (o : Obj) : (w.alloc o).heap.size = w.heap.size + 1 := by unfold World.alloc; exact Array.size_push ..
theorem zc (n : Nat) : (Builtin.zeroCells (Value.int .i64 0).cells n).size = n := by rw [size_zeroCells, show (Value.int .i64 0).cells.size = 1 from rfl, Nat.mul_one]
theorem alloc_but (w : World) (o : Obj) : But w.heap.size w (w.alloc o) :=
  ⟨rfl, rfl, rfl, by have := size_alloc_ w o; omega, fun k hk _ => Below.heap_alloc w o k hk⟩
/-- What parts from w in a new block alone keeps all. -/
theorem But.below_new {w0 w w' : World} (h : But w.heap.size w w') (hB : Below w0.heap.size w0 w) : Below w0.heap.size w0 w' :=
  ⟨h.os.trans hB.os, h.tape.trans hB.tape, h.output.trans hB.output, Nat.le_trans hB.size h.size, fun k hk => (h.block k (Nat.lt_of_lt_of_le hk hB.size) (by have := hB.size; omega)).trans (hB.block k hk)⟩
theorem But.kept_new {w w' : World} {P : Nat → Prop} (h : But w.heap.size w w') : Kept w w' P :=
  ⟨h.size, fun i hi _ => h.block i hi (by omega)⟩

theorem cells_of {w : World} {g e : Nat} {cur : Array Value} {xs : List Int} (hh : w.heap[g]? = some (.cells cur e (0, 0))) (ht : cur.toList.take xs.length = xs.map (Value.int .i64)) : ∀ j v, (xs.map (Value.int .i64))[j]? = some v → w.cell? ⟨g, 0 + j, none⟩ = some v := by
  intro j v hj
  rw [Nat.zero_add, blk_cell hh j, ← Array.getElem?_toList]
  rw [← ht, List.getElem?_take] at hj
  split at hj
  · exact hj
  · cases hj
theorem one_ints (xs : List Int) : ∀ v ∈ xs.map (Value.int .i64), v.oneCell' = true := by
  intro v hv
  obtain ⟨x, _, rfl⟩ := List.mem_map.1 hv
  rfl
theorem take_app (cur : List Value) (xs ys : List Int) (h : cur.take xs.length = xs.map (Value.int .i64)) (hl : xs.length + ys.length ≤ cur.length) :
    (cur.take xs.length ++ ys.map (Value.int .i64) ++ cur.drop (xs.length + ys.length)).take (xs ++ ys).length = (xs ++ ys).map (Value.int .i64) := by
  rw [h, ← List.map_append]
  exact List.take_left' (by simp)

/-- slices.Insert of a row of its own, at least one value. -/
theorem insert_calls (P0_ P2_ : Nat → Prop) (v v2 : Value) (l0 : List Int) (i : Nat) (l2 : List Int) (w0 w : World) (hB : Below w0.heap.size w0 w) (ho0 : Kd.R (Kd.int .i64) 3 w w0.heap.size P0_ v l0)
    (hp : ∀ k_, P0_ k_ → ¬ P2_ k_) (ho2 : Kd.R (Kd.int .i64) 3 w w0.heap.size P2_ v2 l2) (hi : i ≤ l0.length) (h2 : 0 < l2.length) (hl : l0.length + l2.length < 17592186044416) :
    Calls Try.prog 78 #[v, .int .i64 i, v2] w fun e w' => ∃ v0_ : Value, e = .returned (v0_) ∧ Kd.R (Kd.int .i64) 3 w' w0.heap.size (fun k_ => ((P0_ k_ ∨ P2_ k_) ∨ w.heap.size ≤ k_)) v0_ (l0.take i ++ l2 ++ l0.drop i) ∧ Below w0.heap.size w0 w' ∧ Kept w w' (fun k_ => P0_ k_ ∨ P2_ k_) := by
  rcases form ho2 with ⟨rfl, rfl⟩ | ⟨g2, cap2, cur2, rfl, hb2, hok2, hlt2, hh2, hn2, hm2, hs2, ht2⟩
  · exact absurd h2 (by simp)
  have hbase : w0.heap.size ≤ w.heap.size := hB.size
  have hlen : (l0.take i ++ l2 ++ l0.drop i).length = l0.length + l2.length := by simp; omega
  rcases form ho0 with ⟨rfl, rfl⟩ | ⟨g, cap, cur, rfl, hb, hok, hlt, hh, hn, hm, hs, ht⟩
  · obtain rfl : i = 0 := by simpa using hi
    refine (Any2.slices_Insert_int_end_grow Try.laysNm221 none 0 0 g2 0 l2.length cap2 [] (l2.map (Value.int .i64)) w h2 (Nat.le_refl _) (by omega) (by simp at hl; omega) rfl (by simp) (fun _ => rfl) (fun a ha => by cases ha) (cells_of hh2 ht2) (one_ints _)).mono ?_
    rintro e w' ⟨rfl, rfl⟩
    have hge := grownCap_ge w (0 + l2.length) 0 (Try.laysNm221_ren.t 3)
    have hle := grownCap_le_maxLen w (0 + l2.length) 0 (Try.laysNm221_ren.t 3) (by unfold maxLen; simp at hl; omega)
    have hbut := (alloc_but w.drew (.cells ((([] : List Value) ++ l2.map (Value.int .i64)).toArray ++ Builtin.zeroCells (Value.int .i64 0).cells (grownCap w (0 + l2.length) 0 (Try.laysNm221_ren.t 3) - (0 + l2.length))) 3))
    have hbut2 : But w.heap.size w (w.drew.alloc (.cells ((([] : List Value) ++ l2.map (Value.int .i64)).toArray ++ Builtin.zeroCells (Value.int .i64 0).cells (grownCap w (0 + l2.length) 0 (Try.laysNm221_ren.t 3) - (0 + l2.length))) 3)) := ⟨hbut.os, hbut.tape, hbut.output, hbut.size, hbut.block⟩
    refine ⟨_, rfl, ?_, hbut2.below_new hB, hbut2.kept_new⟩
    refine make (by simp) hbase (.inr (Nat.le_refl _)) (blk_new w.drew _) (by rw [hlen]; simpa using hge) hle ?_ ?_
    · rw [Array.size_append, zc]; simp only [List.nil_append, List.size_toArray, List.length_map]; omega
    · simp
  · by_cases hin : i = l0.length
    · subst hin
      by_cases hroom : l0.length + l2.length ≤ cap
      · refine (Any2.slices_Insert_int_end_room Try.laysNm221 g 0 l0.length cap g2 0 l2.length cap2 (l2.map (Value.int .i64)) w h2 hroom hm (by simp) (fun j hj => ?_) (fun j _ => blk_frozen hh _) (cells_of hh2 ht2) (one_ints _)).mono ?_
        · rw [blk_cell hh]; rw [Array.getElem?_eq_getElem (by omega)]; rfl
        rintro e w' ⟨rfl, rfl⟩
        obtain ⟨cur', hh', hs', ht'⟩ := setCells_row (l2.map (Value.int .i64)) (0 + l0.length) w cur hh (by simp; omega)
        have hbut := setCells_but w g (0 + l0.length) (l2.map (Value.int .i64))
        refine ⟨_, rfl, ?_, hbut.below hB hb, hbut.kept (.inl hok)⟩
        refine make hlen.symm hb (.inl (.inl hok)) hh' (by rw [hlen]; exact hroom) hm (by omega) ?_
        rw [ht', List.take_of_length_le (Nat.le_refl _), List.drop_eq_nil_of_le (Nat.le_refl _), List.append_nil, Nat.zero_add]
        have := take_app cur.toList l0 l2 ht (by have : cur.toList.length = cur.size := Array.length_toList; omega)
        rw [List.length_map]
        exact this
      · refine (Any2.slices_Insert_int_end_grow Try.laysNm221 (some ⟨g, 0, none⟩) l0.length cap g2 0 l2.length cap2 (l0.map (Value.int .i64)) (l2.map (Value.int .i64)) w h2 hn (by omega) (by omega) (by simp) (by simp) (fun h => by cases h) (fun a ha j v hv => ?_) (cells_of hh2 ht2) (one_ints _)).mono ?_
        · cases ha
          have := cells_of hh ht j v hv
          rw [show (⟨g, 0, none⟩ : Addr).add j = ⟨g, 0 + j, none⟩ by unfold Addr.add; split <;> simp_all]
          exact this
        rintro e w' ⟨rfl, rfl⟩
        have hge := grownCap_ge w (l0.length + l2.length) cap (Try.laysNm221_ren.t 3)
        have hle := grownCap_le_maxLen w (l0.length + l2.length) cap (Try.laysNm221_ren.t 3) (by unfold maxLen; omega)
        have hbut := (alloc_but w.drew (.cells ((l0.map (Value.int .i64) ++ l2.map (Value.int .i64)).toArray ++ Builtin.zeroCells (Value.int .i64 0).cells (grownCap w (l0.length + l2.length) cap (Try.laysNm221_ren.t 3) - (l0.length + l2.length))) 3))
        have hbut2 : But w.heap.size w (w.drew.alloc (.cells ((l0.map (Value.int .i64) ++ l2.map (Value.int .i64)).toArray ++ Builtin.zeroCells (Value.int .i64 0).cells (grownCap w (l0.length + l2.length) cap (Try.laysNm221_ren.t 3) - (l0.length + l2.length))) 3)) := ⟨hbut.os, hbut.tape, hbut.output, hbut.size, hbut.block⟩
        refine ⟨_, rfl, ?_, hbut2.below_new hB, hbut2.kept_new⟩
        refine make hlen.symm hbase (.inr (Nat.le_refl _)) (blk_new w.drew _) (by rw [hlen]; exact hge) hle ?_ ?_
        · rw [Array.size_append, zc]; simp only [List.size_toArray, List.length_append, List.length_map]; omega
        · rw [hlen, Array.toList_append, List.take_of_length_le (Nat.le_refl l0.length), List.drop_eq_nil_of_le (Nat.le_refl l0.length), List.append_nil, List.map_append]
          exact List.take_left' (by simp)
    · have hlt' : i < l0.length := by omega
      by_cases hroom : l0.length + l2.length ≤ cap
      · have hne : g2 ≠ g := fun e => hp g hok (e ▸ hok2)
        refine (Any2.slices_Insert_int_shift Try.laysNm221 g 0 l0.length cap i g2 0 l2.length cap2 (l0.map (Value.int .i64)) (l2.map (Value.int .i64)) w hlt' h2 hroom hm hne (by simp) (by simp) (cells_of hh ht) (fun j hj => ?_) (fun j _ => blk_frozen hh _) (cells_of hh2 ht2) (one_ints _) (one_ints _) 3 3 cur2.size cur.size (by simp [World.shape?, hh2]) (by simp [World.shape?, hh]) (by omega) (blk_frozen hh2 _) (blk_frozen hh2 _)).mono ?_
        · rw [blk_cell hh]; rw [Array.getElem?_eq_getElem (by omega)]; rfl
        rintro e w' ⟨rfl, rfl⟩
        have hh0 : w.drew.heap[g]? = some (.cells cur 3 (0, 0)) := hh
        obtain ⟨cur1, hh1, hs1, ht1⟩ := setCells_row ((l0.map (Value.int .i64)).drop i) (0 + (i + l2.length)) w.drew cur hh0 (by simp; omega)
        obtain ⟨cur', hh', hs', ht'⟩ := setCells_row (l2.map (Value.int .i64)) (0 + i) _ cur1 hh1 (by simp; omega)
        have hb0 : But g w w.drew := ⟨rfl, rfl, rfl, Nat.le_refl _, fun _ _ _ => rfl⟩
        have hbut := (hb0.trans (setCells_but w.drew g (0 + (i + l2.length)) ((l0.map (Value.int .i64)).drop i))).trans (setCells_but _ g (0 + i) (l2.map (Value.int .i64)))
        refine ⟨_, rfl, ?_, hbut.below hB hb, hbut.kept (.inl hok)⟩
        refine make hlen.symm hb (.inl (.inl hok)) hh' (by rw [hlen]; exact hroom) hm (by omega) ?_
        have hcl : cur.toList.length = cur.size := Array.length_toList
        have e1 : cur.toList.take i = (l0.take i).map (Value.int .i64) := by
          have := congrArg (List.take i) ht
          rwa [List.take_take, Nat.min_eq_left (by omega), ← List.map_take] at this
        rw [Nat.zero_add] at ht1 ht'
        have hX : (cur.toList.take (i + l2.length)).length = i + l2.length := by rw [List.length_take]; omega
        have f1 : cur1.toList.take i = (l0.take i).map (Value.int .i64) := by
          rw [ht1, List.append_assoc, List.take_append_of_le_length (by rw [hX]; omega), List.take_take, Nat.min_eq_left (Nat.le_add_right _ _), e1]
        have f2 : cur1.toList.drop (i + l2.length) = (l0.map (Value.int .i64)).drop i ++ cur.toList.drop (i + l2.length + ((l0.map (Value.int .i64)).drop i).length) := by
          rw [ht1, List.append_assoc]
          exact List.drop_left' hX
        rw [hlen, ht', f1, List.length_map, f2, ← List.append_assoc, ← List.map_drop, ← List.map_append, ← List.map_append]
        exact List.take_left' (by rw [List.length_map, hlen])
      · refine (Any2.slices_Insert_int_grow Try.laysNm221 g 0 l0.length cap i g2 0 l2.length cap2 (l0.map (Value.int .i64)) (l2.map (Value.int .i64)) w hlt' h2 hn (by omega) (by omega) (by simp) (by simp) (cells_of hh ht) (cells_of hh2 ht2) (one_ints _) (one_ints _)).mono ?_
        rintro e w' ⟨rfl, rfl⟩
        have hge := grownCap_ge w (l0.length + l2.length) cap (Try.laysNm221_ren.t 3)
        have hle := grownCap_le_maxLen w (l0.length + l2.length) cap (Try.laysNm221_ren.t 3) (by unfold maxLen; omega)
        generalize hC : grownCap w (l0.length + l2.length) cap (Try.laysNm221_ren.t 3) = C at hge hle ⊢
        generalize hO : ((l0.map (Value.int .i64)).take i).toArray ++ Builtin.zeroCells (Value.int .i64 0).cells (l0.length + l2.length - i) ++ Builtin.zeroCells (Value.int .i64 0).cells (C - (l0.length + l2.length)) = O
        have hOs : O.size = C := by
          rw [← hO, Array.size_append, Array.size_append, zc, zc]; simp only [List.size_toArray, List.length_take, List.length_map]; omega
        have hO1 : O.toList.take i = (l0.map (Value.int .i64)).take i := by
          rw [← hO]; simp only [Array.toList_append, List.append_assoc]
          exact List.take_left' (by simp; omega)
        have hh0 : (w.alloc (.cells O 3)).drew.heap[w.heap.size]? = some (.cells O 3 (0, 0)) := blk_new w _
        obtain ⟨cur1, hh1, hs1, ht1⟩ := setCells_row (l2.map (Value.int .i64)) i _ O hh0 (by simp; omega)
        have hh1' : (((w.alloc (.cells O 3)).drew.setCells w.heap.size i (l2.map (Value.int .i64))).drew).heap[w.heap.size]? = some (.cells cur1 3 (0, 0)) := hh1
        obtain ⟨cur', hh', hs', ht'⟩ := setCells_row ((l0.map (Value.int .i64)).drop i) (i + l2.length) _ cur1 hh1' (by simp; omega)
        have hbut := (((alloc_but w (.cells O 3)).drew.trans (setCells_but _ w.heap.size i (l2.map (Value.int .i64)))).drew).trans (setCells_but _ w.heap.size (i + l2.length) ((l0.map (Value.int .i64)).drop i))
        refine ⟨_, rfl, ?_, hbut.below_new hB, hbut.kept_new⟩
        refine make hlen.symm hbase (.inr (Nat.le_refl _)) hh' (by rw [hlen]; exact hge) hle (by omega) ?_
        rw [hlen, ht', ht1, hO1]
        rw [List.take_append_of_le_length (by simp; omega)]
        rw [List.take_of_length_le (by simp; omega)]
        rw [List.take_append_of_le_length (by simp; omega), List.take_of_length_le (by simp; omega)]
        simp [List.map_take, List.map_drop]
end Go.Proofs.Ytcjgmofgfblmnaa.Hand
