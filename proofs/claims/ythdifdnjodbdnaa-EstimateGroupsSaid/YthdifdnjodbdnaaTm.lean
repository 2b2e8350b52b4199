/- sleuthlaw13.times: the definition as printed, walked by hand. -/
import Derived.Test.YthdifdnjodbdnaaMd
import Derived.Test.YthdifdnjodbdnaaPw
import Derived.Test.YthdifdnjodbdnaaRws
namespace Go.Proofs.Ythdifdnjodbdnaa.Q
open Go.RowKit Go.Proofs.YthdifdnjodbdnaaW.PrintWords Go.Proofs.YthdifdnjodbdnaaW.PrintLast Go.Proofs.YthdifdnjodbdnaaW.PrintMore
attribute [local go_sem] max2_int max_two
set_option linter.unusedVariables false
set_option linter.unusedSimpArgs false
set_option linter.unusedSimpArgs false
mutual
def sleuthlaw13_times.l0 : Nat → List Int → List Int → Int → Int → Int → List (S153) → Option (List Int × List Int)
 | 0, _, _, _, _, _, _ => none
 | k + 1, x2, x3, x4, x184000, x184001, x184002 => if x4 < (x184002.length : Int) then (if 0 ≤ x4 then (if (wrap64 (x4 + 1)) = 0 then (none) else (if (Int.tmod (wrap64 ((rd_T153 x184002 x4).f0)) (wrap64 (x4 + 1))) < x4 then (if 0 ≤ (Int.tmod (wrap64 ((rd_T153 x184002 x4).f0)) (wrap64 (x4 + 1))) then (if (Int.tmod (wrap64 ((rd_T153 x184002 x4).f0)) (wrap64 (x4 + 1))) < (x2.length : Int) then (sleuthlaw13_times.j1 k x2 x3 x4 (rd x2 (Int.tmod (wrap64 ((rd_T153 x184002 x4).f0)) (wrap64 (x4 + 1)))) x184000 x184001 x184002 ((rd_T153 x184002 x4).f0) ((rd_T153 x184002 x4).f1) ((rd_T153 x184002 x4).f2) ((rd_T153 x184002 x4).f3) ((rd_T153 x184002 x4).f4) ((rd_T153 x184002 x4).f5) ((rd_T153 x184002 x4).f6) ((rd_T153 x184002 x4).f7) ((rd_T153 x184002 x4).f8) ((rd_T153 x184002 x4).f9) ((rd_T153 x184002 x4).f10)) else (none)) else (none)) else (sleuthlaw13_times.j1 k x2 x3 x4 (wrap64 (1000 + (wrap64 (Int.tmod x184001 32)))) x184000 x184001 x184002 ((rd_T153 x184002 x4).f0) ((rd_T153 x184002 x4).f1) ((rd_T153 x184002 x4).f2) ((rd_T153 x184002 x4).f3) ((rd_T153 x184002 x4).f4) ((rd_T153 x184002 x4).f5) ((rd_T153 x184002 x4).f6) ((rd_T153 x184002 x4).f7) ((rd_T153 x184002 x4).f8) ((rd_T153 x184002 x4).f9) ((rd_T153 x184002 x4).f10)))) else (none)) else (sleuthlaw13_times.l1 k x2 x3 (wrap64 ((x184002.length : Int) - 1)) x184000 x184001 x184002)
def sleuthlaw13_times.j1 : Nat → List Int → List Int → Int → Int → Int → Int → List (S153) → Int → Int → Int → Int → Int → Int → Int → Int → Int → Int → Bool → Option (List Int × List Int)
 | 0, _, _, _, _, _, _, _, _, _, _, _, _, _, _, _, _, _, _ => none
 | k + 1, x2, x3, x4, x6, x184000, x184001, x184002, x186000, x186001, x186002, x186003, x186004, x186005, x186006, x186007, x186008, x186009, x186010 => if x4 > 0 then (sleuthlaw13_times.j2 k x2 x3 x4 (wrap64 (x6 + (wrap64 (Int.tmod x186006 32)))) x184000 x184001 x184002 x186000 x186001 x186002 x186003 x186004 x186005 x186006 x186007 x186008 x186009 x186010) else (sleuthlaw13_times.j2 k x2 x3 x4 x6 x184000 x184001 x184002 x186000 x186001 x186002 x186003 x186004 x186005 x186006 x186007 x186008 x186009 x186010)
def sleuthlaw13_times.j2 : Nat → List Int → List Int → Int → Int → Int → Int → List (S153) → Int → Int → Int → Int → Int → Int → Int → Int → Int → Int → Bool → Option (List Int × List Int)
 | 0, _, _, _, _, _, _, _, _, _, _, _, _, _, _, _, _, _, _ => none
 | k + 1, x2, x3, x4, x6, x184000, x184001, x184002, x186000, x186001, x186002, x186003, x186004, x186005, x186006, x186007, x186008, x186009, x186010 => (some (([x6] : List Int) : List Int)).bind fun y187 => (if x2.length + y187.length < 17592186044416 then ((some (([wrap64 (x6 + (wrap64 (Int.tmod x186007 32)))] : List Int) : List Int)).bind fun y193 => (if x3.length + y193.length < 17592186044416 then (sleuthlaw13_times.l0 k (x2 ++ y187) (x3 ++ y193) (wrap64 (x4 + 1)) x184000 x184001 x184002) else (none))) else (none))
def sleuthlaw13_times.l1 : Nat → List Int → List Int → Int → Int → Int → List (S153) → Option (List Int × List Int)
 | 0, _, _, _, _, _, _ => none
 | k + 1, x2, x3, x8, x184000, x184001, x184002 => if x8 > 0 then (if 0 ≤ x8 then (if x8 < (x184002.length : Int) then (if (wrap64 (x8 + 1)) = 0 then (none) else (if (Int.tmod (wrap64 ((rd_T153 x184002 x8).f0)) (wrap64 (x8 + 1))) < x8 then ((sleuthlaw13_kind.f ((rd_T153 x184002 x8).f0) ((rd_T153 x184002 x8).f1) ((rd_T153 x184002 x8).f2) ((rd_T153 x184002 x8).f3) ((rd_T153 x184002 x8).f4) ((rd_T153 x184002 x8).f5) ((rd_T153 x184002 x8).f6) ((rd_T153 x184002 x8).f7) ((rd_T153 x184002 x8).f8) ((rd_T153 x184002 x8).f9) ((rd_T153 x184002 x8).f10)).bind fun t201 => (if t201 = 3 then (if 0 ≤ (Int.tmod (wrap64 ((rd_T153 x184002 x8).f0)) (wrap64 (x8 + 1))) then (if (Int.tmod (wrap64 ((rd_T153 x184002 x8).f0)) (wrap64 (x8 + 1))) < (x184002.length : Int) then ((sleuthlaw13_kind.f ((rd_T153 x184002 (Int.tmod (wrap64 ((rd_T153 x184002 x8).f0)) (wrap64 (x8 + 1)))).f0) ((rd_T153 x184002 (Int.tmod (wrap64 ((rd_T153 x184002 x8).f0)) (wrap64 (x8 + 1)))).f1) ((rd_T153 x184002 (Int.tmod (wrap64 ((rd_T153 x184002 x8).f0)) (wrap64 (x8 + 1)))).f2) ((rd_T153 x184002 (Int.tmod (wrap64 ((rd_T153 x184002 x8).f0)) (wrap64 (x8 + 1)))).f3) ((rd_T153 x184002 (Int.tmod (wrap64 ((rd_T153 x184002 x8).f0)) (wrap64 (x8 + 1)))).f4) ((rd_T153 x184002 (Int.tmod (wrap64 ((rd_T153 x184002 x8).f0)) (wrap64 (x8 + 1)))).f5) ((rd_T153 x184002 (Int.tmod (wrap64 ((rd_T153 x184002 x8).f0)) (wrap64 (x8 + 1)))).f6) ((rd_T153 x184002 (Int.tmod (wrap64 ((rd_T153 x184002 x8).f0)) (wrap64 (x8 + 1)))).f7) ((rd_T153 x184002 (Int.tmod (wrap64 ((rd_T153 x184002 x8).f0)) (wrap64 (x8 + 1)))).f8) ((rd_T153 x184002 (Int.tmod (wrap64 ((rd_T153 x184002 x8).f0)) (wrap64 (x8 + 1)))).f9) ((rd_T153 x184002 (Int.tmod (wrap64 ((rd_T153 x184002 x8).f0)) (wrap64 (x8 + 1)))).f10)).bind fun t203 => (if t203 = 2 then (sleuthlaw13_times.j4 k x2 x3 x8 (Int.tmod (wrap64 ((rd_T153 x184002 x8).f0)) (wrap64 (x8 + 1))) (!((rd_T153 x184002 (Int.tmod (wrap64 ((rd_T153 x184002 x8).f0)) (wrap64 (x8 + 1)))).f10)) x184000 x184001 x184002) else (sleuthlaw13_times.j4 k x2 x3 x8 (Int.tmod (wrap64 ((rd_T153 x184002 x8).f0)) (wrap64 (x8 + 1))) false x184000 x184001 x184002))) else (none)) else (none)) else (sleuthlaw13_times.j4 k x2 x3 x8 (Int.tmod (wrap64 ((rd_T153 x184002 x8).f0)) (wrap64 (x8 + 1))) false x184000 x184001 x184002))) else (sleuthlaw13_times.j4 k x2 x3 x8 (Int.tmod (wrap64 ((rd_T153 x184002 x8).f0)) (wrap64 (x8 + 1))) false x184000 x184001 x184002))) else (none)) else (none)) else (some (x2, x3))
def sleuthlaw13_times.j4 : Nat → List Int → List Int → Int → Int → Bool → Int → Int → List (S153) → Option (List Int × List Int)
 | 0, _, _, _, _, _, _, _, _ => none
 | k + 1, x2, x3, x8, x9, x108, x184000, x184001, x184002 => if x108 = true then (if 0 ≤ x9 then (if x9 < (x3.length : Int) then (if 0 ≤ x8 then (if x8 < (x3.length : Int) then (sleuthlaw13_times.l1 k x2 (x3.set (x9 : Int).toNat (mx (rd x3 x9) (rd x3 x8))) (wrap64 (x8 - 1)) x184000 x184001 x184002) else (none)) else (none)) else (none)) else (none)) else (sleuthlaw13_times.l1 k x2 x3 (wrap64 (x8 - 1)) x184000 x184001 x184002)
end
def sleuthlaw13_times.f (k : Nat) (a0_0 : Int) (a0_1 : Int) (l0_2 : List (S153)) : Option (List Int × List Int) := sleuthlaw13_times.l0 k ([] : List Int) ([] : List Int) 0 a0_0 a0_1 l0_2
theorem sleuthlaw13_times.mono_l : ∀ k, (∀ y0 y1 y2 y3 y4 y5, LeO (sleuthlaw13_times.l0 k y0 y1 y2 y3 y4 y5) (sleuthlaw13_times.l0 (k + 1) y0 y1 y2 y3 y4 y5)) ∧ (∀ y0 y1 y2 y3 y4 y5 y6 y7 y8 y9 y10 y11 y12 y13 y14 y15 y16 y17, LeO (sleuthlaw13_times.j1 k y0 y1 y2 y3 y4 y5 y6 y7 y8 y9 y10 y11 y12 y13 y14 y15 y16 y17) (sleuthlaw13_times.j1 (k + 1) y0 y1 y2 y3 y4 y5 y6 y7 y8 y9 y10 y11 y12 y13 y14 y15 y16 y17)) ∧ (∀ y0 y1 y2 y3 y4 y5 y6 y7 y8 y9 y10 y11 y12 y13 y14 y15 y16 y17, LeO (sleuthlaw13_times.j2 k y0 y1 y2 y3 y4 y5 y6 y7 y8 y9 y10 y11 y12 y13 y14 y15 y16 y17) (sleuthlaw13_times.j2 (k + 1) y0 y1 y2 y3 y4 y5 y6 y7 y8 y9 y10 y11 y12 y13 y14 y15 y16 y17)) ∧ (∀ y0 y1 y2 y3 y4 y5, LeO (sleuthlaw13_times.l1 k y0 y1 y2 y3 y4 y5) (sleuthlaw13_times.l1 (k + 1) y0 y1 y2 y3 y4 y5)) ∧ (∀ y0 y1 y2 y3 y4 y5 y6 y7, LeO (sleuthlaw13_times.j4 k y0 y1 y2 y3 y4 y5 y6 y7) (sleuthlaw13_times.j4 (k + 1) y0 y1 y2 y3 y4 y5 y6 y7))
 | 0 => ⟨fun _ _ _ _ _ _ r h => by simp [sleuthlaw13_times.l0] at h, fun _ _ _ _ _ _ _ _ _ _ _ _ _ _ _ _ _ _ r h => by simp [sleuthlaw13_times.j1] at h, fun _ _ _ _ _ _ _ _ _ _ _ _ _ _ _ _ _ _ r h => by simp [sleuthlaw13_times.j2] at h, fun _ _ _ _ _ _ r h => by simp [sleuthlaw13_times.l1] at h, fun _ _ _ _ _ _ _ _ r h => by simp [sleuthlaw13_times.j4] at h⟩
 | k + 1 => by
  obtain ⟨ih0, ih1, ih2, ih3, ih4⟩ := sleuthlaw13_times.mono_l k
  refine ⟨?_, ?_, ?_, ?_, ?_⟩
  ·intro y0 y1 y2 y3 y4 y5
   unfold sleuthlaw13_times.l0
   repeat' first
   | (with_reducible exact ih0 _ _ _ _ _ _)
   | (with_reducible exact ih1 _ _ _ _ _ _ _ _ _ _ _ _ _ _ _ _ _ _)
   | (with_reducible exact ih2 _ _ _ _ _ _ _ _ _ _ _ _ _ _ _ _ _ _)
   | (with_reducible exact ih3 _ _ _ _ _ _)
   | (with_reducible exact ih4 _ _ _ _ _ _ _ _)
   | (with_reducible exact LeO.refl _)
   | (with_reducible exact LeO.none _)
   | (with_reducible refine LeO.ite ?_ ?_)
   | (with_reducible refine LeO.bind ?_ (fun _ => ?_))
   | exact ih0 _ _ _ _ _ _
   | exact ih1 _ _ _ _ _ _ _ _ _ _ _ _ _ _ _ _ _ _
   | exact ih2 _ _ _ _ _ _ _ _ _ _ _ _ _ _ _ _ _ _
   | exact ih3 _ _ _ _ _ _
   | exact ih4 _ _ _ _ _ _ _ _
   | exact LeO.none _
   | refine LeO.ite ?_ ?_
   | refine LeO.bind ?_ (fun _ => ?_)
  ·intro y0 y1 y2 y3 y4 y5 y6 y7 y8 y9 y10 y11 y12 y13 y14 y15 y16 y17
   unfold sleuthlaw13_times.j1
   repeat' first
   | (with_reducible exact ih0 _ _ _ _ _ _)
   | (with_reducible exact ih1 _ _ _ _ _ _ _ _ _ _ _ _ _ _ _ _ _ _)
   | (with_reducible exact ih2 _ _ _ _ _ _ _ _ _ _ _ _ _ _ _ _ _ _)
   | (with_reducible exact ih3 _ _ _ _ _ _)
   | (with_reducible exact ih4 _ _ _ _ _ _ _ _)
   | (with_reducible exact LeO.refl _)
   | (with_reducible exact LeO.none _)
   | (with_reducible refine LeO.ite ?_ ?_)
   | (with_reducible refine LeO.bind ?_ (fun _ => ?_))
   | exact ih0 _ _ _ _ _ _
   | exact ih1 _ _ _ _ _ _ _ _ _ _ _ _ _ _ _ _ _ _
   | exact ih2 _ _ _ _ _ _ _ _ _ _ _ _ _ _ _ _ _ _
   | exact ih3 _ _ _ _ _ _
   | exact ih4 _ _ _ _ _ _ _ _
   | exact LeO.none _
   | refine LeO.ite ?_ ?_
   | refine LeO.bind ?_ (fun _ => ?_)
  ·intro y0 y1 y2 y3 y4 y5 y6 y7 y8 y9 y10 y11 y12 y13 y14 y15 y16 y17
   unfold sleuthlaw13_times.j2
   repeat' first
   | (with_reducible exact ih0 _ _ _ _ _ _)
   | (with_reducible exact ih1 _ _ _ _ _ _ _ _ _ _ _ _ _ _ _ _ _ _)
   | (with_reducible exact ih2 _ _ _ _ _ _ _ _ _ _ _ _ _ _ _ _ _ _)
   | (with_reducible exact ih3 _ _ _ _ _ _)
   | (with_reducible exact ih4 _ _ _ _ _ _ _ _)
   | (with_reducible exact LeO.refl _)
   | (with_reducible exact LeO.none _)
   | (with_reducible refine LeO.ite ?_ ?_)
   | (with_reducible refine LeO.bind ?_ (fun _ => ?_))
   | exact ih0 _ _ _ _ _ _
   | exact ih1 _ _ _ _ _ _ _ _ _ _ _ _ _ _ _ _ _ _
   | exact ih2 _ _ _ _ _ _ _ _ _ _ _ _ _ _ _ _ _ _
   | exact ih3 _ _ _ _ _ _
   | exact ih4 _ _ _ _ _ _ _ _
   | exact LeO.none _
   | refine LeO.ite ?_ ?_
   | refine LeO.bind ?_ (fun _ => ?_)
  ·intro y0 y1 y2 y3 y4 y5
   unfold sleuthlaw13_times.l1
   repeat' first
   | (with_reducible exact ih0 _ _ _ _ _ _)
   | (with_reducible exact ih1 _ _ _ _ _ _ _ _ _ _ _ _ _ _ _ _ _ _)
   | (with_reducible exact ih2 _ _ _ _ _ _ _ _ _ _ _ _ _ _ _ _ _ _)
   | (with_reducible exact ih3 _ _ _ _ _ _)
   | (with_reducible exact ih4 _ _ _ _ _ _ _ _)
   | (with_reducible exact LeO.refl _)
   | (with_reducible exact LeO.none _)
   | (with_reducible refine LeO.ite ?_ ?_)
   | (with_reducible refine LeO.bind ?_ (fun _ => ?_))
   | exact ih0 _ _ _ _ _ _
   | exact ih1 _ _ _ _ _ _ _ _ _ _ _ _ _ _ _ _ _ _
   | exact ih2 _ _ _ _ _ _ _ _ _ _ _ _ _ _ _ _ _ _
   | exact ih3 _ _ _ _ _ _
   | exact ih4 _ _ _ _ _ _ _ _
   | exact LeO.none _
   | refine LeO.ite ?_ ?_
   | refine LeO.bind ?_ (fun _ => ?_)
  ·intro y0 y1 y2 y3 y4 y5 y6 y7
   unfold sleuthlaw13_times.j4
   repeat' first
   | (with_reducible exact ih0 _ _ _ _ _ _)
   | (with_reducible exact ih1 _ _ _ _ _ _ _ _ _ _ _ _ _ _ _ _ _ _)
   | (with_reducible exact ih2 _ _ _ _ _ _ _ _ _ _ _ _ _ _ _ _ _ _)
   | (with_reducible exact ih3 _ _ _ _ _ _)
   | (with_reducible exact ih4 _ _ _ _ _ _ _ _)
   | (with_reducible exact LeO.refl _)
   | (with_reducible exact LeO.none _)
   | (with_reducible refine LeO.ite ?_ ?_)
   | (with_reducible refine LeO.bind ?_ (fun _ => ?_))
   | exact ih0 _ _ _ _ _ _
   | exact ih1 _ _ _ _ _ _ _ _ _ _ _ _ _ _ _ _ _ _
   | exact ih2 _ _ _ _ _ _ _ _ _ _ _ _ _ _ _ _ _ _
   | exact ih3 _ _ _ _ _ _
   | exact ih4 _ _ _ _ _ _ _ _
   | exact LeO.none _
   | refine LeO.ite ?_ ?_
   | refine LeO.bind ?_ (fun _ => ?_)
theorem sleuthlaw13_times.mono : ∀ a0 a1 a2 k, LeO (sleuthlaw13_times.f k a0 a1 a2) (sleuthlaw13_times.f (k + 1) a0 a1 a2) := by
 intro a0 a1 a2 k
 obtain ⟨ih0, ih1, ih2, ih3, ih4⟩ := sleuthlaw13_times.mono_l k
 unfold sleuthlaw13_times.f
 repeat' first
   | (with_reducible exact ih0 _ _ _ _ _ _)
   | (with_reducible exact ih1 _ _ _ _ _ _ _ _ _ _ _ _ _ _ _ _ _ _)
   | (with_reducible exact ih2 _ _ _ _ _ _ _ _ _ _ _ _ _ _ _ _ _ _)
   | (with_reducible exact ih3 _ _ _ _ _ _)
   | (with_reducible exact ih4 _ _ _ _ _ _ _ _)
   | (with_reducible exact LeO.refl _)
   | (with_reducible exact LeO.none _)
   | (with_reducible refine LeO.ite ?_ ?_)
   | (with_reducible refine LeO.bind ?_ (fun _ => ?_))
   | exact ih0 _ _ _ _ _ _
   | exact ih1 _ _ _ _ _ _ _ _ _ _ _ _ _ _ _ _ _ _
   | exact ih2 _ _ _ _ _ _ _ _ _ _ _ _ _ _ _ _ _ _
   | exact ih3 _ _ _ _ _ _
   | exact ih4 _ _ _ _ _ _ _ _
   | exact LeO.none _
   | refine LeO.ite ?_ ?_
   | refine LeO.bind ?_ (fun _ => ?_)
def sleuthlaw13_times.T11 : Bool × List (List Nat × List Nat) := (true, [([], []), ([], []), ([1], [1]), ([0, 2], [0, 2]), ([], []), ([], []), ([], []), ([6], [6]), ([7], [7]), ([8], [8]), ([5, 9], [5, 9]), ([10], [10]), ([4, 11, 3], [4, 11]), ([3, 12, 0, 1, 2, 3], [0, 3]), ([12, 13, 0, 1, 2, 3, 4, 5, 6, 7, 8, 9, 10, 11, 12, 13], [4, 12])])
def sleuthlaw13_times.B11 : List Nat := [0, 0, 2, 7, 0, 0, 0, 64, 192, 448, 992, 2016, 4095, 8191, 16383]
theorem sleuthlaw13_times.tab11 : rtab .any (opsOf Try.f68 11) = sleuthlaw13_times.T11 := by kernel_rfl
theorem sleuthlaw13_times.bits11 : waitsOk sleuthlaw13_times.T11.2 sleuthlaw13_times.B11 = true := by kernel_rfl
def sleuthlaw13_times.T17 : Bool × List (List Nat × List Nat) := (true, [([], []), ([], []), ([], []), ([], []), ([2, 3], [2, 3]), ([4], [4]), ([], []), ([], []), ([6, 7], [6, 7]), ([8], [8]), ([5, 9], [5, 9]), ([0, 1, 0, 1, 2, 3, 4, 5, 6, 7, 8, 9, 10], [0, 1]), ([11, 10, 0, 1, 2, 3, 4, 5, 6, 7, 8, 9, 10], [10, 11])])
def sleuthlaw13_times.B17 : List Nat := [0, 0, 0, 0, 12, 28, 0, 0, 192, 448, 1020, 2047, 4095]
theorem sleuthlaw13_times.tab17 : rtab .any (opsOf Try.f68 17) = sleuthlaw13_times.T17 := by kernel_rfl
theorem sleuthlaw13_times.bits17 : waitsOk sleuthlaw13_times.T17.2 sleuthlaw13_times.B17 = true := by kernel_rfl
/-- A world of times'. -/
structure TmS (wb : World) (u2 : Value) (x2 : List Int) (u3 : Value) (x3 : List Int) (W : World) : Prop where
  b : Below wb.heap.size wb W
  r : Rws W wb.heap.size [(u2, x2), (u3, x3)]
section
variable {wb : World} {a0 a1 : Int} {A : Option Addr} {c0 : Nat} {u2 : Value} {x2 : List Int} {u3 : Value} {x3 : List Int} {W : World}
theorem TmS.move {W' : World} (h : TmS wb u2 x2 u3 x3 W) (hb : Below W.heap.size W W') : TmS wb u2 x2 u3 x3 W' := ⟨below_step h.b hb, h.r.below hb⟩
theorem tm_cells {g n : Nat} (h : W.heap[g]? = some (.cells #[.int .u8 a0, .int .u8 a1, .slice A n c0] 104 (0, 0))) : W.cell? ⟨g, 0, none⟩ = some (.int .u8 a0) ∧ W.cell? ⟨g, 1, none⟩ = some (.int .u8 a1) ∧ W.cell? ⟨g, 2, none⟩ = some (.slice A n c0) := ⟨(blk_cell h 0).trans rfl, (blk_cell h 1).trans rfl, (blk_cell h 2).trans rfl⟩
theorem TmS.row2 (h : TmS wb u2 x2 u3 x3 W) : (Kd.int .i64).R 3 W wb.heap.size (fun k => some k ≠ u3.ownBlock) u2 x2 := h.r.out 0 rfl (fun k hk => hk 1 _ rfl (by decide))
theorem TmS.row3 (h : TmS wb u2 x2 u3 x3 W) : (Kd.int .i64).R 3 W wb.heap.size (fun k => some k ≠ u2.ownBlock) u3 x3 := h.r.out 1 rfl (fun k hk => hk 0 _ rfl (by decide))
end
abbrev tmM (b2 b3 b11 b12 : Bool) : Array Bool := #[true, true, b2, b3, true, true, true, true, true, true, true, b11, b12, false, false]
def tJ1 (k : Nat) (x2 x3 : List Int) (i x6 a0 a1 : Int) (l : List S153) (c : S153) : Option (List Int × List Int) := sleuthlaw13_times.j1 k x2 x3 i x6 a0 a1 l c.f0 c.f1 c.f2 c.f3 c.f4 c.f5 c.f6 c.f7 c.f8 c.f9 c.f10
def tJ2 (k : Nat) (x2 x3 : List Int) (i x6 a0 a1 : Int) (l : List S153) (c : S153) : Option (List Int × List Int) := sleuthlaw13_times.j2 k x2 x3 i x6 a0 a1 l c.f0 c.f1 c.f2 c.f3 c.f4 c.f5 c.f6 c.f7 c.f8 c.f9 c.f10
set_option maxHeartbeats 8000000 in
set_option maxRecDepth 100000 in
theorem sleuthlaw13_times.calls (k : Nat) (a0 : Int) (a1 : Int) (A : Option Addr) (c0 : Nat) (l : List S153) (r1 r2 : List Int) (w : World) (hr : Kd.C k153 w A l.length l) (hc : l.length ≤ c0) (h : sleuthlaw13_times.f k a0 a1 l = some (r1, r2)) :
    Calls Try.prog 68 #[.agg #[.int .u8 a0, .int .u8 a1, .slice A l.length c0]] w fun e w' => ∃ v0_ v1_ : Value, e = .returned (.tuple #[v0_, v1_]) ∧ Kd.R (Kd.int .i64) 3 w' w.heap.size (fun k_ => some k_ ≠ (v1_ : Value).ownBlock) v0_ r1 ∧ Kd.R (Kd.int .i64) 3 w' w.heap.size (fun k_ => some k_ ≠ (v0_ : Value).ownBlock) v1_ r2 ∧ Below w.heap.size w w' := by
  have hu104 := Try.underlying104
  have hu153 := Try.underlying153
  have HR := Aside0.mk hr
  have H0 : Aside0 (sleuthlaw13_times.l0 k [] [] 0 a0 a1 l = some (r1, r2)) := ⟨h⟩
  clear hr hc h
  go_enter Try.func68, Try.ntmps68
  go_upto_region 0 with (fail)
  go_cut [1, 2, 3] (fun v1 v2 v3 we => v1 = .pointer (some ⟨w.heap.size, 0, none⟩) ∧ v2 = .slice none 0 0 ∧ v3 = .slice none 0 0 ∧ Aside0 (Below w.heap.size w we) ∧ Aside0 (we.heap[w.heap.size]? = some (.cells #[.int .u8 a0, .int .u8 a1, .slice A l.length c0] 104 (0, 0))))
  case first =>
    go_wp2
    go_meet
    case rel => exact ⟨rfl, rfl, rfl, ⟨below_alloc (Below.refl _ _) _⟩, ⟨blk_new _ _⟩⟩
  case rest =>
    obtain ⟨rfl, rfl, rfl, HW, HX⟩ := hcut
    obtain ⟨wb, rfl⟩ : ∃ x : World, x = wc := ⟨_, rfl⟩
    replace HR := Aside0.mk (Kd.C_below HR.out HW.out)
    go_wp2
    go_loopg [2, 3, 4] k (fun kq v2 v3 v4 wr => ∃ (x2 x3 : List Int) (i : Int), v4 = .int .i64 i ∧ Aside0 (sleuthlaw13_times.l0 kq x2 x3 i a0 a1 l = some (r1, r2)) ∧ Aside0 (TmS wb v2 x2 v3 x3 wr))
    case atStart => exact ⟨[], [], 0, rfl, H0, ⟨⟨Below.refl _ _, Rws.nil_ (Rws.nil_ Rws.empty)⟩⟩⟩
    case round =>
      clear H0
      obtain ⟨x2, x3, i, rfl, HH, HS⟩ := hrel
      cases gk with
      | zero => exact absurd HH.out (by simp [sleuthlaw13_times.l0])
      | succ gk =>
      have H := HH.out
      clear HH
      simp only [sleuthlaw13_times.l0] at H
      obtain ⟨b0, b1, b2⟩ := tm_cells (blk_below HX.out HS.out.b)
      by_cases hi : i < (l.length : Int)
      · rw [if_pos hi] at H
        by_cases h0 : 0 ≤ i
        rotate_left
        · rw [if_neg h0] at H; cases H
        rw [if_pos h0] at H
        by_cases hz : wrap64 (i + 1) = 0
        · rw [if_pos hz] at H; cases H
        rw [if_neg hz] at H
        obtain ⟨ae, rfl, e0, e1, e2, e3, e4, e5, e6, e7, e8, e9, e10⟩ := at_T153 (Kd.C_below HR.out HS.out.b) i h0 hi
        obtain ⟨c, hc⟩ : ∃ c, rd_T153 l i = c := ⟨_, rfl⟩
        rw [hc] at H e0 e1 e2 e3 e4 e5 e6 e7 e8 e9 e10
        have HN := Aside0.mk H
        have hib := decide_eq_true hi
        have d0 := eq_true h0
        have d1 := eq_true hi
        clear H hi h0 hc
        go_upto_region 4 with (fail)
        go_cut [5] (fun v5 we => ∃ g : Nat, v5 = .pointer (some ⟨g, 0, none⟩) ∧ Aside0 (u2.ownBlock ≠ some g ∧ u3.ownBlock ≠ some g) ∧ Aside0 (TmS wb u2 x2 u3 x3 we) ∧ Aside0 (we.heap[g]? = some (.cells (clCells c) 153 (0, 0))))
        case first =>
          go_wp2
          go_meet
          case rel => exact ⟨_, rfl, ⟨fun e => Nat.lt_irrefl _ (Kd.R_lt HS.out.row2 _ e), fun e => Nat.lt_irrefl _ (Kd.R_lt HS.out.row3 _ e)⟩, ⟨HS.out.move (below_alloc (Below.refl _ _) _)⟩, ⟨blk_new _ _⟩⟩
        case rest =>
          obtain ⟨g, rfl, HNE, HS1, HG⟩ := hcut
          clear HS b0 b1 b2 e0 e1 e2 e3 e4 e5 e6 e7 e8 e9 e10
          obtain ⟨b0, b1, b2⟩ := tm_cells (blk_below HX.out HS1.out.b)
          obtain ⟨e0, e1, e2, e3, e4, e5, e6, e7, e8, e9, e10⟩ := cl_cells HG.out
          go_upto_if 35 with (fail)
          go_cut [6] (fun v6 we => ∃ x6 : Int, v6 = .int .i64 x6 ∧ Aside0 (tJ1 gk x2 x3 i x6 a0 a1 l c = some (r1, r2)) ∧ Aside0 (TmS wb u2 x2 u3 x3 we) ∧ Aside0 (we.heap[g]? = some (.cells (clCells c) 153 (0, 0))))
          case first =>
            have H := HN.out
            clear HN
            by_cases hp : Int.tmod (wrap64 c.f0) (wrap64 (i + 1)) < i
            · rw [if_pos hp] at H
              by_cases hp0 : 0 ≤ Int.tmod (wrap64 c.f0) (wrap64 (i + 1))
              rotate_left
              · rw [if_neg hp0] at H; cases H
              rw [if_pos hp0] at H
              by_cases hp1 : Int.tmod (wrap64 c.f0) (wrap64 (i + 1)) < (x2.length : Int)
              rotate_left
              · rw [if_neg hp1] at H; cases H
              rw [if_pos hp1] at H
              obtain ⟨A2, c2, hu⟩ := Kd.R_slice HS1.out.row2
              subst hu
              obtain ⟨ad2, rfl, hx⟩ := Kd.at_int (Kd.R_reads' HS1.out.row2).2.2 _ hp0 hp1
              have HN := Aside0.mk H
              have hpb := decide_eq_true hp
              rw [hpb]
              replace hp0 := eq_true hp0
              replace hp1 := eq_true hp1
              clear H hp
              go_wp2
              go_meet
              case rel => exact ⟨_, rfl, HN, HS1, HG⟩
            · rw [if_neg hp] at H
              have HN := Aside0.mk H
              have hpb := decide_eq_false hp
              rw [hpb]
              clear H hp
              go_wp2
              go_meet
              case rel => exact ⟨_, rfl, HN, HS1, HG⟩
          case rest =>
            obtain ⟨x6, rfl, HJ, HS2, HG2⟩ := hcut
            clear hz HN HS1 HG b0 b1 b2 e0 e1 e2 e3 e4 e5 e6 e7 e8 e9 e10
            cases gk with
            | zero => exact absurd HJ.out (by simp [tJ1, sleuthlaw13_times.j1])
            | succ gk =>
            obtain ⟨e0, e1, e2, e3, e4, e5, e6, e7, e8, e9, e10⟩ := cl_cells HG2.out
            go_upto_if 41 with (fail)
            go_cut [6] (fun v6 we => ∃ x6 : Int, v6 = .int .i64 x6 ∧ Aside0 (tJ2 gk x2 x3 i x6 a0 a1 l c = some (r1, r2)) ∧ Aside0 (TmS wb u2 x2 u3 x3 we) ∧ Aside0 (we.heap[g]? = some (.cells (clCells c) 153 (0, 0))))
            case first =>
              have H := HJ.out
              clear HJ
              simp only [tJ1, sleuthlaw13_times.j1] at H
              by_cases hp : 0 < i
              · rw [if_pos hp] at H
                have HN := Aside0.mk H
                have hpb := decide_eq_true hp
                rw [hpb]
                clear H hp
                go_wp2
                go_meet
                case rel => exact ⟨_, rfl, HN, HS2, HG2⟩
              · rw [if_neg hp] at H
                have HN := Aside0.mk H
                have hpb := decide_eq_false hp
                rw [hpb]
                clear H hp
                go_wp2
                go_meet
                case rel => exact ⟨_, rfl, HN, HS2, HG2⟩
            case rest =>
              clear HJ HS2 HG2 e0 e1 e2 e3 e4 e5 e6 e7 e8 e9 e10
              obtain ⟨x6, rfl, HJ, HS3, HG3⟩ := hcut
              cases gk with
              | zero => exact absurd HJ.out (by simp [tJ2, sleuthlaw13_times.j2])
              | succ gk =>
              have H := HJ.out
              clear HJ
              simp only [tJ2, sleuthlaw13_times.j2, Option.bind_some] at H
              split at H
              case isFalse => cases H
              rename_i hm2
              split at H
              case isFalse => cases H
              rename_i hm3
              have HM2 := Aside0.mk hm2
              have HM3 := Aside0.mk hm3
              have HN := Aside0.mk H
              clear hm2 hm3 H
              obtain ⟨x7, hx7⟩ : ∃ x7, wrap64 (x6 + wrap64 (Int.tmod c.f7 32)) = x7 := ⟨_, rfl⟩
              rw [hx7] at HM3 HN
              have b7 : wc.cell? ⟨g, 7, none⟩ = some (.int .u8 c.f7) := (blk_cell HG3.out 7).trans rfl
              go_wp2
              refine start_ (n := 15) (S := fun w' => w'.cell? ⟨g, 7, none⟩ = some (.int .u8 c.f7)) (ds := []) #[false, false, false, false, false, false, false, false, false, false, false, false, false, false, false] (by kernel_rfl) rfl rfl b7 (fun hHeld => ?_)
              refine with_tabW sleuthlaw13_times.tab11 sleuthlaw13_times.bits11 (fun HT_ HW_ => ?_)
              have HS4 := Aside0.mk (HS3.out.move (below_drew1 (Below.refl _ _)))
              have HG4 := Aside0.mk (blk_drew HG3.out)
              clear HS3 HG3 b7
              generalize wc.drew = W at HS4 HG4 hHeld ⊢
              refine pC_ 0 48 HT_ ?_
              refine pC_ 1 49 HT_ ?_
              refine pC_ 4 52 HT_ ?_
              refine pC_ 5 53 HT_ ?_
              refine pC_ 6 54 HT_ ?_
              refine tC_ 7 55 HT_ HW_ hHeld ?_
              refine pC_ 8 56 HT_ ?_
              refine pC_ 9 57 HT_ ?_
              refine pC_ 10 58 HT_ ?_
              rw [hx7]
              have HR4 : Aside0 (Rws W wb.heap.size [(.slice none 0 0, []), (.slice none 0 0, []), (u2, x2), (u3, x3)]) := ⟨Rws.nil_ (Rws.nil_ HS4.out.r)⟩
              have HB4 := Aside0.mk HS4.out.b
              have hgl : g < W.heap.size := blk_lt HG4.out
              clear HS4
              -- behind the two literals and the first append
              refine join_ (σ := Value × Value × Value) 3 (tmM true true true false) (fun s_ => [(50, s_.1), (51, s_.2.1), (59, s_.2.2)]) (fun s_ w' => w'.cell? ⟨g, 7, none⟩ = some (.int .u8 c.f7) ∧ Aside0 (Rws w' wb.heap.size [(.slice none 0 0, []), (s_.2.2, [x7]), (s_.2.1, x2 ++ [x6]), (u3, x3)]) ∧ Aside0 (Below wb.heap.size wb w') ∧ Aside0 (w'.heap[g]? = some (.cells (clCells c) 153 (0, 0)))) ?_ ?_
              rotate_left
              · intro hJ
                refine two_ (i := 2) (j := 11) (Ni := some 50) (Nj := some 59) (tmM true false false false) (tmM false false true false) rfl rfl rfl rfl (two_of HT_.out (by kernel_rfl)) (by decide) (by decide) (fun K hK => ?_) (fun K hK => ?_)
                · refine ltK_ HR4 HB4 0 50 (xs := [x6]) ⟨rfl⟩ rfl (fun a w5 HR5 HB5 hk5 => ?_)
                  have HG5 := Aside0.mk ((hk5 g hgl).trans HG4.out)
                  refine hK.out _ _ ((blk_cell HG5.out 7).trans rfl) (fun hHeld => nm_ ?_)
                  have hgl := blk_lt HG5.out
                  refine two_ (i := 3) (j := 11) (Ni := some 51) (Nj := some 59) (tmM true true false false) (tmM true false true false) rfl rfl rfl rfl (two_of HT_.out (by kernel_rfl)) (by decide) (by decide) (fun K hK => ?_) (fun K hK => ?_)
                  · refine apK_ (.tmp 48) (.tmp 50) 0 2 51 HR5 HB5 ⟨rfl⟩ rfl rfl rfl rfl rfl HM2.out (fun b w6 HR6 HB6 hk6 => ?_)
                    have HG6 := Aside0.mk ((hk6 g hgl HNE.out.1).trans HG5.out)
                    refine hK.out _ _ ((blk_cell HG6.out 7).trans rfl) (fun hHeld => nm_ ?_)
                    have hgl := blk_lt HG6.out
                    refine one_ (i := 11) (N := some 59) (tmM true true true false) rfl rfl (one_of HT_.out (by kernel_rfl)) (by decide) (fun K hK => ?_)
                    refine ltK_ HR6 HB6 1 59 (xs := [x7]) ⟨rfl⟩ rfl (fun d w7 HR7 HB7 hk7 => ?_)
                    have HG7 := Aside0.mk ((hk7 g hgl).trans HG6.out)
                    exact hK.out _ _ ((blk_cell HG7.out 7).trans rfl) (fun hHeld => nm_ (hJ (a, b, d) _ ⟨hHeld, HR7, HB7, HG7⟩))
                  · refine ltK_ HR5 HB5 1 59 (xs := [x7]) ⟨rfl⟩ rfl (fun d w6 HR6 HB6 hk6 => ?_)
                    have HG6 := Aside0.mk ((hk6 g hgl).trans HG5.out)
                    refine hK.out _ _ ((blk_cell HG6.out 7).trans rfl) (fun hHeld => nm_ ?_)
                    have hgl := blk_lt HG6.out
                    refine one_ (i := 3) (N := some 51) (tmM true true true false) rfl rfl (one_of HT_.out (by kernel_rfl)) (by decide) (fun K hK => ?_)
                    refine apK_ (.tmp 48) (.tmp 50) 0 2 51 HR6 HB6 ⟨rfl⟩ rfl rfl rfl rfl rfl HM2.out (fun b w7 HR7 HB7 hk7 => ?_)
                    have HG7 := Aside0.mk ((hk7 g hgl HNE.out.1).trans HG6.out)
                    exact hK.out _ _ ((blk_cell HG7.out 7).trans rfl) (fun hHeld => nm_ (hJ (a, b, d) _ ⟨hHeld, HR7, HB7, HG7⟩))
                · refine ltK_ HR4 HB4 1 59 (xs := [x7]) ⟨rfl⟩ rfl (fun d w5 HR5 HB5 hk5 => ?_)
                  have HG5 := Aside0.mk ((hk5 g hgl).trans HG4.out)
                  refine hK.out _ _ ((blk_cell HG5.out 7).trans rfl) (fun hHeld => nm_ ?_)
                  have hgl := blk_lt HG5.out
                  refine one_ (i := 2) (N := some 50) (tmM true false true false) rfl rfl (one_of HT_.out (by kernel_rfl)) (by decide) (fun K hK => ?_)
                  refine ltK_ HR5 HB5 0 50 (xs := [x6]) ⟨rfl⟩ rfl (fun a w6 HR6 HB6 hk6 => ?_)
                  have HG6 := Aside0.mk ((hk6 g hgl).trans HG5.out)
                  refine hK.out _ _ ((blk_cell HG6.out 7).trans rfl) (fun hHeld => nm_ ?_)
                  have hgl := blk_lt HG6.out
                  refine one_ (i := 3) (N := some 51) (tmM true true true false) rfl rfl (one_of HT_.out (by kernel_rfl)) (by decide) (fun K hK => ?_)
                  refine apK_ (.tmp 48) (.tmp 50) 0 2 51 HR6 HB6 ⟨rfl⟩ rfl rfl rfl rfl rfl HM2.out (fun b w7 HR7 HB7 hk7 => ?_)
                  have HG7 := Aside0.mk ((hk7 g hgl HNE.out.1).trans HG6.out)
                  exact hK.out _ _ ((blk_cell HG7.out 7).trans rfl) (fun hHeld => nm_ (hJ (a, b, d) _ ⟨hHeld, HR7, HB7, HG7⟩))
              clear HR4 HB4 HG4 hgl hHeld
              rintro ⟨a, b, d⟩ W2 ⟨hHeld, HR5, HB5, HG5⟩
              refine nm_ ?_
              have hgl := blk_lt HG5.out
              refine one_ (i := 12) (N := some 60) (tmM true true true true) rfl rfl (one_of HT_.out (by kernel_rfl)) (by decide) (fun K hK => ?_)
              refine apK_ (.tmp 52) (.tmp 59) 1 3 60 HR5 HB5 ⟨rfl⟩ rfl rfl rfl rfl rfl HM3.out (fun q w6 HR6 HB6 hk6 => ?_)
              refine hK.out _ _ ((blk_cell ((hk6 g hgl HNE.out.2).trans HG5.out) 7).trans rfl) (fun hHeld => nm_ ?_)
              refine pC_ 13 2 HT_ ?_
              refine pC_ 14 3 HT_ ?_
              refine done_ (done_of HT_.out (by kernel_rfl)) ?_
              (try go_wp2)
              go_roundg gk
              case measure => omega
              case rel => exact ⟨x2 ++ [x6], x3 ++ [x7], wrap64 (i + 1), rfl, HN, ⟨⟨HB6.out, HR6.out.drop2⟩⟩⟩
      · rw [if_neg hi] at H
        have hib := decide_eq_false hi
        have H1 := Aside0.mk H
        clear H hi
        go_wp2
        go_loopg [8] gk (fun kq v8 wr => ∃ (x3 : List Int) (i : Int), v8 = .int .i64 i ∧ Aside0 (sleuthlaw13_times.l1 kq x2 x3 i a0 a1 l = some (r1, r2)) ∧ Aside0 (TmS wb u2 x2 u3 x3 wr))
        case atStart => exact ⟨x3, _, rfl, H1, HS⟩
        case round =>
          clear H1 HS b0 b1 b2 hib
          obtain ⟨x3, i, rfl, HH, HS⟩ := hrel
          cases gk with
          | zero => exact absurd HH.out (by simp [sleuthlaw13_times.l1])
          | succ gk =>
          have H := HH.out
          clear HH
          simp only [sleuthlaw13_times.l1] at H
          obtain ⟨b0, b1, b2⟩ := tm_cells (blk_below HX.out HS.out.b)
          by_cases hi : i > 0
          rotate_left
          · rw [if_neg hi] at H
            have hib : decide (0 < i) = false := decide_eq_false hi
            simp only [Option.some.injEq, Prod.mk.injEq] at H
            obtain ⟨rfl, rfl⟩ := H
            clear hi
            go_wp2
            go_ret2
            exact ⟨_, _, rfl, Kd.R_lower HS.out.row2 (below_size HW.out), Kd.R_lower HS.out.row3 (below_size HW.out), below_step HW.out HS.out.b⟩
          rw [if_pos hi] at H
          have hib : decide (0 < i) = true := decide_eq_true hi
          by_cases h0 : 0 ≤ i
          rotate_left
          · rw [if_neg h0] at H; cases H
          rw [if_pos h0] at H
          by_cases h1 : i < (l.length : Int)
          rotate_left
          · rw [if_neg h1] at H; cases H
          rw [if_pos h1] at H
          by_cases hz : wrap64 (i + 1) = 0
          · rw [if_pos hz] at H; cases H
          rw [if_neg hz] at H
          obtain ⟨ae, rfl, e0, e1, e2, e3, e4, e5, e6, e7, e8, e9, e10⟩ := at_T153 (Kd.C_below HR.out HS.out.b) i h0 h1
          obtain ⟨c, hc⟩ : ∃ c, rd_T153 l i = c := ⟨_, rfl⟩
          rw [hc] at H e0 e1 e2 e3 e4 e5 e6 e7 e8 e9 e10
          have HN := Aside0.mk H
          have d0 := eq_true h0
          have d1 := eq_true h1
          clear H hi h0 h1 hc
          go_upto_region 16 with (fail)
          go_cut [108] (fun v108 we => ∃ b : Bool, v108 = .bool b ∧ Aside0 (sleuthlaw13_times.j4 gk x2 x3 i (Int.tmod (wrap64 c.f0) (wrap64 (i + 1))) b a0 a1 l = some (r1, r2)) ∧ Aside0 (TmS wb u2 x2 u3 x3 we))
          case first =>
            have H := HN.out
            clear HN hz
            by_cases hp : Int.tmod (wrap64 c.f0) (wrap64 (i + 1)) < i
            rotate_left
            · rw [if_neg hp] at H
              have hpb := decide_eq_false hp
              have HN := Aside0.mk H
              clear H hp
              go_wp2
              go_meet
              case rel => exact ⟨_, rfl, HN, HS⟩
            rw [if_pos hp] at H
            obtain ⟨t, ht, H⟩ := Option.bind_eq_some_iff.1 H
            have HK := Aside0.mk ht
            have hpb := decide_eq_true hp
            clear ht hp
            by_cases h3 : t = 3
            rotate_left
            · rw [if_neg h3] at H
              have h3b : (t == 3) = false := beq_eq_false_iff_ne.mpr h3
              have HN := Aside0.mk H
              clear H h3
              go_wp2_with (go_at_call 83; (with_reducible refine (sleuthlaw13_kind.calls _ _ _ _ _ _ _ _ _ _ _ t _ HK.out).mono ?_); rintro e w' ⟨rfl, hb⟩; have HS1 := Aside0.mk (HS.out.move hb); clear hb)
              go_meet
              case rel => exact ⟨_, rfl, HN, HS1⟩
            rw [if_pos h3] at H
            have h3b : (t == 3) = true := beq_iff_eq.mpr h3
            clear h3
            by_cases hp0 : 0 ≤ Int.tmod (wrap64 c.f0) (wrap64 (i + 1))
            rotate_left
            · rw [if_neg hp0] at H; cases H
            rw [if_pos hp0] at H
            by_cases hp1 : Int.tmod (wrap64 c.f0) (wrap64 (i + 1)) < (l.length : Int)
            rotate_left
            · rw [if_neg hp1] at H; cases H
            rw [if_pos hp1] at H
            obtain ⟨t2, ht2, H⟩ := Option.bind_eq_some_iff.1 H
            have HP0 := Aside0.mk hp0
            have HP1 := Aside0.mk hp1
            obtain ⟨c2, hc2⟩ : ∃ c2, rd_T153 l (Int.tmod (wrap64 c.f0) (wrap64 (i + 1))) = c2 := ⟨_, rfl⟩
            rw [hc2] at H ht2
            have HC2 := Aside0.mk hc2
            have HK2 := Aside0.mk ht2
            replace hp0 := eq_true hp0
            replace hp1 := eq_true hp1
            clear hc2 ht2
            by_cases h2 : t2 = 2
            · rw [if_pos h2] at H
              have h2b : (t2 == 2) = true := beq_iff_eq.mpr h2
              have HN := Aside0.mk H
              clear H h2
              go_wp2_with (first
                | (go_at_call 83; (with_reducible refine (sleuthlaw13_kind.calls c.f0 c.f1 c.f2 c.f3 c.f4 c.f5 c.f6 c.f7 c.f8 c.f9 c.f10 t _ HK.out).mono ?_); rintro e w' ⟨rfl, hb⟩; have HS1 := Aside0.mk (HS.out.move hb); clear hb; obtain ⟨b0, b1, b2⟩ := tm_cells (blk_below HX.out HS1.out.b); obtain ⟨ae', he_, q0, q1, q2, q3, q4, q5, q6, q7, q8, q9, q10⟩ := at_T153 (Kd.C_below HR.out HS1.out.b) _ HP0.out HP1.out; cases he_; rw [HC2.out] at q0 q1 q2 q3 q4 q5 q6 q7 q8 q9 q10)
                | (go_at_call 83; (with_reducible refine (sleuthlaw13_kind.calls c2.f0 c2.f1 c2.f2 c2.f3 c2.f4 c2.f5 c2.f6 c2.f7 c2.f8 c2.f9 c2.f10 t2 _ HK2.out).mono ?_); rintro e w' ⟨rfl, hb⟩; have HS2 := Aside0.mk (HS1.out.move hb); clear hb; obtain ⟨b0, b1, b2⟩ := tm_cells (blk_below HX.out HS2.out.b); obtain ⟨ae', he_, q0, q1, q2, q3, q4, q5, q6, q7, q8, q9, q10⟩ := at_T153 (Kd.C_below HR.out HS2.out.b) _ HP0.out HP1.out; cases he_; rw [HC2.out] at q0 q1 q2 q3 q4 q5 q6 q7 q8 q9 q10))
              go_meet
              case rel => exact ⟨_, rfl, HN, HS2⟩
            · rw [if_neg h2] at H
              have h2b : (t2 == 2) = false := beq_eq_false_iff_ne.mpr h2
              have HN := Aside0.mk H
              clear H h2
              go_wp2_with (first
                | (go_at_call 83; (with_reducible refine (sleuthlaw13_kind.calls c.f0 c.f1 c.f2 c.f3 c.f4 c.f5 c.f6 c.f7 c.f8 c.f9 c.f10 t _ HK.out).mono ?_); rintro e w' ⟨rfl, hb⟩; have HS1 := Aside0.mk (HS.out.move hb); clear hb; obtain ⟨b0, b1, b2⟩ := tm_cells (blk_below HX.out HS1.out.b); obtain ⟨ae', he_, q0, q1, q2, q3, q4, q5, q6, q7, q8, q9, q10⟩ := at_T153 (Kd.C_below HR.out HS1.out.b) _ HP0.out HP1.out; cases he_; rw [HC2.out] at q0 q1 q2 q3 q4 q5 q6 q7 q8 q9 q10)
                | (go_at_call 83; (with_reducible refine (sleuthlaw13_kind.calls c2.f0 c2.f1 c2.f2 c2.f3 c2.f4 c2.f5 c2.f6 c2.f7 c2.f8 c2.f9 c2.f10 t2 _ HK2.out).mono ?_); rintro e w' ⟨rfl, hb⟩; have HS2 := Aside0.mk (HS1.out.move hb); clear hb))
              go_meet
              case rel => exact ⟨_, rfl, HN, HS2⟩
          case rest =>
            obtain ⟨b, rfl, HJ, HS2⟩ := hcut
            clear HN HS b0 b1 b2 e0 e1 e2 e3 e4 e5 e6 e7 e8 e9 e10
            cases gk with
            | zero => exact absurd HJ.out (by simp [sleuthlaw13_times.j4])
            | succ gk =>
            have H := HJ.out
            clear HJ hz
            simp only [sleuthlaw13_times.j4] at H
            obtain ⟨P, hP⟩ : ∃ P, Int.tmod (wrap64 c.f0) (wrap64 (i + 1)) = P := ⟨_, rfl⟩
            rw [hP] at H ⊢
            cases b with
            | false =>
              rw [if_neg (by decide)] at H
              have HN := Aside0.mk H
              clear H
              go_wp2
              go_roundg gk
              case measure => omega
              case rel => exact ⟨x3, _, rfl, HN, HS2⟩
            | true =>
              rw [if_pos rfl] at H
              by_cases hp0 : 0 ≤ P
              rotate_left
              · rw [if_neg hp0] at H; cases H
              rw [if_pos hp0] at H
              by_cases hp1 : P < (x3.length : Int)
              rotate_left
              · rw [if_neg hp1] at H; cases H
              rw [if_pos hp1] at H
              by_cases hi0 : 0 ≤ i
              rotate_left
              · rw [if_neg hi0] at H; cases H
              rw [if_pos hi0] at H
              by_cases hi1 : i < (x3.length : Int)
              rotate_left
              · rw [if_neg hi1] at H; cases H
              rw [if_pos hi1] at H
              have HN := Aside0.mk H
              clear H
              obtain ⟨go, co, hu, hgb, hgl, _⟩ := Kd.R_form HS2.out.row3 (by omega)
              subst hu
              obtain ⟨x0, f0⟩ := Kd.R_celln 0 HS2.out.row3 P hp0 hp1
              obtain ⟨x1, _⟩ := Kd.R_celln 0 HS2.out.row3 i hi0 hi1
              replace hp0 := eq_true hp0
              replace hp1 := eq_true hp1
              replace hi0 := eq_true hi0
              replace hi1 := eq_true hi1
              go_wp2
              refine start_ (n := 13) (S := fun w' => w'.cell? ⟨go, P.toNat, none⟩ = some (.int .i64 (rd x3 P)) ∧ w'.cell? ⟨go, i.toNat, none⟩ = some (.int .i64 (rd x3 i))) (ds := [12]) #[false, false, false, false, false, false, false, false, false, false, false, false, false] (by kernel_rfl) rfl rfl ⟨x0, x1⟩ (fun hHeld => ?_)
              refine with_tabW sleuthlaw13_times.tab17 sleuthlaw13_times.bits17 (fun HT_ HW_ => ?_)
              obtain ⟨m, hm⟩ : ∃ m, mx (rd x3 P) (rd x3 i) = m := ⟨_, rfl⟩
              have hm_ : (if rd x3 P < rd x3 i then rd x3 i else rd x3 P) = m := hm
              rw [hm] at HN
              have HS3 := Aside0.mk (HS2.out.move (below_drew1 (Below.refl _ _)))
              clear HS2 x0 x1
              generalize wc.drew = W at HS3 hHeld ⊢
              have f0 : W.frozen? ⟨go, P.toNat, none⟩ = false := (Kd.R_celln 0 HS3.out.row3 P (of_eq_true hp0) (of_eq_true hp1)).2
              have x0 := hHeld.1
              refine pC_ 0 109 HT_ ?_
              refine pC_ 1 110 HT_ ?_
              refine pC_ 2 111 HT_ ?_
              refine pC_ 3 112 HT_ ?_
              refine pC_ 4 113 HT_ ?_
              refine pC_ 6 115 HT_ ?_
              refine pC_ 7 116 HT_ ?_
              refine pC_ 8 117 HT_ ?_
              refine tC_ 5 114 HT_ HW_ hHeld ?_
              refine tC_ 9 118 HT_ HW_ hHeld ?_
              refine pC_ 10 119 HT_ ?_
              refine pC_ 11 120 HT_ ?_
              refine last_ (i := 12) (N := none) #[true, true, true, true, true, true, true, true, true, true, true, true, true] rfl rfl (one_of HT_.out (by kernel_rfl)) (by decide) (fun K hK => ?_)
              refine skip_ (w1 := ?_) (by rfl) rfl ?_ ?_
              rotate_left
              · go_simp
                rfl
              refine hK.out _ _ ?_
              refine done_ (done_of HT_.out (by kernel_rfl)) ?_
              (try go_wp2)
              go_roundg gk
              case measure => omega
              case rel =>
                refine ⟨x3.set P.toNat m, _, rfl, HN, ⟨⟨below_set HS3.out.b hgb, ?_⟩⟩⟩
                refine Rws.cons (Kd.R_far (p := ⟨go, P.toNat, none⟩) (Kd.R_mono HS3.out.row2 (fun k hk => (⟨hk, fun e => hk (by rw [e]; rfl)⟩ : _ ∧ k ≠ go))) (fun _ hk => hk.2) (.int .i64 m)) ?_ (Rws.cons (ok := fun _ => True) (Kd.R_mono (Kd.R_putn HS3.out.row3 P m) (fun _ _ => trivial)) (fun _ _ q hq => by cases hq) Rws.empty)
                intro k hk q hq
                obtain rfl := List.mem_singleton.1 hq
                exact hk.1
end Go.Proofs.Ythdifdnjodbdnaa.Q
