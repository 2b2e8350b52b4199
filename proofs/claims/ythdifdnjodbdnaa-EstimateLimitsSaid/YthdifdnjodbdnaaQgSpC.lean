-- Laid by myprint.py (a program of this session's, over the kit's printer and with functions proved by hand)
import Derived.Test.YthdifdnjodbdnaaTy
import Derived.Test.YthdifdnjodbdnaaGs
import Derived.Test.YthdifdnjodbdnaaQgAtt
namespace Go.Proofs.Ythdifdnjodbdnaa.Q
open Go.RowKit Go.Proofs.YthdifdnjodbdnaaW.PrintWords Go.Proofs.YthdifdnjodbdnaaW.PrintLast Go.Proofs.YthdifdnjodbdnaaW.PrintMore
attribute [local go_sem] max2_int min2_int max_two min_two max_three min_three max_four min_four   -- for this text's walks alone
set_option linter.unusedVariables false
set_option linter.unusedSimpArgs false

attribute [local go_sem high] Str.binOp_string_gtr' Str.binOp_string_leq'
abbrev T3127 : Bool := true
abbrev F3127 : Bool := false
theorem qgspc_0 {p : Prop} (h : p := by repeat (first | (with_reducible first | exact HB.out | apply below_alloc | apply pw_below_drewN | apply below_drew1 | refine below_set ?_ GE203.out) | exact HB.out)) : p := h
theorem qgspc_1 {p : Prop} (h : p := by (with_reducible repeat (first | refine blk_drewN ?_ _ | refine blk_drew ?_ | refine blk_alloc ?_ _)); exact BK203.out) : p := h
theorem qgspc_2 {p : Prop} (h : p := by (try simp only [List.map_toArray, List.map_cons, List.map_nil]); first | done | rfl | (simp only [List.length_drop, List.length_take]; rfl)) : p := h
theorem qgspc_3 {p : Prop} (h : p := by first | rfl | (simp; done) | (simp [*]; done)) : p := h
theorem qgspc_4 {p : Prop} (h : p := by first | rfl | (simp [errW_none, errW_some] <;> rfl) | (simp [*, errW_none, errW_some] <;> rfl)) : p := h
theorem qgspc_5 {p : Prop} (h : p := by repeat (first | (with_reducible first | exact HB.out | apply below_alloc | apply pw_below_drewN | apply below_drew1) | exact HB.out)) : p := h
theorem qgspc_6 {p : Prop} (h : p := by first | omega | exact Nat.le_refl _) : p := h
theorem qgspc_7 {p : Prop} (h : p := by have := HJ1.out; have := HJ21.out; first | omega | exact Nat.le_refl _) : p := h
/-! ### span_Check: function 32 -/
mutual
def span_Check.j0 : Nat → Bool → Int → Int → Int → Int → Int → Int → ByteArray → ByteArray → ByteArray → Int → Int → Bool → List (S141) → List (S146) → Option (Int)
 | 0, _, _, _, _, _, _, _, _, _, _, _, _, _, _, _ => none
 | k + 1, x3, x204000, x204001, x204002, x204003, x204004, x204005, x204006, x204007, x204008, x204009, x204010, x204011, x204012, x204013 => if x3 = true then (some 2) else (if x204005 < 1 then (span_Check.j1 k true x204000 x204001 x204002 x204003 x204004 x204005 x204006 x204007 x204008 x204009 x204010 x204011 x204012 x204013) else (span_Check.j1 k (decide (x204005 > 5)) x204000 x204001 x204002 x204003 x204004 x204005 x204006 x204007 x204008 x204009 x204010 x204011 x204012 x204013))
def span_Check.j1 : Nat → Bool → Int → Int → Int → Int → Int → Int → ByteArray → ByteArray → ByteArray → Int → Int → Bool → List (S141) → List (S146) → Option (Int)
 | 0, _, _, _, _, _, _, _, _, _, _, _, _, _, _, _ => none
 | k + 1, x42, x204000, x204001, x204002, x204003, x204004, x204005, x204006, x204007, x204008, x204009, x204010, x204011, x204012, x204013 => if x42 = true then (some 12) else ((attribute_IsName.f k x204006).bind fun t206 => (if t206 = true then ((attribute_IsName.f k x204008).bind fun t207 => (if t207 = true then (if x204007.toList = ([] : List UInt8) then (span_Check.j2 k false x204000 x204001 x204002 x204003 x204004 x204005 x204006 x204007 x204008 x204009 x204010 x204011 x204012 x204013) else ((attribute_IsName.f k x204007).bind fun t208 => (span_Check.j2 k (!t208) x204000 x204001 x204002 x204003 x204004 x204005 x204006 x204007 x204008 x204009 x204010 x204011 x204012 x204013))) else (span_Check.j2 k true x204000 x204001 x204002 x204003 x204004 x204005 x204006 x204007 x204008 x204009 x204010 x204011 x204012 x204013))) else (span_Check.j2 k true x204000 x204001 x204002 x204003 x204004 x204005 x204006 x204007 x204008 x204009 x204010 x204011 x204012 x204013)))
def span_Check.j2 : Nat → Bool → Int → Int → Int → Int → Int → Int → ByteArray → ByteArray → ByteArray → Int → Int → Bool → List (S141) → List (S146) → Option (Int)
 | 0, _, _, _, _, _, _, _, _, _, _, _, _, _, _, _ => none
 | k + 1, x51, x204000, x204001, x204002, x204003, x204004, x204005, x204006, x204007, x204008, x204009, x204010, x204011, x204012, x204013 => if x51 = true then (some 11) else (if (mn x204009 x204010) < (-1099511627776) then (span_Check.j3 k true x204000 x204001 x204002 x204003 x204004 x204005 x204006 x204007 x204008 x204009 x204010 x204011 x204012 x204013) else (span_Check.j3 k (decide ((mx x204009 x204010) > 1099511627776)) x204000 x204001 x204002 x204003 x204004 x204005 x204006 x204007 x204008 x204009 x204010 x204011 x204012 x204013))
def span_Check.j3 : Nat → Bool → Int → Int → Int → Int → Int → Int → ByteArray → ByteArray → ByteArray → Int → Int → Bool → List (S141) → List (S146) → Option (Int)
 | 0, _, _, _, _, _, _, _, _, _, _, _, _, _, _, _ => none
 | k + 1, x73, x204000, x204001, x204002, x204003, x204004, x204005, x204006, x204007, x204008, x204009, x204010, x204011, x204012, x204013 => if x73 = true then (some 32) else (if x204010 < x204009 then (some 8) else (if (wrap64 (x204010 - x204009)) > 1099511627776 then (some 32) else ((attribute_CheckAttrs.f k x204012).bind fun t209 => ((span_checkLinks.f k x204013).bind fun t210 => ((api_Errno.f k (([t209, t210] : List Int))).bind fun t214 => (some t214))))))
end
def span_Check.f (k : Nat) (a0_0 : Int) (a0_1 : Int) (a0_2 : Int) (a0_3 : Int) (a0_4 : Int) (a0_5 : Int) (a0_6 : ByteArray) (a0_7 : ByteArray) (a0_8 : ByteArray) (a0_9 : Int) (a0_10 : Int) (a0_11 : Bool) (l0_12 : List (S141)) (l0_13 : List (S146)) : Option (Int) := (span_badId.f a0_0).bind fun t204 => (if t204 = true then (span_Check.j0 k true a0_0 a0_1 a0_2 a0_3 a0_4 a0_5 a0_6 a0_7 a0_8 a0_9 a0_10 a0_11 l0_12 l0_13) else ((span_badId.f a0_1).bind fun t205 => (if t205 = true then (span_Check.j0 k true a0_0 a0_1 a0_2 a0_3 a0_4 a0_5 a0_6 a0_7 a0_8 a0_9 a0_10 a0_11 l0_12 l0_13) else (if a0_2 < 0 then (span_Check.j0 k true a0_0 a0_1 a0_2 a0_3 a0_4 a0_5 a0_6 a0_7 a0_8 a0_9 a0_10 a0_11 l0_12 l0_13) else (if a0_2 > 1099511627776 then (span_Check.j0 k true a0_0 a0_1 a0_2 a0_3 a0_4 a0_5 a0_6 a0_7 a0_8 a0_9 a0_10 a0_11 l0_12 l0_13) else (if a0_3 < 0 then (span_Check.j0 k true a0_0 a0_1 a0_2 a0_3 a0_4 a0_5 a0_6 a0_7 a0_8 a0_9 a0_10 a0_11 l0_12 l0_13) else (if a0_3 > 1048576 then (span_Check.j0 k true a0_0 a0_1 a0_2 a0_3 a0_4 a0_5 a0_6 a0_7 a0_8 a0_9 a0_10 a0_11 l0_12 l0_13) else (if a0_4 < 1 then (span_Check.j0 k true a0_0 a0_1 a0_2 a0_3 a0_4 a0_5 a0_6 a0_7 a0_8 a0_9 a0_10 a0_11 l0_12 l0_13) else (span_Check.j0 k (decide (a0_4 > 1048576)) a0_0 a0_1 a0_2 a0_3 a0_4 a0_5 a0_6 a0_7 a0_8 a0_9 a0_10 a0_11 l0_12 l0_13)))))))))
theorem span_Check.mono_l : ∀ k, (∀ y0 y1 y2 y3 y4 y5 y6 y7 y8 y9 y10 y11 y12 y13 y14, LeO (span_Check.j0 k y0 y1 y2 y3 y4 y5 y6 y7 y8 y9 y10 y11 y12 y13 y14) (span_Check.j0 (k + 1) y0 y1 y2 y3 y4 y5 y6 y7 y8 y9 y10 y11 y12 y13 y14)) ∧ (∀ y0 y1 y2 y3 y4 y5 y6 y7 y8 y9 y10 y11 y12 y13 y14, LeO (span_Check.j1 k y0 y1 y2 y3 y4 y5 y6 y7 y8 y9 y10 y11 y12 y13 y14) (span_Check.j1 (k + 1) y0 y1 y2 y3 y4 y5 y6 y7 y8 y9 y10 y11 y12 y13 y14)) ∧ (∀ y0 y1 y2 y3 y4 y5 y6 y7 y8 y9 y10 y11 y12 y13 y14, LeO (span_Check.j2 k y0 y1 y2 y3 y4 y5 y6 y7 y8 y9 y10 y11 y12 y13 y14) (span_Check.j2 (k + 1) y0 y1 y2 y3 y4 y5 y6 y7 y8 y9 y10 y11 y12 y13 y14)) ∧ (∀ y0 y1 y2 y3 y4 y5 y6 y7 y8 y9 y10 y11 y12 y13 y14, LeO (span_Check.j3 k y0 y1 y2 y3 y4 y5 y6 y7 y8 y9 y10 y11 y12 y13 y14) (span_Check.j3 (k + 1) y0 y1 y2 y3 y4 y5 y6 y7 y8 y9 y10 y11 y12 y13 y14))
 | 0 => ⟨fun _ _ _ _ _ _ _ _ _ _ _ _ _ _ _ r h => by simp [span_Check.j0] at h, fun _ _ _ _ _ _ _ _ _ _ _ _ _ _ _ r h => by simp [span_Check.j1] at h, fun _ _ _ _ _ _ _ _ _ _ _ _ _ _ _ r h => by simp [span_Check.j2] at h, fun _ _ _ _ _ _ _ _ _ _ _ _ _ _ _ r h => by simp [span_Check.j3] at h⟩
 | k + 1 => by
  obtain ⟨ih0, ih1, ih2, ih3⟩ := span_Check.mono_l k
  refine ⟨?_, ?_, ?_, ?_⟩
  ·intro y0 y1 y2 y3 y4 y5 y6 y7 y8 y9 y10 y11 y12 y13 y14
   unfold span_Check.j0
   repeat' first
   | (with_reducible exact ih0 _ _ _ _ _ _ _ _ _ _ _ _ _ _ _)
   | (with_reducible exact ih1 _ _ _ _ _ _ _ _ _ _ _ _ _ _ _)
   | (with_reducible exact ih2 _ _ _ _ _ _ _ _ _ _ _ _ _ _ _)
   | (with_reducible exact ih3 _ _ _ _ _ _ _ _ _ _ _ _ _ _ _)
   | (with_reducible exact api_Errno.mono _ _)
   | (with_reducible exact attribute_CheckAttrs.mono _ _)
   | (with_reducible exact attribute_IsName.mono _ _)
   | (with_reducible exact span_checkLinks.mono _ _)
   | (with_reducible exact LeO.refl _)
   | (with_reducible exact LeO.none _)
   | (with_reducible refine LeO.ite ?_ ?_)
   | (with_reducible refine LeO.bind ?_ (fun _ => ?_))
   | exact ih0 _ _ _ _ _ _ _ _ _ _ _ _ _ _ _
   | exact ih1 _ _ _ _ _ _ _ _ _ _ _ _ _ _ _
   | exact ih2 _ _ _ _ _ _ _ _ _ _ _ _ _ _ _
   | exact ih3 _ _ _ _ _ _ _ _ _ _ _ _ _ _ _
   | exact api_Errno.mono _ _
   | exact attribute_CheckAttrs.mono _ _
   | exact attribute_IsName.mono _ _
   | exact span_checkLinks.mono _ _
   | exact LeO.none _
   | refine LeO.ite ?_ ?_
   | refine LeO.bind ?_ (fun _ => ?_)
  ·intro y0 y1 y2 y3 y4 y5 y6 y7 y8 y9 y10 y11 y12 y13 y14
   unfold span_Check.j1
   repeat' first
   | (with_reducible exact ih0 _ _ _ _ _ _ _ _ _ _ _ _ _ _ _)
   | (with_reducible exact ih1 _ _ _ _ _ _ _ _ _ _ _ _ _ _ _)
   | (with_reducible exact ih2 _ _ _ _ _ _ _ _ _ _ _ _ _ _ _)
   | (with_reducible exact ih3 _ _ _ _ _ _ _ _ _ _ _ _ _ _ _)
   | (with_reducible exact api_Errno.mono _ _)
   | (with_reducible exact attribute_CheckAttrs.mono _ _)
   | (with_reducible exact attribute_IsName.mono _ _)
   | (with_reducible exact span_checkLinks.mono _ _)
   | (with_reducible exact LeO.refl _)
   | (with_reducible exact LeO.none _)
   | (with_reducible refine LeO.ite ?_ ?_)
   | (with_reducible refine LeO.bind ?_ (fun _ => ?_))
   | exact ih0 _ _ _ _ _ _ _ _ _ _ _ _ _ _ _
   | exact ih1 _ _ _ _ _ _ _ _ _ _ _ _ _ _ _
   | exact ih2 _ _ _ _ _ _ _ _ _ _ _ _ _ _ _
   | exact ih3 _ _ _ _ _ _ _ _ _ _ _ _ _ _ _
   | exact api_Errno.mono _ _
   | exact attribute_CheckAttrs.mono _ _
   | exact attribute_IsName.mono _ _
   | exact span_checkLinks.mono _ _
   | exact LeO.none _
   | refine LeO.ite ?_ ?_
   | refine LeO.bind ?_ (fun _ => ?_)
  ·intro y0 y1 y2 y3 y4 y5 y6 y7 y8 y9 y10 y11 y12 y13 y14
   unfold span_Check.j2
   repeat' first
   | (with_reducible exact ih0 _ _ _ _ _ _ _ _ _ _ _ _ _ _ _)
   | (with_reducible exact ih1 _ _ _ _ _ _ _ _ _ _ _ _ _ _ _)
   | (with_reducible exact ih2 _ _ _ _ _ _ _ _ _ _ _ _ _ _ _)
   | (with_reducible exact ih3 _ _ _ _ _ _ _ _ _ _ _ _ _ _ _)
   | (with_reducible exact api_Errno.mono _ _)
   | (with_reducible exact attribute_CheckAttrs.mono _ _)
   | (with_reducible exact attribute_IsName.mono _ _)
   | (with_reducible exact span_checkLinks.mono _ _)
   | (with_reducible exact LeO.refl _)
   | (with_reducible exact LeO.none _)
   | (with_reducible refine LeO.ite ?_ ?_)
   | (with_reducible refine LeO.bind ?_ (fun _ => ?_))
   | exact ih0 _ _ _ _ _ _ _ _ _ _ _ _ _ _ _
   | exact ih1 _ _ _ _ _ _ _ _ _ _ _ _ _ _ _
   | exact ih2 _ _ _ _ _ _ _ _ _ _ _ _ _ _ _
   | exact ih3 _ _ _ _ _ _ _ _ _ _ _ _ _ _ _
   | exact api_Errno.mono _ _
   | exact attribute_CheckAttrs.mono _ _
   | exact attribute_IsName.mono _ _
   | exact span_checkLinks.mono _ _
   | exact LeO.none _
   | refine LeO.ite ?_ ?_
   | refine LeO.bind ?_ (fun _ => ?_)
  ·intro y0 y1 y2 y3 y4 y5 y6 y7 y8 y9 y10 y11 y12 y13 y14
   unfold span_Check.j3
   repeat' first
   | (with_reducible exact ih0 _ _ _ _ _ _ _ _ _ _ _ _ _ _ _)
   | (with_reducible exact ih1 _ _ _ _ _ _ _ _ _ _ _ _ _ _ _)
   | (with_reducible exact ih2 _ _ _ _ _ _ _ _ _ _ _ _ _ _ _)
   | (with_reducible exact ih3 _ _ _ _ _ _ _ _ _ _ _ _ _ _ _)
   | (with_reducible exact api_Errno.mono _ _)
   | (with_reducible exact attribute_CheckAttrs.mono _ _)
   | (with_reducible exact attribute_IsName.mono _ _)
   | (with_reducible exact span_checkLinks.mono _ _)
   | (with_reducible exact LeO.refl _)
   | (with_reducible exact LeO.none _)
   | (with_reducible refine LeO.ite ?_ ?_)
   | (with_reducible refine LeO.bind ?_ (fun _ => ?_))
   | exact ih0 _ _ _ _ _ _ _ _ _ _ _ _ _ _ _
   | exact ih1 _ _ _ _ _ _ _ _ _ _ _ _ _ _ _
   | exact ih2 _ _ _ _ _ _ _ _ _ _ _ _ _ _ _
   | exact ih3 _ _ _ _ _ _ _ _ _ _ _ _ _ _ _
   | exact api_Errno.mono _ _
   | exact attribute_CheckAttrs.mono _ _
   | exact attribute_IsName.mono _ _
   | exact span_checkLinks.mono _ _
   | exact LeO.none _
   | refine LeO.ite ?_ ?_
   | refine LeO.bind ?_ (fun _ => ?_)
theorem span_Check.mono : ∀ a0 a1 a2 a3 a4 a5 a6 a7 a8 a9 a10 a11 a12 a13 k, LeO (span_Check.f k a0 a1 a2 a3 a4 a5 a6 a7 a8 a9 a10 a11 a12 a13) (span_Check.f (k + 1) a0 a1 a2 a3 a4 a5 a6 a7 a8 a9 a10 a11 a12 a13) := by
 intro a0 a1 a2 a3 a4 a5 a6 a7 a8 a9 a10 a11 a12 a13 k
 obtain ⟨ih0, ih1, ih2, ih3⟩ := span_Check.mono_l k
 unfold span_Check.f
 repeat' first
   | (with_reducible exact ih0 _ _ _ _ _ _ _ _ _ _ _ _ _ _ _)
   | (with_reducible exact ih1 _ _ _ _ _ _ _ _ _ _ _ _ _ _ _)
   | (with_reducible exact ih2 _ _ _ _ _ _ _ _ _ _ _ _ _ _ _)
   | (with_reducible exact ih3 _ _ _ _ _ _ _ _ _ _ _ _ _ _ _)
   | (with_reducible exact api_Errno.mono _ _)
   | (with_reducible exact attribute_CheckAttrs.mono _ _)
   | (with_reducible exact attribute_IsName.mono _ _)
   | (with_reducible exact span_checkLinks.mono _ _)
   | (with_reducible exact LeO.refl _)
   | (with_reducible exact LeO.none _)
   | (with_reducible refine LeO.ite ?_ ?_)
   | (with_reducible refine LeO.bind ?_ (fun _ => ?_))
   | exact ih0 _ _ _ _ _ _ _ _ _ _ _ _ _ _ _
   | exact ih1 _ _ _ _ _ _ _ _ _ _ _ _ _ _ _
   | exact ih2 _ _ _ _ _ _ _ _ _ _ _ _ _ _ _
   | exact ih3 _ _ _ _ _ _ _ _ _ _ _ _ _ _ _
   | exact api_Errno.mono _ _
   | exact attribute_CheckAttrs.mono _ _
   | exact attribute_IsName.mono _ _
   | exact span_checkLinks.mono _ _
   | exact LeO.none _
   | refine LeO.ite ?_ ?_
   | refine LeO.bind ?_ (fun _ => ?_)
def span_Check.T13 : Bool × List (List Nat × List Nat) := (true, [([], []), ([0], [0]), ([1], [1]), ([], []), ([3], [3]), ([4, 2], [4]), ([2, 5], [2, 5]), ([6, 5], [6]), ([7, 7, 0, 1, 2, 3, 4, 5, 6, 7], [7])])
def span_Check.B13 : List Nat := [0, 1, 3, 0, 8, 31, 63, 127, 255]
theorem span_Check.tab13 : rtab .any (opsOf Try.f32 13) = span_Check.T13 := by kernel_rfl
theorem span_Check.bits13 : waitsOk span_Check.T13.2 span_Check.B13 = true := by kernel_rfl
set_option maxHeartbeats 8000000 in
set_option maxRecDepth 100000 in
theorem span_Check.calls (k : Nat) (a0_0 : Int) (a0_1 : Int) (a0_2 : Int) (a0_3 : Int) (a0_4 : Int) (a0_5 : Int) (a0_6 : ByteArray) (a0_7 : ByteArray) (a0_8 : ByteArray) (a0_9 : Int) (a0_10 : Int) (a0_11 : Bool) (A0_12 : Option Addr) (c0_12 : Nat) (l0_12 : List (S141)) (A0_13 : Option Addr) (c0_13 : Nat) (l0_13 : List (S146)) (r : Int) (w : World) (hr0_12 : Kd.C k141 w A0_12 l0_12.length l0_12) (hc0_12 : l0_12.length ≤ c0_12) (hr0_13 : Kd.C k146 w A0_13 l0_13.length l0_13) (hc0_13 : l0_13.length ≤ c0_13) (h : span_Check.f k a0_0 a0_1 a0_2 a0_3 a0_4 a0_5 a0_6 a0_7 a0_8 a0_9 a0_10 a0_11 l0_12 l0_13 = some r) :
  Calls Try.prog 32 #[.agg #[.int .i64 a0_0, .int .i64 a0_1, .int .i64 a0_2, .int .i64 a0_3, .int .i64 a0_4, .int .i64 a0_5, .string a0_6, .string a0_7, .string a0_8, .int .i64 a0_9, .int .i64 a0_10, .bool a0_11, .slice A0_12 l0_12.length c0_12, .slice A0_13 l0_13.length c0_13]] w fun e w' => e = .returned (.int .i64 r) ∧ Below w.heap.size w w' := by
 have hu58 := Try.underlying58
 have HR0_12 := Aside0.mk hr0_12
 have HC0_12 := Aside0.mk hc0_12
 clear hr0_12 hc0_12
 have HR0_13 := Aside0.mk hr0_13
 have HC0_13 := Aside0.mk hc0_13
 clear hr0_13 hc0_13
 have HB := Aside0.mk (Below.refl w.heap.size w)
 have H : ((span_badId.f a0_0).bind fun t204 => (if t204 = true then (span_Check.j0 k true a0_0 a0_1 a0_2 a0_3 a0_4 a0_5 a0_6 a0_7 a0_8 a0_9 a0_10 a0_11 l0_12 l0_13) else ((span_badId.f a0_1).bind fun t205 => (if t205 = true then (span_Check.j0 k true a0_0 a0_1 a0_2 a0_3 a0_4 a0_5 a0_6 a0_7 a0_8 a0_9 a0_10 a0_11 l0_12 l0_13) else (if a0_2 < 0 then (span_Check.j0 k true a0_0 a0_1 a0_2 a0_3 a0_4 a0_5 a0_6 a0_7 a0_8 a0_9 a0_10 a0_11 l0_12 l0_13) else (if a0_2 > 1099511627776 then (span_Check.j0 k true a0_0 a0_1 a0_2 a0_3 a0_4 a0_5 a0_6 a0_7 a0_8 a0_9 a0_10 a0_11 l0_12 l0_13) else (if a0_3 < 0 then (span_Check.j0 k true a0_0 a0_1 a0_2 a0_3 a0_4 a0_5 a0_6 a0_7 a0_8 a0_9 a0_10 a0_11 l0_12 l0_13) else (if a0_3 > 1048576 then (span_Check.j0 k true a0_0 a0_1 a0_2 a0_3 a0_4 a0_5 a0_6 a0_7 a0_8 a0_9 a0_10 a0_11 l0_12 l0_13) else (if a0_4 < 1 then (span_Check.j0 k true a0_0 a0_1 a0_2 a0_3 a0_4 a0_5 a0_6 a0_7 a0_8 a0_9 a0_10 a0_11 l0_12 l0_13) else (span_Check.j0 k (decide (a0_4 > 1048576)) a0_0 a0_1 a0_2 a0_3 a0_4 a0_5 a0_6 a0_7 a0_8 a0_9 a0_10 a0_11 l0_12 l0_13)))))))))) = some r := h
 clear h
 have HC2 := Aside0.mk H
 clear H
 go_enter Try.func32, Try.ntmps32
 go_upto_region 1 with (first | ((with_reducible refine gate_dst (N := 1) rfl ?_); (try (refine gate_guard (by rfl) ?_; dsimp only)); refine box_event ?hg (N := 1) ?hd (cs := #[.int .i64 a0_0, .int .i64 a0_1, .int .i64 a0_2, .int .i64 a0_3, .int .i64 a0_4, .int .i64 a0_5, .string a0_6, .string a0_7, .string a0_8, .int .i64 a0_9, .int .i64 a0_10, .bool a0_11, .slice A0_12 l0_12.length c0_12, .slice A0_13 l0_13.length c0_13]) (t := 58) ?hr ?_; (case hd => rfl); (case hg => rfl); (case hr => first | (go_simp; done) | (go_simp; rfl)); intro gb203 hg w3 hbox hb; have n0_ := Aside0.mk (below_step qgspc_5 hb); have n1_ := Aside0.mk (hbox); have n2_ := Aside0.mk ((by rw [hg]; exact (below_size qgspc_5) : w.heap.size ≤ gb203)); have n3_ := Aside0.mk ((by rw [hg]; exact (below_size qgspc_5) : w.heap.size ≤ gb203)); clear HB; have HB := n0_; have BK203 := n1_; have GW203 := n2_; have GE203 := n3_; clear n0_ n1_ n2_ n3_; clear hb hbox hg))
 (try simp only [Act.put, List.setIfInBounds_toArray, List.set_cons_zero, List.set_cons_succ])
 go_cut [3] (fun v3 wc => ∃ (kq : Nat) (x3_1 : Bool), v3 = .bool x3_1 ∧ Aside0 (span_Check.j0 kq x3_1 a0_0 a0_1 a0_2 a0_3 a0_4 a0_5 a0_6 a0_7 a0_8 a0_9 a0_10 a0_11 l0_12 l0_13 = some r) ∧ Aside0 (kq ≤ k) ∧ Aside0 (wc.heap[gb203]? = some (.cells #[.int .i64 a0_0, .int .i64 a0_1, .int .i64 a0_2, .int .i64 a0_3, .int .i64 a0_4, .int .i64 a0_5, .string a0_6, .string a0_7, .string a0_8, .int .i64 a0_9, .int .i64 a0_10, .bool a0_11, (.slice A0_12 l0_12.length c0_12), (.slice A0_13 l0_13.length c0_13)] 58 (0, 0))) ∧ Aside0 (Below w.heap.size w wc))
 case first =>
  have H := HC2.out
  clear HC2
  replace H := Option.bind_eq_some_iff.mp H
  obtain ⟨t204, A40, H⟩ := H
  replace H : (if t204 = true then (span_Check.j0 k true a0_0 a0_1 a0_2 a0_3 a0_4 a0_5 a0_6 a0_7 a0_8 a0_9 a0_10 a0_11 l0_12 l0_13) else ((span_badId.f a0_1).bind fun t205 => (if t205 = true then (span_Check.j0 k true a0_0 a0_1 a0_2 a0_3 a0_4 a0_5 a0_6 a0_7 a0_8 a0_9 a0_10 a0_11 l0_12 l0_13) else (if a0_2 < 0 then (span_Check.j0 k true a0_0 a0_1 a0_2 a0_3 a0_4 a0_5 a0_6 a0_7 a0_8 a0_9 a0_10 a0_11 l0_12 l0_13) else (if a0_2 > 1099511627776 then (span_Check.j0 k true a0_0 a0_1 a0_2 a0_3 a0_4 a0_5 a0_6 a0_7 a0_8 a0_9 a0_10 a0_11 l0_12 l0_13) else (if a0_3 < 0 then (span_Check.j0 k true a0_0 a0_1 a0_2 a0_3 a0_4 a0_5 a0_6 a0_7 a0_8 a0_9 a0_10 a0_11 l0_12 l0_13) else (if a0_3 > 1048576 then (span_Check.j0 k true a0_0 a0_1 a0_2 a0_3 a0_4 a0_5 a0_6 a0_7 a0_8 a0_9 a0_10 a0_11 l0_12 l0_13) else (if a0_4 < 1 then (span_Check.j0 k true a0_0 a0_1 a0_2 a0_3 a0_4 a0_5 a0_6 a0_7 a0_8 a0_9 a0_10 a0_11 l0_12 l0_13) else (span_Check.j0 k (decide (a0_4 > 1048576)) a0_0 a0_1 a0_2 a0_3 a0_4 a0_5 a0_6 a0_7 a0_8 a0_9 a0_10 a0_11 l0_12 l0_13))))))))) = some r := H
  have A4 := Aside0.mk A40
  clear A40
  by_cases c5 : t204 = true
  ·subst c5
   have H1 : (span_Check.j0 k true a0_0 a0_1 a0_2 a0_3 a0_4 a0_5 a0_6 a0_7 a0_8 a0_9 a0_10 a0_11 l0_12 l0_13) = some r := by rw [if_pos rfl] at H; exact H
   clear H
   have H := H1
   clear H1
   have H' := Aside0.mk H
   clear H
   have hcz6_0 : w3.cell? ⟨gb203, 0, none⟩ = some (.int .i64 a0_0) := (blk_cell BK203.out 0).trans rfl
   have hcz6_1 : w3.cell? ⟨gb203, 1, none⟩ = some (.int .i64 a0_1) := (blk_cell BK203.out 1).trans rfl
   have hcz6_2 : w3.cell? ⟨gb203, 2, none⟩ = some (.int .i64 a0_2) := (blk_cell BK203.out 2).trans rfl
   have hcz6_3 : w3.cell? ⟨gb203, 3, none⟩ = some (.int .i64 a0_3) := (blk_cell BK203.out 3).trans rfl
   have hcz6_4 : w3.cell? ⟨gb203, 4, none⟩ = some (.int .i64 a0_4) := (blk_cell BK203.out 4).trans rfl
   have hcz6_5 : w3.cell? ⟨gb203, 5, none⟩ = some (.int .i64 a0_5) := (blk_cell BK203.out 5).trans rfl
   have hcz6_6 : w3.cell? ⟨gb203, 6, none⟩ = some (.string a0_6) := (blk_cell BK203.out 6).trans rfl
   have hcz6_7 : w3.cell? ⟨gb203, 7, none⟩ = some (.string a0_7) := (blk_cell BK203.out 7).trans rfl
   have hcz6_8 : w3.cell? ⟨gb203, 8, none⟩ = some (.string a0_8) := (blk_cell BK203.out 8).trans rfl
   have hcz6_9 : w3.cell? ⟨gb203, 9, none⟩ = some (.int .i64 a0_9) := (blk_cell BK203.out 9).trans rfl
   have hcz6_10 : w3.cell? ⟨gb203, 10, none⟩ = some (.int .i64 a0_10) := (blk_cell BK203.out 10).trans rfl
   have hcz6_11 : w3.cell? ⟨gb203, 11, none⟩ = some (.bool a0_11) := (blk_cell BK203.out 11).trans rfl
   have hcz6_12 : w3.cell? ⟨gb203, 12, none⟩ = some (.slice A0_12 l0_12.length c0_12) := (blk_cell BK203.out 12).trans rfl
   have hcz6_13 : w3.cell? ⟨gb203, 13, none⟩ = some (.slice A0_13 l0_13.length c0_13) := (blk_cell BK203.out 13).trans rfl
   have hfz6_0 := blk_frozen BK203.out 0
   have hfz6_1 := blk_frozen BK203.out 1
   have hfz6_2 := blk_frozen BK203.out 2
   have hfz6_3 := blk_frozen BK203.out 3
   have hfz6_4 := blk_frozen BK203.out 4
   have hfz6_5 := blk_frozen BK203.out 5
   have hfz6_6 := blk_frozen BK203.out 6
   have hfz6_7 := blk_frozen BK203.out 7
   have hfz6_8 := blk_frozen BK203.out 8
   have hfz6_9 := blk_frozen BK203.out 9
   have hfz6_10 := blk_frozen BK203.out 10
   have hfz6_11 := blk_frozen BK203.out 11
   have hfz6_12 := blk_frozen BK203.out 12
   have hfz6_13 := blk_frozen BK203.out 13
   go_wp2_with (first | ((with_reducible refine gate_callee (f := 53) rfl ?_); refine goesL_ (some 6) rfl rfl Try.func53 (by kernel_rfl) rfl #[.int .i64 a0_0] rfl qgspc_2 ?_; (with_reducible refine (span_badId.calls a0_0 true _ A4.out).mono ?_); rintro e w' ⟨rfl, ⟨nd, rfl⟩⟩; refine ⟨_, rfl, ?_⟩))
   go_meet
   case rel => exact ⟨_, (true), qgspc_3, H', ⟨qgspc_6⟩, ⟨qgspc_1⟩, ⟨qgspc_0⟩⟩
  replace c5 := Bool.eq_false_iff.mpr c5
  subst c5
  have H1 : ((span_badId.f a0_1).bind fun t205 => (if t205 = true then (span_Check.j0 k true a0_0 a0_1 a0_2 a0_3 a0_4 a0_5 a0_6 a0_7 a0_8 a0_9 a0_10 a0_11 l0_12 l0_13) else (if a0_2 < 0 then (span_Check.j0 k true a0_0 a0_1 a0_2 a0_3 a0_4 a0_5 a0_6 a0_7 a0_8 a0_9 a0_10 a0_11 l0_12 l0_13) else (if a0_2 > 1099511627776 then (span_Check.j0 k true a0_0 a0_1 a0_2 a0_3 a0_4 a0_5 a0_6 a0_7 a0_8 a0_9 a0_10 a0_11 l0_12 l0_13) else (if a0_3 < 0 then (span_Check.j0 k true a0_0 a0_1 a0_2 a0_3 a0_4 a0_5 a0_6 a0_7 a0_8 a0_9 a0_10 a0_11 l0_12 l0_13) else (if a0_3 > 1048576 then (span_Check.j0 k true a0_0 a0_1 a0_2 a0_3 a0_4 a0_5 a0_6 a0_7 a0_8 a0_9 a0_10 a0_11 l0_12 l0_13) else (if a0_4 < 1 then (span_Check.j0 k true a0_0 a0_1 a0_2 a0_3 a0_4 a0_5 a0_6 a0_7 a0_8 a0_9 a0_10 a0_11 l0_12 l0_13) else (span_Check.j0 k (decide (a0_4 > 1048576)) a0_0 a0_1 a0_2 a0_3 a0_4 a0_5 a0_6 a0_7 a0_8 a0_9 a0_10 a0_11 l0_12 l0_13)))))))) = some r := by rw [if_neg (show ¬ (false = true) by decide)] at H; exact H
  clear H
  have H := H1
  clear H1
  replace H := Option.bind_eq_some_iff.mp H
  obtain ⟨t205, A70, H⟩ := H
  replace H : (if t205 = true then (span_Check.j0 k true a0_0 a0_1 a0_2 a0_3 a0_4 a0_5 a0_6 a0_7 a0_8 a0_9 a0_10 a0_11 l0_12 l0_13) else (if a0_2 < 0 then (span_Check.j0 k true a0_0 a0_1 a0_2 a0_3 a0_4 a0_5 a0_6 a0_7 a0_8 a0_9 a0_10 a0_11 l0_12 l0_13) else (if a0_2 > 1099511627776 then (span_Check.j0 k true a0_0 a0_1 a0_2 a0_3 a0_4 a0_5 a0_6 a0_7 a0_8 a0_9 a0_10 a0_11 l0_12 l0_13) else (if a0_3 < 0 then (span_Check.j0 k true a0_0 a0_1 a0_2 a0_3 a0_4 a0_5 a0_6 a0_7 a0_8 a0_9 a0_10 a0_11 l0_12 l0_13) else (if a0_3 > 1048576 then (span_Check.j0 k true a0_0 a0_1 a0_2 a0_3 a0_4 a0_5 a0_6 a0_7 a0_8 a0_9 a0_10 a0_11 l0_12 l0_13) else (if a0_4 < 1 then (span_Check.j0 k true a0_0 a0_1 a0_2 a0_3 a0_4 a0_5 a0_6 a0_7 a0_8 a0_9 a0_10 a0_11 l0_12 l0_13) else (span_Check.j0 k (decide (a0_4 > 1048576)) a0_0 a0_1 a0_2 a0_3 a0_4 a0_5 a0_6 a0_7 a0_8 a0_9 a0_10 a0_11 l0_12 l0_13))))))) = some r := H
  have A7 := Aside0.mk A70
  clear A70
  by_cases c8 : t205 = true
  ·subst c8
   have H1 : (span_Check.j0 k true a0_0 a0_1 a0_2 a0_3 a0_4 a0_5 a0_6 a0_7 a0_8 a0_9 a0_10 a0_11 l0_12 l0_13) = some r := by rw [if_pos rfl] at H; exact H
   clear H
   have H := H1
   clear H1
   have H' := Aside0.mk H
   clear H
   have hcz9_0 : w3.cell? ⟨gb203, 0, none⟩ = some (.int .i64 a0_0) := (blk_cell BK203.out 0).trans rfl
   have hcz9_1 : w3.cell? ⟨gb203, 1, none⟩ = some (.int .i64 a0_1) := (blk_cell BK203.out 1).trans rfl
   have hcz9_2 : w3.cell? ⟨gb203, 2, none⟩ = some (.int .i64 a0_2) := (blk_cell BK203.out 2).trans rfl
   have hcz9_3 : w3.cell? ⟨gb203, 3, none⟩ = some (.int .i64 a0_3) := (blk_cell BK203.out 3).trans rfl
   have hcz9_4 : w3.cell? ⟨gb203, 4, none⟩ = some (.int .i64 a0_4) := (blk_cell BK203.out 4).trans rfl
   have hcz9_5 : w3.cell? ⟨gb203, 5, none⟩ = some (.int .i64 a0_5) := (blk_cell BK203.out 5).trans rfl
   have hcz9_6 : w3.cell? ⟨gb203, 6, none⟩ = some (.string a0_6) := (blk_cell BK203.out 6).trans rfl
   have hcz9_7 : w3.cell? ⟨gb203, 7, none⟩ = some (.string a0_7) := (blk_cell BK203.out 7).trans rfl
   have hcz9_8 : w3.cell? ⟨gb203, 8, none⟩ = some (.string a0_8) := (blk_cell BK203.out 8).trans rfl
   have hcz9_9 : w3.cell? ⟨gb203, 9, none⟩ = some (.int .i64 a0_9) := (blk_cell BK203.out 9).trans rfl
   have hcz9_10 : w3.cell? ⟨gb203, 10, none⟩ = some (.int .i64 a0_10) := (blk_cell BK203.out 10).trans rfl
   have hcz9_11 : w3.cell? ⟨gb203, 11, none⟩ = some (.bool a0_11) := (blk_cell BK203.out 11).trans rfl
   have hcz9_12 : w3.cell? ⟨gb203, 12, none⟩ = some (.slice A0_12 l0_12.length c0_12) := (blk_cell BK203.out 12).trans rfl
   have hcz9_13 : w3.cell? ⟨gb203, 13, none⟩ = some (.slice A0_13 l0_13.length c0_13) := (blk_cell BK203.out 13).trans rfl
   have hfz9_0 := blk_frozen BK203.out 0
   have hfz9_1 := blk_frozen BK203.out 1
   have hfz9_2 := blk_frozen BK203.out 2
   have hfz9_3 := blk_frozen BK203.out 3
   have hfz9_4 := blk_frozen BK203.out 4
   have hfz9_5 := blk_frozen BK203.out 5
   have hfz9_6 := blk_frozen BK203.out 6
   have hfz9_7 := blk_frozen BK203.out 7
   have hfz9_8 := blk_frozen BK203.out 8
   have hfz9_9 := blk_frozen BK203.out 9
   have hfz9_10 := blk_frozen BK203.out 10
   have hfz9_11 := blk_frozen BK203.out 11
   have hfz9_12 := blk_frozen BK203.out 12
   have hfz9_13 := blk_frozen BK203.out 13
   go_wp2_with (first | ((with_reducible refine gate_callee (f := 53) rfl ?_); refine goesL_ (some 6) rfl rfl Try.func53 (by kernel_rfl) rfl #[.int .i64 a0_0] rfl qgspc_2 ?_; (with_reducible refine (span_badId.calls a0_0 false _ A4.out).mono ?_); rintro e w' ⟨rfl, ⟨nd, rfl⟩⟩; refine ⟨_, rfl, ?_⟩) | (go_at_call 53; (with_reducible refine (span_badId.calls a0_1 true _ A7.out).mono ?_); rintro e w' ⟨rfl, ⟨nd, rfl⟩⟩))
   go_meet
   case rel => exact ⟨_, (true), qgspc_3, H', ⟨qgspc_6⟩, ⟨qgspc_1⟩, ⟨qgspc_0⟩⟩
  replace c8 := Bool.eq_false_iff.mpr c8
  subst c8
  have H1 : (if a0_2 < 0 then (span_Check.j0 k true a0_0 a0_1 a0_2 a0_3 a0_4 a0_5 a0_6 a0_7 a0_8 a0_9 a0_10 a0_11 l0_12 l0_13) else (if a0_2 > 1099511627776 then (span_Check.j0 k true a0_0 a0_1 a0_2 a0_3 a0_4 a0_5 a0_6 a0_7 a0_8 a0_9 a0_10 a0_11 l0_12 l0_13) else (if a0_3 < 0 then (span_Check.j0 k true a0_0 a0_1 a0_2 a0_3 a0_4 a0_5 a0_6 a0_7 a0_8 a0_9 a0_10 a0_11 l0_12 l0_13) else (if a0_3 > 1048576 then (span_Check.j0 k true a0_0 a0_1 a0_2 a0_3 a0_4 a0_5 a0_6 a0_7 a0_8 a0_9 a0_10 a0_11 l0_12 l0_13) else (if a0_4 < 1 then (span_Check.j0 k true a0_0 a0_1 a0_2 a0_3 a0_4 a0_5 a0_6 a0_7 a0_8 a0_9 a0_10 a0_11 l0_12 l0_13) else (span_Check.j0 k (decide (a0_4 > 1048576)) a0_0 a0_1 a0_2 a0_3 a0_4 a0_5 a0_6 a0_7 a0_8 a0_9 a0_10 a0_11 l0_12 l0_13)))))) = some r := by rw [if_neg (show ¬ (false = true) by decide)] at H; exact H
  clear H
  have H := H1
  clear H1
  by_cases c10 : a0_2 < 0
  ·rw [if_pos c10] at H
   have c10b0 : decide (a0_2 < 0) = true := decide_eq_true c10
   clear c10
   (first | rw [c10b0] | (simp only [i64_w, i32_w]; rw [c10b0]) | skip)
   have H' := Aside0.mk H
   clear H
   have hcz11_0 : w3.cell? ⟨gb203, 0, none⟩ = some (.int .i64 a0_0) := (blk_cell BK203.out 0).trans rfl
   have hcz11_1 : w3.cell? ⟨gb203, 1, none⟩ = some (.int .i64 a0_1) := (blk_cell BK203.out 1).trans rfl
   have hcz11_2 : w3.cell? ⟨gb203, 2, none⟩ = some (.int .i64 a0_2) := (blk_cell BK203.out 2).trans rfl
   have hcz11_3 : w3.cell? ⟨gb203, 3, none⟩ = some (.int .i64 a0_3) := (blk_cell BK203.out 3).trans rfl
   have hcz11_4 : w3.cell? ⟨gb203, 4, none⟩ = some (.int .i64 a0_4) := (blk_cell BK203.out 4).trans rfl
   have hcz11_5 : w3.cell? ⟨gb203, 5, none⟩ = some (.int .i64 a0_5) := (blk_cell BK203.out 5).trans rfl
   have hcz11_6 : w3.cell? ⟨gb203, 6, none⟩ = some (.string a0_6) := (blk_cell BK203.out 6).trans rfl
   have hcz11_7 : w3.cell? ⟨gb203, 7, none⟩ = some (.string a0_7) := (blk_cell BK203.out 7).trans rfl
   have hcz11_8 : w3.cell? ⟨gb203, 8, none⟩ = some (.string a0_8) := (blk_cell BK203.out 8).trans rfl
   have hcz11_9 : w3.cell? ⟨gb203, 9, none⟩ = some (.int .i64 a0_9) := (blk_cell BK203.out 9).trans rfl
   have hcz11_10 : w3.cell? ⟨gb203, 10, none⟩ = some (.int .i64 a0_10) := (blk_cell BK203.out 10).trans rfl
   have hcz11_11 : w3.cell? ⟨gb203, 11, none⟩ = some (.bool a0_11) := (blk_cell BK203.out 11).trans rfl
   have hcz11_12 : w3.cell? ⟨gb203, 12, none⟩ = some (.slice A0_12 l0_12.length c0_12) := (blk_cell BK203.out 12).trans rfl
   have hcz11_13 : w3.cell? ⟨gb203, 13, none⟩ = some (.slice A0_13 l0_13.length c0_13) := (blk_cell BK203.out 13).trans rfl
   have hfz11_0 := blk_frozen BK203.out 0
   have hfz11_1 := blk_frozen BK203.out 1
   have hfz11_2 := blk_frozen BK203.out 2
   have hfz11_3 := blk_frozen BK203.out 3
   have hfz11_4 := blk_frozen BK203.out 4
   have hfz11_5 := blk_frozen BK203.out 5
   have hfz11_6 := blk_frozen BK203.out 6
   have hfz11_7 := blk_frozen BK203.out 7
   have hfz11_8 := blk_frozen BK203.out 8
   have hfz11_9 := blk_frozen BK203.out 9
   have hfz11_10 := blk_frozen BK203.out 10
   have hfz11_11 := blk_frozen BK203.out 11
   have hfz11_12 := blk_frozen BK203.out 12
   have hfz11_13 := blk_frozen BK203.out 13
   go_wp2_with (first | ((with_reducible refine gate_callee (f := 53) rfl ?_); refine goesL_ (some 6) rfl rfl Try.func53 (by kernel_rfl) rfl #[.int .i64 a0_0] rfl qgspc_2 ?_; (with_reducible refine (span_badId.calls a0_0 false _ A4.out).mono ?_); rintro e w' ⟨rfl, ⟨nd, rfl⟩⟩; refine ⟨_, rfl, ?_⟩) | (go_at_call 53; (with_reducible refine (span_badId.calls a0_1 false _ A7.out).mono ?_); rintro e w' ⟨rfl, ⟨nd, rfl⟩⟩))
   go_meet
   case rel => exact ⟨_, (true), qgspc_3, H', ⟨qgspc_6⟩, ⟨qgspc_1⟩, ⟨qgspc_0⟩⟩
  rw [if_neg c10] at H
  have c10b0 : decide (a0_2 < 0) = false := decide_eq_false c10
  clear c10
  (first | rw [c10b0] | (simp only [i64_w, i32_w]; rw [c10b0]) | skip)
  by_cases c12 : a0_2 > 1099511627776
  ·rw [if_pos c12] at H
   have c12b0 : decide (1099511627776 < a0_2) = true := decide_eq_true c12
   clear c12
   have H' := Aside0.mk H
   clear H
   have hcz13_0 : w3.cell? ⟨gb203, 0, none⟩ = some (.int .i64 a0_0) := (blk_cell BK203.out 0).trans rfl
   have hcz13_1 : w3.cell? ⟨gb203, 1, none⟩ = some (.int .i64 a0_1) := (blk_cell BK203.out 1).trans rfl
   have hcz13_2 : w3.cell? ⟨gb203, 2, none⟩ = some (.int .i64 a0_2) := (blk_cell BK203.out 2).trans rfl
   have hcz13_3 : w3.cell? ⟨gb203, 3, none⟩ = some (.int .i64 a0_3) := (blk_cell BK203.out 3).trans rfl
   have hcz13_4 : w3.cell? ⟨gb203, 4, none⟩ = some (.int .i64 a0_4) := (blk_cell BK203.out 4).trans rfl
   have hcz13_5 : w3.cell? ⟨gb203, 5, none⟩ = some (.int .i64 a0_5) := (blk_cell BK203.out 5).trans rfl
   have hcz13_6 : w3.cell? ⟨gb203, 6, none⟩ = some (.string a0_6) := (blk_cell BK203.out 6).trans rfl
   have hcz13_7 : w3.cell? ⟨gb203, 7, none⟩ = some (.string a0_7) := (blk_cell BK203.out 7).trans rfl
   have hcz13_8 : w3.cell? ⟨gb203, 8, none⟩ = some (.string a0_8) := (blk_cell BK203.out 8).trans rfl
   have hcz13_9 : w3.cell? ⟨gb203, 9, none⟩ = some (.int .i64 a0_9) := (blk_cell BK203.out 9).trans rfl
   have hcz13_10 : w3.cell? ⟨gb203, 10, none⟩ = some (.int .i64 a0_10) := (blk_cell BK203.out 10).trans rfl
   have hcz13_11 : w3.cell? ⟨gb203, 11, none⟩ = some (.bool a0_11) := (blk_cell BK203.out 11).trans rfl
   have hcz13_12 : w3.cell? ⟨gb203, 12, none⟩ = some (.slice A0_12 l0_12.length c0_12) := (blk_cell BK203.out 12).trans rfl
   have hcz13_13 : w3.cell? ⟨gb203, 13, none⟩ = some (.slice A0_13 l0_13.length c0_13) := (blk_cell BK203.out 13).trans rfl
   have hfz13_0 := blk_frozen BK203.out 0
   have hfz13_1 := blk_frozen BK203.out 1
   have hfz13_2 := blk_frozen BK203.out 2
   have hfz13_3 := blk_frozen BK203.out 3
   have hfz13_4 := blk_frozen BK203.out 4
   have hfz13_5 := blk_frozen BK203.out 5
   have hfz13_6 := blk_frozen BK203.out 6
   have hfz13_7 := blk_frozen BK203.out 7
   have hfz13_8 := blk_frozen BK203.out 8
   have hfz13_9 := blk_frozen BK203.out 9
   have hfz13_10 := blk_frozen BK203.out 10
   have hfz13_11 := blk_frozen BK203.out 11
   have hfz13_12 := blk_frozen BK203.out 12
   have hfz13_13 := blk_frozen BK203.out 13
   go_wp2_with (first | ((with_reducible refine gate_callee (f := 53) rfl ?_); refine goesL_ (some 6) rfl rfl Try.func53 (by kernel_rfl) rfl #[.int .i64 a0_0] rfl qgspc_2 ?_; (with_reducible refine (span_badId.calls a0_0 false _ A4.out).mono ?_); rintro e w' ⟨rfl, ⟨nd, rfl⟩⟩; refine ⟨_, rfl, ?_⟩) | (go_at_call 53; (with_reducible refine (span_badId.calls a0_1 false _ A7.out).mono ?_); rintro e w' ⟨rfl, ⟨nd, rfl⟩⟩))
   go_meet
   case rel => exact ⟨_, (true), qgspc_3, H', ⟨qgspc_6⟩, ⟨qgspc_1⟩, ⟨qgspc_0⟩⟩
  rw [if_neg c12] at H
  have c12b0 : decide (1099511627776 < a0_2) = false := decide_eq_false c12
  clear c12
  by_cases c14 : a0_3 < 0
  ·rw [if_pos c14] at H
   have c14b0 : decide (a0_3 < 0) = true := decide_eq_true c14
   clear c14
   have H' := Aside0.mk H
   clear H
   have hcz15_0 : w3.cell? ⟨gb203, 0, none⟩ = some (.int .i64 a0_0) := (blk_cell BK203.out 0).trans rfl
   have hcz15_1 : w3.cell? ⟨gb203, 1, none⟩ = some (.int .i64 a0_1) := (blk_cell BK203.out 1).trans rfl
   have hcz15_2 : w3.cell? ⟨gb203, 2, none⟩ = some (.int .i64 a0_2) := (blk_cell BK203.out 2).trans rfl
   have hcz15_3 : w3.cell? ⟨gb203, 3, none⟩ = some (.int .i64 a0_3) := (blk_cell BK203.out 3).trans rfl
   have hcz15_4 : w3.cell? ⟨gb203, 4, none⟩ = some (.int .i64 a0_4) := (blk_cell BK203.out 4).trans rfl
   have hcz15_5 : w3.cell? ⟨gb203, 5, none⟩ = some (.int .i64 a0_5) := (blk_cell BK203.out 5).trans rfl
   have hcz15_6 : w3.cell? ⟨gb203, 6, none⟩ = some (.string a0_6) := (blk_cell BK203.out 6).trans rfl
   have hcz15_7 : w3.cell? ⟨gb203, 7, none⟩ = some (.string a0_7) := (blk_cell BK203.out 7).trans rfl
   have hcz15_8 : w3.cell? ⟨gb203, 8, none⟩ = some (.string a0_8) := (blk_cell BK203.out 8).trans rfl
   have hcz15_9 : w3.cell? ⟨gb203, 9, none⟩ = some (.int .i64 a0_9) := (blk_cell BK203.out 9).trans rfl
   have hcz15_10 : w3.cell? ⟨gb203, 10, none⟩ = some (.int .i64 a0_10) := (blk_cell BK203.out 10).trans rfl
   have hcz15_11 : w3.cell? ⟨gb203, 11, none⟩ = some (.bool a0_11) := (blk_cell BK203.out 11).trans rfl
   have hcz15_12 : w3.cell? ⟨gb203, 12, none⟩ = some (.slice A0_12 l0_12.length c0_12) := (blk_cell BK203.out 12).trans rfl
   have hcz15_13 : w3.cell? ⟨gb203, 13, none⟩ = some (.slice A0_13 l0_13.length c0_13) := (blk_cell BK203.out 13).trans rfl
   have hfz15_0 := blk_frozen BK203.out 0
   have hfz15_1 := blk_frozen BK203.out 1
   have hfz15_2 := blk_frozen BK203.out 2
   have hfz15_3 := blk_frozen BK203.out 3
   have hfz15_4 := blk_frozen BK203.out 4
   have hfz15_5 := blk_frozen BK203.out 5
   have hfz15_6 := blk_frozen BK203.out 6
   have hfz15_7 := blk_frozen BK203.out 7
   have hfz15_8 := blk_frozen BK203.out 8
   have hfz15_9 := blk_frozen BK203.out 9
   have hfz15_10 := blk_frozen BK203.out 10
   have hfz15_11 := blk_frozen BK203.out 11
   have hfz15_12 := blk_frozen BK203.out 12
   have hfz15_13 := blk_frozen BK203.out 13
   go_wp2_with (first | ((with_reducible refine gate_callee (f := 53) rfl ?_); refine goesL_ (some 6) rfl rfl Try.func53 (by kernel_rfl) rfl #[.int .i64 a0_0] rfl qgspc_2 ?_; (with_reducible refine (span_badId.calls a0_0 false _ A4.out).mono ?_); rintro e w' ⟨rfl, ⟨nd, rfl⟩⟩; refine ⟨_, rfl, ?_⟩) | (go_at_call 53; (with_reducible refine (span_badId.calls a0_1 false _ A7.out).mono ?_); rintro e w' ⟨rfl, ⟨nd, rfl⟩⟩))
   go_meet
   case rel => exact ⟨_, (true), qgspc_3, H', ⟨qgspc_6⟩, ⟨qgspc_1⟩, ⟨qgspc_0⟩⟩
  rw [if_neg c14] at H
  have c14b0 : decide (a0_3 < 0) = false := decide_eq_false c14
  clear c14
  by_cases c16 : a0_3 > 1048576
  ·rw [if_pos c16] at H
   have c16b0 : decide (1048576 < a0_3) = true := decide_eq_true c16
   clear c16
   have H' := Aside0.mk H
   clear H
   have hcz17_0 : w3.cell? ⟨gb203, 0, none⟩ = some (.int .i64 a0_0) := (blk_cell BK203.out 0).trans rfl
   have hcz17_1 : w3.cell? ⟨gb203, 1, none⟩ = some (.int .i64 a0_1) := (blk_cell BK203.out 1).trans rfl
   have hcz17_2 : w3.cell? ⟨gb203, 2, none⟩ = some (.int .i64 a0_2) := (blk_cell BK203.out 2).trans rfl
   have hcz17_3 : w3.cell? ⟨gb203, 3, none⟩ = some (.int .i64 a0_3) := (blk_cell BK203.out 3).trans rfl
   have hcz17_4 : w3.cell? ⟨gb203, 4, none⟩ = some (.int .i64 a0_4) := (blk_cell BK203.out 4).trans rfl
   have hcz17_5 : w3.cell? ⟨gb203, 5, none⟩ = some (.int .i64 a0_5) := (blk_cell BK203.out 5).trans rfl
   have hcz17_6 : w3.cell? ⟨gb203, 6, none⟩ = some (.string a0_6) := (blk_cell BK203.out 6).trans rfl
   have hcz17_7 : w3.cell? ⟨gb203, 7, none⟩ = some (.string a0_7) := (blk_cell BK203.out 7).trans rfl
   have hcz17_8 : w3.cell? ⟨gb203, 8, none⟩ = some (.string a0_8) := (blk_cell BK203.out 8).trans rfl
   have hcz17_9 : w3.cell? ⟨gb203, 9, none⟩ = some (.int .i64 a0_9) := (blk_cell BK203.out 9).trans rfl
   have hcz17_10 : w3.cell? ⟨gb203, 10, none⟩ = some (.int .i64 a0_10) := (blk_cell BK203.out 10).trans rfl
   have hcz17_11 : w3.cell? ⟨gb203, 11, none⟩ = some (.bool a0_11) := (blk_cell BK203.out 11).trans rfl
   have hcz17_12 : w3.cell? ⟨gb203, 12, none⟩ = some (.slice A0_12 l0_12.length c0_12) := (blk_cell BK203.out 12).trans rfl
   have hcz17_13 : w3.cell? ⟨gb203, 13, none⟩ = some (.slice A0_13 l0_13.length c0_13) := (blk_cell BK203.out 13).trans rfl
   have hfz17_0 := blk_frozen BK203.out 0
   have hfz17_1 := blk_frozen BK203.out 1
   have hfz17_2 := blk_frozen BK203.out 2
   have hfz17_3 := blk_frozen BK203.out 3
   have hfz17_4 := blk_frozen BK203.out 4
   have hfz17_5 := blk_frozen BK203.out 5
   have hfz17_6 := blk_frozen BK203.out 6
   have hfz17_7 := blk_frozen BK203.out 7
   have hfz17_8 := blk_frozen BK203.out 8
   have hfz17_9 := blk_frozen BK203.out 9
   have hfz17_10 := blk_frozen BK203.out 10
   have hfz17_11 := blk_frozen BK203.out 11
   have hfz17_12 := blk_frozen BK203.out 12
   have hfz17_13 := blk_frozen BK203.out 13
   go_wp2_with (first | ((with_reducible refine gate_callee (f := 53) rfl ?_); refine goesL_ (some 6) rfl rfl Try.func53 (by kernel_rfl) rfl #[.int .i64 a0_0] rfl qgspc_2 ?_; (with_reducible refine (span_badId.calls a0_0 false _ A4.out).mono ?_); rintro e w' ⟨rfl, ⟨nd, rfl⟩⟩; refine ⟨_, rfl, ?_⟩) | (go_at_call 53; (with_reducible refine (span_badId.calls a0_1 false _ A7.out).mono ?_); rintro e w' ⟨rfl, ⟨nd, rfl⟩⟩))
   go_meet
   case rel => exact ⟨_, (true), qgspc_3, H', ⟨qgspc_6⟩, ⟨qgspc_1⟩, ⟨qgspc_0⟩⟩
  rw [if_neg c16] at H
  have c16b0 : decide (1048576 < a0_3) = false := decide_eq_false c16
  clear c16
  by_cases c18 : a0_4 < 1
  ·rw [if_pos c18] at H
   have c18b0 : decide (a0_4 < 1) = true := decide_eq_true c18
   clear c18
   have H' := Aside0.mk H
   clear H
   have hcz19_0 : w3.cell? ⟨gb203, 0, none⟩ = some (.int .i64 a0_0) := (blk_cell BK203.out 0).trans rfl
   have hcz19_1 : w3.cell? ⟨gb203, 1, none⟩ = some (.int .i64 a0_1) := (blk_cell BK203.out 1).trans rfl
   have hcz19_2 : w3.cell? ⟨gb203, 2, none⟩ = some (.int .i64 a0_2) := (blk_cell BK203.out 2).trans rfl
   have hcz19_3 : w3.cell? ⟨gb203, 3, none⟩ = some (.int .i64 a0_3) := (blk_cell BK203.out 3).trans rfl
   have hcz19_4 : w3.cell? ⟨gb203, 4, none⟩ = some (.int .i64 a0_4) := (blk_cell BK203.out 4).trans rfl
   have hcz19_5 : w3.cell? ⟨gb203, 5, none⟩ = some (.int .i64 a0_5) := (blk_cell BK203.out 5).trans rfl
   have hcz19_6 : w3.cell? ⟨gb203, 6, none⟩ = some (.string a0_6) := (blk_cell BK203.out 6).trans rfl
   have hcz19_7 : w3.cell? ⟨gb203, 7, none⟩ = some (.string a0_7) := (blk_cell BK203.out 7).trans rfl
   have hcz19_8 : w3.cell? ⟨gb203, 8, none⟩ = some (.string a0_8) := (blk_cell BK203.out 8).trans rfl
   have hcz19_9 : w3.cell? ⟨gb203, 9, none⟩ = some (.int .i64 a0_9) := (blk_cell BK203.out 9).trans rfl
   have hcz19_10 : w3.cell? ⟨gb203, 10, none⟩ = some (.int .i64 a0_10) := (blk_cell BK203.out 10).trans rfl
   have hcz19_11 : w3.cell? ⟨gb203, 11, none⟩ = some (.bool a0_11) := (blk_cell BK203.out 11).trans rfl
   have hcz19_12 : w3.cell? ⟨gb203, 12, none⟩ = some (.slice A0_12 l0_12.length c0_12) := (blk_cell BK203.out 12).trans rfl
   have hcz19_13 : w3.cell? ⟨gb203, 13, none⟩ = some (.slice A0_13 l0_13.length c0_13) := (blk_cell BK203.out 13).trans rfl
   have hfz19_0 := blk_frozen BK203.out 0
   have hfz19_1 := blk_frozen BK203.out 1
   have hfz19_2 := blk_frozen BK203.out 2
   have hfz19_3 := blk_frozen BK203.out 3
   have hfz19_4 := blk_frozen BK203.out 4
   have hfz19_5 := blk_frozen BK203.out 5
   have hfz19_6 := blk_frozen BK203.out 6
   have hfz19_7 := blk_frozen BK203.out 7
   have hfz19_8 := blk_frozen BK203.out 8
   have hfz19_9 := blk_frozen BK203.out 9
   have hfz19_10 := blk_frozen BK203.out 10
   have hfz19_11 := blk_frozen BK203.out 11
   have hfz19_12 := blk_frozen BK203.out 12
   have hfz19_13 := blk_frozen BK203.out 13
   go_wp2_with (first | ((with_reducible refine gate_callee (f := 53) rfl ?_); refine goesL_ (some 6) rfl rfl Try.func53 (by kernel_rfl) rfl #[.int .i64 a0_0] rfl qgspc_2 ?_; (with_reducible refine (span_badId.calls a0_0 false _ A4.out).mono ?_); rintro e w' ⟨rfl, ⟨nd, rfl⟩⟩; refine ⟨_, rfl, ?_⟩) | (go_at_call 53; (with_reducible refine (span_badId.calls a0_1 false _ A7.out).mono ?_); rintro e w' ⟨rfl, ⟨nd, rfl⟩⟩))
   go_meet
   case rel => exact ⟨_, (true), qgspc_3, H', ⟨qgspc_6⟩, ⟨qgspc_1⟩, ⟨qgspc_0⟩⟩
  rw [if_neg c18] at H
  have c18b0 : decide (a0_4 < 1) = false := decide_eq_false c18
  clear c18
  have H' := Aside0.mk H
  clear H
  have hcz20_0 : w3.cell? ⟨gb203, 0, none⟩ = some (.int .i64 a0_0) := (blk_cell BK203.out 0).trans rfl
  have hcz20_1 : w3.cell? ⟨gb203, 1, none⟩ = some (.int .i64 a0_1) := (blk_cell BK203.out 1).trans rfl
  have hcz20_2 : w3.cell? ⟨gb203, 2, none⟩ = some (.int .i64 a0_2) := (blk_cell BK203.out 2).trans rfl
  have hcz20_3 : w3.cell? ⟨gb203, 3, none⟩ = some (.int .i64 a0_3) := (blk_cell BK203.out 3).trans rfl
  have hcz20_4 : w3.cell? ⟨gb203, 4, none⟩ = some (.int .i64 a0_4) := (blk_cell BK203.out 4).trans rfl
  have hcz20_5 : w3.cell? ⟨gb203, 5, none⟩ = some (.int .i64 a0_5) := (blk_cell BK203.out 5).trans rfl
  have hcz20_6 : w3.cell? ⟨gb203, 6, none⟩ = some (.string a0_6) := (blk_cell BK203.out 6).trans rfl
  have hcz20_7 : w3.cell? ⟨gb203, 7, none⟩ = some (.string a0_7) := (blk_cell BK203.out 7).trans rfl
  have hcz20_8 : w3.cell? ⟨gb203, 8, none⟩ = some (.string a0_8) := (blk_cell BK203.out 8).trans rfl
  have hcz20_9 : w3.cell? ⟨gb203, 9, none⟩ = some (.int .i64 a0_9) := (blk_cell BK203.out 9).trans rfl
  have hcz20_10 : w3.cell? ⟨gb203, 10, none⟩ = some (.int .i64 a0_10) := (blk_cell BK203.out 10).trans rfl
  have hcz20_11 : w3.cell? ⟨gb203, 11, none⟩ = some (.bool a0_11) := (blk_cell BK203.out 11).trans rfl
  have hcz20_12 : w3.cell? ⟨gb203, 12, none⟩ = some (.slice A0_12 l0_12.length c0_12) := (blk_cell BK203.out 12).trans rfl
  have hcz20_13 : w3.cell? ⟨gb203, 13, none⟩ = some (.slice A0_13 l0_13.length c0_13) := (blk_cell BK203.out 13).trans rfl
  have hfz20_0 := blk_frozen BK203.out 0
  have hfz20_1 := blk_frozen BK203.out 1
  have hfz20_2 := blk_frozen BK203.out 2
  have hfz20_3 := blk_frozen BK203.out 3
  have hfz20_4 := blk_frozen BK203.out 4
  have hfz20_5 := blk_frozen BK203.out 5
  have hfz20_6 := blk_frozen BK203.out 6
  have hfz20_7 := blk_frozen BK203.out 7
  have hfz20_8 := blk_frozen BK203.out 8
  have hfz20_9 := blk_frozen BK203.out 9
  have hfz20_10 := blk_frozen BK203.out 10
  have hfz20_11 := blk_frozen BK203.out 11
  have hfz20_12 := blk_frozen BK203.out 12
  have hfz20_13 := blk_frozen BK203.out 13
  go_wp2_with (first | ((with_reducible refine gate_callee (f := 53) rfl ?_); refine goesL_ (some 6) rfl rfl Try.func53 (by kernel_rfl) rfl #[.int .i64 a0_0] rfl qgspc_2 ?_; (with_reducible refine (span_badId.calls a0_0 false _ A4.out).mono ?_); rintro e w' ⟨rfl, ⟨nd, rfl⟩⟩; refine ⟨_, rfl, ?_⟩) | (go_at_call 53; (with_reducible refine (span_badId.calls a0_1 false _ A7.out).mono ?_); rintro e w' ⟨rfl, ⟨nd, rfl⟩⟩))
  go_meet
  case rel => exact ⟨_, (decide (a0_4 > 1048576)), qgspc_3, H', ⟨qgspc_6⟩, ⟨qgspc_1⟩, ⟨qgspc_0⟩⟩
 clear HC2
 try clear c1
 try clear p2
 try clear c3
 try clear c5
 try clear c8
 try clear c10
 try clear c10b0
 try clear c12
 try clear c12b0
 try clear c14
 try clear c14b0
 try clear c16
 try clear c16b0
 try clear c18
 try clear c18b0
 try clear hcz11_0
 try clear hcz11_1
 try clear hcz11_10
 try clear hcz11_11
 try clear hcz11_12
 try clear hcz11_13
 try clear hcz11_2
 try clear hcz11_3
 try clear hcz11_4
 try clear hcz11_5
 try clear hcz11_6
 try clear hcz11_7
 try clear hcz11_8
 try clear hcz11_9
 try clear hcz13_0
 try clear hcz13_1
 try clear hcz13_10
 try clear hcz13_11
 try clear hcz13_12
 try clear hcz13_13
 try clear hcz13_2
 try clear hcz13_3
 try clear hcz13_4
 try clear hcz13_5
 try clear hcz13_6
 try clear hcz13_7
 try clear hcz13_8
 try clear hcz13_9
 try clear hcz15_0
 try clear hcz15_1
 try clear hcz15_10
 try clear hcz15_11
 try clear hcz15_12
 try clear hcz15_13
 try clear hcz15_2
 try clear hcz15_3
 try clear hcz15_4
 try clear hcz15_5
 try clear hcz15_6
 try clear hcz15_7
 try clear hcz15_8
 try clear hcz15_9
 try clear hcz17_0
 try clear hcz17_1
 try clear hcz17_10
 try clear hcz17_11
 try clear hcz17_12
 try clear hcz17_13
 try clear hcz17_2
 try clear hcz17_3
 try clear hcz17_4
 try clear hcz17_5
 try clear hcz17_6
 try clear hcz17_7
 try clear hcz17_8
 try clear hcz17_9
 try clear hcz19_0
 try clear hcz19_1
 try clear hcz19_10
 try clear hcz19_11
 try clear hcz19_12
 try clear hcz19_13
 try clear hcz19_2
 try clear hcz19_3
 try clear hcz19_4
 try clear hcz19_5
 try clear hcz19_6
 try clear hcz19_7
 try clear hcz19_8
 try clear hcz19_9
 try clear hcz20_0
 try clear hcz20_1
 try clear hcz20_10
 try clear hcz20_11
 try clear hcz20_12
 try clear hcz20_13
 try clear hcz20_2
 try clear hcz20_3
 try clear hcz20_4
 try clear hcz20_5
 try clear hcz20_6
 try clear hcz20_7
 try clear hcz20_8
 try clear hcz20_9
 try clear hcz6_0
 try clear hcz6_1
 try clear hcz6_10
 try clear hcz6_11
 try clear hcz6_12
 try clear hcz6_13
 try clear hcz6_2
 try clear hcz6_3
 try clear hcz6_4
 try clear hcz6_5
 try clear hcz6_6
 try clear hcz6_7
 try clear hcz6_8
 try clear hcz6_9
 try clear hcz9_0
 try clear hcz9_1
 try clear hcz9_10
 try clear hcz9_11
 try clear hcz9_12
 try clear hcz9_13
 try clear hcz9_2
 try clear hcz9_3
 try clear hcz9_4
 try clear hcz9_5
 try clear hcz9_6
 try clear hcz9_7
 try clear hcz9_8
 try clear hcz9_9
 try clear hfz11_0
 try clear hfz11_1
 try clear hfz11_10
 try clear hfz11_11
 try clear hfz11_12
 try clear hfz11_13
 try clear hfz11_2
 try clear hfz11_3
 try clear hfz11_4
 try clear hfz11_5
 try clear hfz11_6
 try clear hfz11_7
 try clear hfz11_8
 try clear hfz11_9
 try clear hfz13_0
 try clear hfz13_1
 try clear hfz13_10
 try clear hfz13_11
 try clear hfz13_12
 try clear hfz13_13
 try clear hfz13_2
 try clear hfz13_3
 try clear hfz13_4
 try clear hfz13_5
 try clear hfz13_6
 try clear hfz13_7
 try clear hfz13_8
 try clear hfz13_9
 try clear hfz15_0
 try clear hfz15_1
 try clear hfz15_10
 try clear hfz15_11
 try clear hfz15_12
 try clear hfz15_13
 try clear hfz15_2
 try clear hfz15_3
 try clear hfz15_4
 try clear hfz15_5
 try clear hfz15_6
 try clear hfz15_7
 try clear hfz15_8
 try clear hfz15_9
 try clear hfz17_0
 try clear hfz17_1
 try clear hfz17_10
 try clear hfz17_11
 try clear hfz17_12
 try clear hfz17_13
 try clear hfz17_2
 try clear hfz17_3
 try clear hfz17_4
 try clear hfz17_5
 try clear hfz17_6
 try clear hfz17_7
 try clear hfz17_8
 try clear hfz17_9
 try clear hfz19_0
 try clear hfz19_1
 try clear hfz19_10
 try clear hfz19_11
 try clear hfz19_12
 try clear hfz19_13
 try clear hfz19_2
 try clear hfz19_3
 try clear hfz19_4
 try clear hfz19_5
 try clear hfz19_6
 try clear hfz19_7
 try clear hfz19_8
 try clear hfz19_9
 try clear hfz20_0
 try clear hfz20_1
 try clear hfz20_10
 try clear hfz20_11
 try clear hfz20_12
 try clear hfz20_13
 try clear hfz20_2
 try clear hfz20_3
 try clear hfz20_4
 try clear hfz20_5
 try clear hfz20_6
 try clear hfz20_7
 try clear hfz20_8
 try clear hfz20_9
 try clear hfz6_0
 try clear hfz6_1
 try clear hfz6_10
 try clear hfz6_11
 try clear hfz6_12
 try clear hfz6_13
 try clear hfz6_2
 try clear hfz6_3
 try clear hfz6_4
 try clear hfz6_5
 try clear hfz6_6
 try clear hfz6_7
 try clear hfz6_8
 try clear hfz6_9
 try clear hfz9_0
 try clear hfz9_1
 try clear hfz9_10
 try clear hfz9_11
 try clear hfz9_12
 try clear hfz9_13
 try clear hfz9_2
 try clear hfz9_3
 try clear hfz9_4
 try clear hfz9_5
 try clear hfz9_6
 try clear hfz9_7
 try clear hfz9_8
 try clear hfz9_9
 obtain ⟨kq, x3_1, rfl, HA, HJ1, BK203, HB⟩ := hcut
 cases kq with
 | zero => exact absurd HA.out (by simp [span_Check.j0])
 | succ kj1 =>
  have H := HA.out
  clear HA
  simp only [span_Check.j0] at H
  by_cases c21 : x3_1 = true
  ·subst c21
   have H1 : (some 2) = some r := by rw [if_pos rfl] at H; exact H
   clear H
   have H := H1
   clear H1
   obtain rfl := Option.some.inj H
   go_wp2
   go_ret
   exact ⟨qgspc_4, qgspc_0⟩
  replace c21 := Bool.eq_false_iff.mpr c21
  subst c21
  have H1 : (if a0_5 < 1 then (span_Check.j1 kj1 true a0_0 a0_1 a0_2 a0_3 a0_4 a0_5 a0_6 a0_7 a0_8 a0_9 a0_10 a0_11 l0_12 l0_13) else (span_Check.j1 kj1 (decide (a0_5 > 5)) a0_0 a0_1 a0_2 a0_3 a0_4 a0_5 a0_6 a0_7 a0_8 a0_9 a0_10 a0_11 l0_12 l0_13)) = some r := by rw [if_neg (show ¬ (false = true) by decide)] at H; exact H
  clear H
  have H := H1
  clear H1
  have HC22 := Aside0.mk H
  clear H
  go_upto_region 3 with (fail)
  go_cut [42] (fun v42 wc => ∃ (kq : Nat) (x42_21 : Bool), v42 = .bool x42_21 ∧ Aside0 (span_Check.j1 kq x42_21 a0_0 a0_1 a0_2 a0_3 a0_4 a0_5 a0_6 a0_7 a0_8 a0_9 a0_10 a0_11 l0_12 l0_13 = some r) ∧ Aside0 (kq ≤ kj1) ∧ Aside0 (wc.heap[gb203]? = some (.cells #[.int .i64 a0_0, .int .i64 a0_1, .int .i64 a0_2, .int .i64 a0_3, .int .i64 a0_4, .int .i64 a0_5, .string a0_6, .string a0_7, .string a0_8, .int .i64 a0_9, .int .i64 a0_10, .bool a0_11, (.slice A0_12 l0_12.length c0_12), (.slice A0_13 l0_13.length c0_13)] 58 (0, 0))) ∧ Aside0 (Below w.heap.size w wc))
  case first =>
   have H := HC22.out
   clear HC22
   by_cases c23 : a0_5 < 1
   ·rw [if_pos c23] at H
    have c23b0 : decide (a0_5 < 1) = true := decide_eq_true c23
    clear c23
    (first | rw [c23b0] | (simp only [i64_w, i32_w]; rw [c23b0]) | skip)
    have H' := Aside0.mk H
    clear H
    have hcz24_0 : wc.cell? ⟨gb203, 0, none⟩ = some (.int .i64 a0_0) := (blk_cell BK203.out 0).trans rfl
    have hcz24_1 : wc.cell? ⟨gb203, 1, none⟩ = some (.int .i64 a0_1) := (blk_cell BK203.out 1).trans rfl
    have hcz24_2 : wc.cell? ⟨gb203, 2, none⟩ = some (.int .i64 a0_2) := (blk_cell BK203.out 2).trans rfl
    have hcz24_3 : wc.cell? ⟨gb203, 3, none⟩ = some (.int .i64 a0_3) := (blk_cell BK203.out 3).trans rfl
    have hcz24_4 : wc.cell? ⟨gb203, 4, none⟩ = some (.int .i64 a0_4) := (blk_cell BK203.out 4).trans rfl
    have hcz24_5 : wc.cell? ⟨gb203, 5, none⟩ = some (.int .i64 a0_5) := (blk_cell BK203.out 5).trans rfl
    have hcz24_6 : wc.cell? ⟨gb203, 6, none⟩ = some (.string a0_6) := (blk_cell BK203.out 6).trans rfl
    have hcz24_7 : wc.cell? ⟨gb203, 7, none⟩ = some (.string a0_7) := (blk_cell BK203.out 7).trans rfl
    have hcz24_8 : wc.cell? ⟨gb203, 8, none⟩ = some (.string a0_8) := (blk_cell BK203.out 8).trans rfl
    have hcz24_9 : wc.cell? ⟨gb203, 9, none⟩ = some (.int .i64 a0_9) := (blk_cell BK203.out 9).trans rfl
    have hcz24_10 : wc.cell? ⟨gb203, 10, none⟩ = some (.int .i64 a0_10) := (blk_cell BK203.out 10).trans rfl
    have hcz24_11 : wc.cell? ⟨gb203, 11, none⟩ = some (.bool a0_11) := (blk_cell BK203.out 11).trans rfl
    have hcz24_12 : wc.cell? ⟨gb203, 12, none⟩ = some (.slice A0_12 l0_12.length c0_12) := (blk_cell BK203.out 12).trans rfl
    have hcz24_13 : wc.cell? ⟨gb203, 13, none⟩ = some (.slice A0_13 l0_13.length c0_13) := (blk_cell BK203.out 13).trans rfl
    have hfz24_0 := blk_frozen BK203.out 0
    have hfz24_1 := blk_frozen BK203.out 1
    have hfz24_2 := blk_frozen BK203.out 2
    have hfz24_3 := blk_frozen BK203.out 3
    have hfz24_4 := blk_frozen BK203.out 4
    have hfz24_5 := blk_frozen BK203.out 5
    have hfz24_6 := blk_frozen BK203.out 6
    have hfz24_7 := blk_frozen BK203.out 7
    have hfz24_8 := blk_frozen BK203.out 8
    have hfz24_9 := blk_frozen BK203.out 9
    have hfz24_10 := blk_frozen BK203.out 10
    have hfz24_11 := blk_frozen BK203.out 11
    have hfz24_12 := blk_frozen BK203.out 12
    have hfz24_13 := blk_frozen BK203.out 13
    go_wp2
    go_meet
    case rel => exact ⟨_, (true), qgspc_3, H', ⟨by have := HJ1.out; first | omega | exact Nat.le_refl _⟩, ⟨qgspc_1⟩, ⟨qgspc_0⟩⟩
   rw [if_neg c23] at H
   have c23b0 : decide (a0_5 < 1) = false := decide_eq_false c23
   clear c23
   (first | rw [c23b0] | (simp only [i64_w, i32_w]; rw [c23b0]) | skip)
   have H' := Aside0.mk H
   clear H
   have hcz25_0 : wc.cell? ⟨gb203, 0, none⟩ = some (.int .i64 a0_0) := (blk_cell BK203.out 0).trans rfl
   have hcz25_1 : wc.cell? ⟨gb203, 1, none⟩ = some (.int .i64 a0_1) := (blk_cell BK203.out 1).trans rfl
   have hcz25_2 : wc.cell? ⟨gb203, 2, none⟩ = some (.int .i64 a0_2) := (blk_cell BK203.out 2).trans rfl
   have hcz25_3 : wc.cell? ⟨gb203, 3, none⟩ = some (.int .i64 a0_3) := (blk_cell BK203.out 3).trans rfl
   have hcz25_4 : wc.cell? ⟨gb203, 4, none⟩ = some (.int .i64 a0_4) := (blk_cell BK203.out 4).trans rfl
   have hcz25_5 : wc.cell? ⟨gb203, 5, none⟩ = some (.int .i64 a0_5) := (blk_cell BK203.out 5).trans rfl
   have hcz25_6 : wc.cell? ⟨gb203, 6, none⟩ = some (.string a0_6) := (blk_cell BK203.out 6).trans rfl
   have hcz25_7 : wc.cell? ⟨gb203, 7, none⟩ = some (.string a0_7) := (blk_cell BK203.out 7).trans rfl
   have hcz25_8 : wc.cell? ⟨gb203, 8, none⟩ = some (.string a0_8) := (blk_cell BK203.out 8).trans rfl
   have hcz25_9 : wc.cell? ⟨gb203, 9, none⟩ = some (.int .i64 a0_9) := (blk_cell BK203.out 9).trans rfl
   have hcz25_10 : wc.cell? ⟨gb203, 10, none⟩ = some (.int .i64 a0_10) := (blk_cell BK203.out 10).trans rfl
   have hcz25_11 : wc.cell? ⟨gb203, 11, none⟩ = some (.bool a0_11) := (blk_cell BK203.out 11).trans rfl
   have hcz25_12 : wc.cell? ⟨gb203, 12, none⟩ = some (.slice A0_12 l0_12.length c0_12) := (blk_cell BK203.out 12).trans rfl
   have hcz25_13 : wc.cell? ⟨gb203, 13, none⟩ = some (.slice A0_13 l0_13.length c0_13) := (blk_cell BK203.out 13).trans rfl
   have hfz25_0 := blk_frozen BK203.out 0
   have hfz25_1 := blk_frozen BK203.out 1
   have hfz25_2 := blk_frozen BK203.out 2
   have hfz25_3 := blk_frozen BK203.out 3
   have hfz25_4 := blk_frozen BK203.out 4
   have hfz25_5 := blk_frozen BK203.out 5
   have hfz25_6 := blk_frozen BK203.out 6
   have hfz25_7 := blk_frozen BK203.out 7
   have hfz25_8 := blk_frozen BK203.out 8
   have hfz25_9 := blk_frozen BK203.out 9
   have hfz25_10 := blk_frozen BK203.out 10
   have hfz25_11 := blk_frozen BK203.out 11
   have hfz25_12 := blk_frozen BK203.out 12
   have hfz25_13 := blk_frozen BK203.out 13
   go_wp2
   go_meet
   case rel => exact ⟨_, (decide (a0_5 > 5)), qgspc_3, H', ⟨by have := HJ1.out; first | omega | exact Nat.le_refl _⟩, ⟨qgspc_1⟩, ⟨qgspc_0⟩⟩
  clear HC22
  try clear c1
  try clear c2
  try clear p2
  try clear c3
  try clear c5
  try clear c8
  try clear c10
  try clear c10b0
  try clear c12
  try clear c12b0
  try clear c14
  try clear c14b0
  try clear c16
  try clear c16b0
  try clear c18
  try clear c18b0
  try clear c21
  try clear c23
  try clear c23b0
  try clear hcz11_0
  try clear hcz11_1
  try clear hcz11_10
  try clear hcz11_11
  try clear hcz11_12
  try clear hcz11_13
  try clear hcz11_2
  try clear hcz11_3
  try clear hcz11_4
  try clear hcz11_5
  try clear hcz11_6
  try clear hcz11_7
  try clear hcz11_8
  try clear hcz11_9
  try clear hcz13_0
  try clear hcz13_1
  try clear hcz13_10
  try clear hcz13_11
  try clear hcz13_12
  try clear hcz13_13
  try clear hcz13_2
  try clear hcz13_3
  try clear hcz13_4
  try clear hcz13_5
  try clear hcz13_6
  try clear hcz13_7
  try clear hcz13_8
  try clear hcz13_9
  try clear hcz15_0
  try clear hcz15_1
  try clear hcz15_10
  try clear hcz15_11
  try clear hcz15_12
  try clear hcz15_13
  try clear hcz15_2
  try clear hcz15_3
  try clear hcz15_4
  try clear hcz15_5
  try clear hcz15_6
  try clear hcz15_7
  try clear hcz15_8
  try clear hcz15_9
  try clear hcz17_0
  try clear hcz17_1
  try clear hcz17_10
  try clear hcz17_11
  try clear hcz17_12
  try clear hcz17_13
  try clear hcz17_2
  try clear hcz17_3
  try clear hcz17_4
  try clear hcz17_5
  try clear hcz17_6
  try clear hcz17_7
  try clear hcz17_8
  try clear hcz17_9
  try clear hcz19_0
  try clear hcz19_1
  try clear hcz19_10
  try clear hcz19_11
  try clear hcz19_12
  try clear hcz19_13
  try clear hcz19_2
  try clear hcz19_3
  try clear hcz19_4
  try clear hcz19_5
  try clear hcz19_6
  try clear hcz19_7
  try clear hcz19_8
  try clear hcz19_9
  try clear hcz20_0
  try clear hcz20_1
  try clear hcz20_10
  try clear hcz20_11
  try clear hcz20_12
  try clear hcz20_13
  try clear hcz20_2
  try clear hcz20_3
  try clear hcz20_4
  try clear hcz20_5
  try clear hcz20_6
  try clear hcz20_7
  try clear hcz20_8
  try clear hcz20_9
  try clear hcz24_0
  try clear hcz24_1
  try clear hcz24_10
  try clear hcz24_11
  try clear hcz24_12
  try clear hcz24_13
  try clear hcz24_2
  try clear hcz24_3
  try clear hcz24_4
  try clear hcz24_5
  try clear hcz24_6
  try clear hcz24_7
  try clear hcz24_8
  try clear hcz24_9
  try clear hcz25_0
  try clear hcz25_1
  try clear hcz25_10
  try clear hcz25_11
  try clear hcz25_12
  try clear hcz25_13
  try clear hcz25_2
  try clear hcz25_3
  try clear hcz25_4
  try clear hcz25_5
  try clear hcz25_6
  try clear hcz25_7
  try clear hcz25_8
  try clear hcz25_9
  try clear hcz6_0
  try clear hcz6_1
  try clear hcz6_10
  try clear hcz6_11
  try clear hcz6_12
  try clear hcz6_13
  try clear hcz6_2
  try clear hcz6_3
  try clear hcz6_4
  try clear hcz6_5
  try clear hcz6_6
  try clear hcz6_7
  try clear hcz6_8
  try clear hcz6_9
  try clear hcz9_0
  try clear hcz9_1
  try clear hcz9_10
  try clear hcz9_11
  try clear hcz9_12
  try clear hcz9_13
  try clear hcz9_2
  try clear hcz9_3
  try clear hcz9_4
  try clear hcz9_5
  try clear hcz9_6
  try clear hcz9_7
  try clear hcz9_8
  try clear hcz9_9
  try clear hfz11_0
  try clear hfz11_1
  try clear hfz11_10
  try clear hfz11_11
  try clear hfz11_12
  try clear hfz11_13
  try clear hfz11_2
  try clear hfz11_3
  try clear hfz11_4
  try clear hfz11_5
  try clear hfz11_6
  try clear hfz11_7
  try clear hfz11_8
  try clear hfz11_9
  try clear hfz13_0
  try clear hfz13_1
  try clear hfz13_10
  try clear hfz13_11
  try clear hfz13_12
  try clear hfz13_13
  try clear hfz13_2
  try clear hfz13_3
  try clear hfz13_4
  try clear hfz13_5
  try clear hfz13_6
  try clear hfz13_7
  try clear hfz13_8
  try clear hfz13_9
  try clear hfz15_0
  try clear hfz15_1
  try clear hfz15_10
  try clear hfz15_11
  try clear hfz15_12
  try clear hfz15_13
  try clear hfz15_2
  try clear hfz15_3
  try clear hfz15_4
  try clear hfz15_5
  try clear hfz15_6
  try clear hfz15_7
  try clear hfz15_8
  try clear hfz15_9
  try clear hfz17_0
  try clear hfz17_1
  try clear hfz17_10
  try clear hfz17_11
  try clear hfz17_12
  try clear hfz17_13
  try clear hfz17_2
  try clear hfz17_3
  try clear hfz17_4
  try clear hfz17_5
  try clear hfz17_6
  try clear hfz17_7
  try clear hfz17_8
  try clear hfz17_9
  try clear hfz19_0
  try clear hfz19_1
  try clear hfz19_10
  try clear hfz19_11
  try clear hfz19_12
  try clear hfz19_13
  try clear hfz19_2
  try clear hfz19_3
  try clear hfz19_4
  try clear hfz19_5
  try clear hfz19_6
  try clear hfz19_7
  try clear hfz19_8
  try clear hfz19_9
  try clear hfz20_0
  try clear hfz20_1
  try clear hfz20_10
  try clear hfz20_11
  try clear hfz20_12
  try clear hfz20_13
  try clear hfz20_2
  try clear hfz20_3
  try clear hfz20_4
  try clear hfz20_5
  try clear hfz20_6
  try clear hfz20_7
  try clear hfz20_8
  try clear hfz20_9
  try clear hfz24_0
  try clear hfz24_1
  try clear hfz24_10
  try clear hfz24_11
  try clear hfz24_12
  try clear hfz24_13
  try clear hfz24_2
  try clear hfz24_3
  try clear hfz24_4
  try clear hfz24_5
  try clear hfz24_6
  try clear hfz24_7
  try clear hfz24_8
  try clear hfz24_9
  try clear hfz25_0
  try clear hfz25_1
  try clear hfz25_10
  try clear hfz25_11
  try clear hfz25_12
  try clear hfz25_13
  try clear hfz25_2
  try clear hfz25_3
  try clear hfz25_4
  try clear hfz25_5
  try clear hfz25_6
  try clear hfz25_7
  try clear hfz25_8
  try clear hfz25_9
  try clear hfz6_0
  try clear hfz6_1
  try clear hfz6_10
  try clear hfz6_11
  try clear hfz6_12
  try clear hfz6_13
  try clear hfz6_2
  try clear hfz6_3
  try clear hfz6_4
  try clear hfz6_5
  try clear hfz6_6
  try clear hfz6_7
  try clear hfz6_8
  try clear hfz6_9
  try clear hfz9_0
  try clear hfz9_1
  try clear hfz9_10
  try clear hfz9_11
  try clear hfz9_12
  try clear hfz9_13
  try clear hfz9_2
  try clear hfz9_3
  try clear hfz9_4
  try clear hfz9_5
  try clear hfz9_6
  try clear hfz9_7
  try clear hfz9_8
  try clear hfz9_9
  try clear p2
  obtain ⟨kq, x42_21, rfl, HA, HJ21, BK203, HB⟩ := hcut
  cases kq with
  | zero => exact absurd HA.out (by simp [span_Check.j1])
  | succ kj21 =>
   have H := HA.out
   clear HA
   simp only [span_Check.j1] at H
   by_cases c26 : x42_21 = true
   ·subst c26
    have H1 : (some 12) = some r := by rw [if_pos rfl] at H; exact H
    clear H
    have H := H1
    clear H1
    obtain rfl := Option.some.inj H
    go_wp2
    go_ret
    exact ⟨qgspc_4, qgspc_0⟩
   replace c26 := Bool.eq_false_iff.mpr c26
   subst c26
   have H1 : ((attribute_IsName.f kj21 a0_6).bind fun t206 => (if t206 = true then ((attribute_IsName.f kj21 a0_8).bind fun t207 => (if t207 = true then (if a0_7.toList = ([] : List UInt8) then (span_Check.j2 kj21 false a0_0 a0_1 a0_2 a0_3 a0_4 a0_5 a0_6 a0_7 a0_8 a0_9 a0_10 a0_11 l0_12 l0_13) else ((attribute_IsName.f kj21 a0_7).bind fun t208 => (span_Check.j2 kj21 (!t208) a0_0 a0_1 a0_2 a0_3 a0_4 a0_5 a0_6 a0_7 a0_8 a0_9 a0_10 a0_11 l0_12 l0_13))) else (span_Check.j2 kj21 true a0_0 a0_1 a0_2 a0_3 a0_4 a0_5 a0_6 a0_7 a0_8 a0_9 a0_10 a0_11 l0_12 l0_13))) else (span_Check.j2 kj21 true a0_0 a0_1 a0_2 a0_3 a0_4 a0_5 a0_6 a0_7 a0_8 a0_9 a0_10 a0_11 l0_12 l0_13))) = some r := by rw [if_neg (show ¬ (false = true) by decide)] at H; exact H
   clear H
   have H := H1
   clear H1
   have HC27 := Aside0.mk H
   clear H
   go_upto_region 5 with (fail)
   go_cut [51] (fun v51 wc => ∃ (kq : Nat) (x51_26 : Bool), v51 = .bool x51_26 ∧ Aside0 (span_Check.j2 kq x51_26 a0_0 a0_1 a0_2 a0_3 a0_4 a0_5 a0_6 a0_7 a0_8 a0_9 a0_10 a0_11 l0_12 l0_13 = some r) ∧ Aside0 (kq ≤ kj21) ∧ Aside0 (wc.heap[gb203]? = some (.cells #[.int .i64 a0_0, .int .i64 a0_1, .int .i64 a0_2, .int .i64 a0_3, .int .i64 a0_4, .int .i64 a0_5, .string a0_6, .string a0_7, .string a0_8, .int .i64 a0_9, .int .i64 a0_10, .bool a0_11, (.slice A0_12 l0_12.length c0_12), (.slice A0_13 l0_13.length c0_13)] 58 (0, 0))) ∧ Aside0 (Below w.heap.size w wc))
   case first =>
    have H := HC27.out
    clear HC27
    replace H := Option.bind_eq_some_iff.mp H
    obtain ⟨t206, A280, H⟩ := H
    replace H : (if t206 = true then ((attribute_IsName.f kj21 a0_8).bind fun t207 => (if t207 = true then (if a0_7.toList = ([] : List UInt8) then (span_Check.j2 kj21 false a0_0 a0_1 a0_2 a0_3 a0_4 a0_5 a0_6 a0_7 a0_8 a0_9 a0_10 a0_11 l0_12 l0_13) else ((attribute_IsName.f kj21 a0_7).bind fun t208 => (span_Check.j2 kj21 (!t208) a0_0 a0_1 a0_2 a0_3 a0_4 a0_5 a0_6 a0_7 a0_8 a0_9 a0_10 a0_11 l0_12 l0_13))) else (span_Check.j2 kj21 true a0_0 a0_1 a0_2 a0_3 a0_4 a0_5 a0_6 a0_7 a0_8 a0_9 a0_10 a0_11 l0_12 l0_13))) else (span_Check.j2 kj21 true a0_0 a0_1 a0_2 a0_3 a0_4 a0_5 a0_6 a0_7 a0_8 a0_9 a0_10 a0_11 l0_12 l0_13)) = some r := H
    have A28 := Aside0.mk A280
    clear A280
    by_cases c29 : t206 = true
    rotate_left
    ·replace c29 := Bool.eq_false_iff.mpr c29
     subst c29
     have H1 : (span_Check.j2 kj21 true a0_0 a0_1 a0_2 a0_3 a0_4 a0_5 a0_6 a0_7 a0_8 a0_9 a0_10 a0_11 l0_12 l0_13) = some r := by rw [if_neg (show ¬ (false = true) by decide)] at H; exact H
     clear H
     have H := H1
     clear H1
     have H' := Aside0.mk H
     clear H
     have hcz37_0 : wc.cell? ⟨gb203, 0, none⟩ = some (.int .i64 a0_0) := (blk_cell BK203.out 0).trans rfl
     have hcz37_1 : wc.cell? ⟨gb203, 1, none⟩ = some (.int .i64 a0_1) := (blk_cell BK203.out 1).trans rfl
     have hcz37_2 : wc.cell? ⟨gb203, 2, none⟩ = some (.int .i64 a0_2) := (blk_cell BK203.out 2).trans rfl
     have hcz37_3 : wc.cell? ⟨gb203, 3, none⟩ = some (.int .i64 a0_3) := (blk_cell BK203.out 3).trans rfl
     have hcz37_4 : wc.cell? ⟨gb203, 4, none⟩ = some (.int .i64 a0_4) := (blk_cell BK203.out 4).trans rfl
     have hcz37_5 : wc.cell? ⟨gb203, 5, none⟩ = some (.int .i64 a0_5) := (blk_cell BK203.out 5).trans rfl
     have hcz37_6 : wc.cell? ⟨gb203, 6, none⟩ = some (.string a0_6) := (blk_cell BK203.out 6).trans rfl
     have hcz37_7 : wc.cell? ⟨gb203, 7, none⟩ = some (.string a0_7) := (blk_cell BK203.out 7).trans rfl
     have hcz37_8 : wc.cell? ⟨gb203, 8, none⟩ = some (.string a0_8) := (blk_cell BK203.out 8).trans rfl
     have hcz37_9 : wc.cell? ⟨gb203, 9, none⟩ = some (.int .i64 a0_9) := (blk_cell BK203.out 9).trans rfl
     have hcz37_10 : wc.cell? ⟨gb203, 10, none⟩ = some (.int .i64 a0_10) := (blk_cell BK203.out 10).trans rfl
     have hcz37_11 : wc.cell? ⟨gb203, 11, none⟩ = some (.bool a0_11) := (blk_cell BK203.out 11).trans rfl
     have hcz37_12 : wc.cell? ⟨gb203, 12, none⟩ = some (.slice A0_12 l0_12.length c0_12) := (blk_cell BK203.out 12).trans rfl
     have hcz37_13 : wc.cell? ⟨gb203, 13, none⟩ = some (.slice A0_13 l0_13.length c0_13) := (blk_cell BK203.out 13).trans rfl
     have hfz37_0 := blk_frozen BK203.out 0
     have hfz37_1 := blk_frozen BK203.out 1
     have hfz37_2 := blk_frozen BK203.out 2
     have hfz37_3 := blk_frozen BK203.out 3
     have hfz37_4 := blk_frozen BK203.out 4
     have hfz37_5 := blk_frozen BK203.out 5
     have hfz37_6 := blk_frozen BK203.out 6
     have hfz37_7 := blk_frozen BK203.out 7
     have hfz37_8 := blk_frozen BK203.out 8
     have hfz37_9 := blk_frozen BK203.out 9
     have hfz37_10 := blk_frozen BK203.out 10
     have hfz37_11 := blk_frozen BK203.out 11
     have hfz37_12 := blk_frozen BK203.out 12
     have hfz37_13 := blk_frozen BK203.out 13
     go_wp2_with (first | ((with_reducible refine gate_callee (f := 54) rfl ?_); refine goesL_ (some 54) rfl rfl Try.func54 (by kernel_rfl) rfl #[.string a0_6] rfl qgspc_2 ?_; (with_reducible refine (attribute_IsName.calls kj21 a0_6 false _ A28.out).mono ?_); rintro e w' ⟨rfl, ⟨nd, rfl⟩⟩; refine ⟨_, rfl, ?_⟩))
     go_meet
     case rel => exact ⟨_, (true), qgspc_3, H', ⟨qgspc_7⟩, ⟨qgspc_1⟩, ⟨qgspc_0⟩⟩
    subst c29
    have H1 : ((attribute_IsName.f kj21 a0_8).bind fun t207 => (if t207 = true then (if a0_7.toList = ([] : List UInt8) then (span_Check.j2 kj21 false a0_0 a0_1 a0_2 a0_3 a0_4 a0_5 a0_6 a0_7 a0_8 a0_9 a0_10 a0_11 l0_12 l0_13) else ((attribute_IsName.f kj21 a0_7).bind fun t208 => (span_Check.j2 kj21 (!t208) a0_0 a0_1 a0_2 a0_3 a0_4 a0_5 a0_6 a0_7 a0_8 a0_9 a0_10 a0_11 l0_12 l0_13))) else (span_Check.j2 kj21 true a0_0 a0_1 a0_2 a0_3 a0_4 a0_5 a0_6 a0_7 a0_8 a0_9 a0_10 a0_11 l0_12 l0_13))) = some r := by rw [if_pos rfl] at H; exact H
    clear H
    have H := H1
    clear H1
    replace H := Option.bind_eq_some_iff.mp H
    obtain ⟨t207, A300, H⟩ := H
    replace H : (if t207 = true then (if a0_7.toList = ([] : List UInt8) then (span_Check.j2 kj21 false a0_0 a0_1 a0_2 a0_3 a0_4 a0_5 a0_6 a0_7 a0_8 a0_9 a0_10 a0_11 l0_12 l0_13) else ((attribute_IsName.f kj21 a0_7).bind fun t208 => (span_Check.j2 kj21 (!t208) a0_0 a0_1 a0_2 a0_3 a0_4 a0_5 a0_6 a0_7 a0_8 a0_9 a0_10 a0_11 l0_12 l0_13))) else (span_Check.j2 kj21 true a0_0 a0_1 a0_2 a0_3 a0_4 a0_5 a0_6 a0_7 a0_8 a0_9 a0_10 a0_11 l0_12 l0_13)) = some r := H
    have A30 := Aside0.mk A300
    clear A300
    by_cases c31 : t207 = true
    rotate_left
    ·replace c31 := Bool.eq_false_iff.mpr c31
     subst c31
     have H1 : (span_Check.j2 kj21 true a0_0 a0_1 a0_2 a0_3 a0_4 a0_5 a0_6 a0_7 a0_8 a0_9 a0_10 a0_11 l0_12 l0_13) = some r := by rw [if_neg (show ¬ (false = true) by decide)] at H; exact H
     clear H
     have H := H1
     clear H1
     have H' := Aside0.mk H
     clear H
     have hcz36_0 : wc.cell? ⟨gb203, 0, none⟩ = some (.int .i64 a0_0) := (blk_cell BK203.out 0).trans rfl
     have hcz36_1 : wc.cell? ⟨gb203, 1, none⟩ = some (.int .i64 a0_1) := (blk_cell BK203.out 1).trans rfl
     have hcz36_2 : wc.cell? ⟨gb203, 2, none⟩ = some (.int .i64 a0_2) := (blk_cell BK203.out 2).trans rfl
     have hcz36_3 : wc.cell? ⟨gb203, 3, none⟩ = some (.int .i64 a0_3) := (blk_cell BK203.out 3).trans rfl
     have hcz36_4 : wc.cell? ⟨gb203, 4, none⟩ = some (.int .i64 a0_4) := (blk_cell BK203.out 4).trans rfl
     have hcz36_5 : wc.cell? ⟨gb203, 5, none⟩ = some (.int .i64 a0_5) := (blk_cell BK203.out 5).trans rfl
     have hcz36_6 : wc.cell? ⟨gb203, 6, none⟩ = some (.string a0_6) := (blk_cell BK203.out 6).trans rfl
     have hcz36_7 : wc.cell? ⟨gb203, 7, none⟩ = some (.string a0_7) := (blk_cell BK203.out 7).trans rfl
     have hcz36_8 : wc.cell? ⟨gb203, 8, none⟩ = some (.string a0_8) := (blk_cell BK203.out 8).trans rfl
     have hcz36_9 : wc.cell? ⟨gb203, 9, none⟩ = some (.int .i64 a0_9) := (blk_cell BK203.out 9).trans rfl
     have hcz36_10 : wc.cell? ⟨gb203, 10, none⟩ = some (.int .i64 a0_10) := (blk_cell BK203.out 10).trans rfl
     have hcz36_11 : wc.cell? ⟨gb203, 11, none⟩ = some (.bool a0_11) := (blk_cell BK203.out 11).trans rfl
     have hcz36_12 : wc.cell? ⟨gb203, 12, none⟩ = some (.slice A0_12 l0_12.length c0_12) := (blk_cell BK203.out 12).trans rfl
     have hcz36_13 : wc.cell? ⟨gb203, 13, none⟩ = some (.slice A0_13 l0_13.length c0_13) := (blk_cell BK203.out 13).trans rfl
     have hfz36_0 := blk_frozen BK203.out 0
     have hfz36_1 := blk_frozen BK203.out 1
     have hfz36_2 := blk_frozen BK203.out 2
     have hfz36_3 := blk_frozen BK203.out 3
     have hfz36_4 := blk_frozen BK203.out 4
     have hfz36_5 := blk_frozen BK203.out 5
     have hfz36_6 := blk_frozen BK203.out 6
     have hfz36_7 := blk_frozen BK203.out 7
     have hfz36_8 := blk_frozen BK203.out 8
     have hfz36_9 := blk_frozen BK203.out 9
     have hfz36_10 := blk_frozen BK203.out 10
     have hfz36_11 := blk_frozen BK203.out 11
     have hfz36_12 := blk_frozen BK203.out 12
     have hfz36_13 := blk_frozen BK203.out 13
     go_wp2_with (first | ((with_reducible refine gate_callee (f := 54) rfl ?_); refine goesL_ (some 54) rfl rfl Try.func54 (by kernel_rfl) rfl #[.string a0_6] rfl qgspc_2 ?_; (with_reducible refine (attribute_IsName.calls kj21 a0_6 true _ A28.out).mono ?_); rintro e w' ⟨rfl, ⟨nd, rfl⟩⟩; refine ⟨_, rfl, ?_⟩) | (go_at_call 54; (with_reducible refine (attribute_IsName.calls kj21 a0_8 false _ A30.out).mono ?_); rintro e w' ⟨rfl, ⟨nd, rfl⟩⟩))
     go_meet
     case rel => exact ⟨_, (true), qgspc_3, H', ⟨qgspc_7⟩, ⟨qgspc_1⟩, ⟨qgspc_0⟩⟩
    subst c31
    have H1 : (if a0_7.toList = ([] : List UInt8) then (span_Check.j2 kj21 false a0_0 a0_1 a0_2 a0_3 a0_4 a0_5 a0_6 a0_7 a0_8 a0_9 a0_10 a0_11 l0_12 l0_13) else ((attribute_IsName.f kj21 a0_7).bind fun t208 => (span_Check.j2 kj21 (!t208) a0_0 a0_1 a0_2 a0_3 a0_4 a0_5 a0_6 a0_7 a0_8 a0_9 a0_10 a0_11 l0_12 l0_13))) = some r := by rw [if_pos rfl] at H; exact H
    clear H
    have H := H1
    clear H1
    by_cases c32 : a0_7.toList = ([] : List UInt8)
    ·rw [if_pos c32] at H
     have c32b0 : (a0_7.toList == ([] : List UInt8)) = true := beq_iff_eq.mpr c32
     have c32b1 : (a0_7.toList != ([] : List UInt8)) = false := bne_eq_false_iff_eq.mpr c32
     clear c32
     (first | rw [c32b0] | (simp only [i64_w, i32_w]; rw [c32b0]) | skip)
     have H' := Aside0.mk H
     clear H
     have hcz33_0 : wc.cell? ⟨gb203, 0, none⟩ = some (.int .i64 a0_0) := (blk_cell BK203.out 0).trans rfl
     have hcz33_1 : wc.cell? ⟨gb203, 1, none⟩ = some (.int .i64 a0_1) := (blk_cell BK203.out 1).trans rfl
     have hcz33_2 : wc.cell? ⟨gb203, 2, none⟩ = some (.int .i64 a0_2) := (blk_cell BK203.out 2).trans rfl
     have hcz33_3 : wc.cell? ⟨gb203, 3, none⟩ = some (.int .i64 a0_3) := (blk_cell BK203.out 3).trans rfl
     have hcz33_4 : wc.cell? ⟨gb203, 4, none⟩ = some (.int .i64 a0_4) := (blk_cell BK203.out 4).trans rfl
     have hcz33_5 : wc.cell? ⟨gb203, 5, none⟩ = some (.int .i64 a0_5) := (blk_cell BK203.out 5).trans rfl
     have hcz33_6 : wc.cell? ⟨gb203, 6, none⟩ = some (.string a0_6) := (blk_cell BK203.out 6).trans rfl
     have hcz33_7 : wc.cell? ⟨gb203, 7, none⟩ = some (.string a0_7) := (blk_cell BK203.out 7).trans rfl
     have hcz33_8 : wc.cell? ⟨gb203, 8, none⟩ = some (.string a0_8) := (blk_cell BK203.out 8).trans rfl
     have hcz33_9 : wc.cell? ⟨gb203, 9, none⟩ = some (.int .i64 a0_9) := (blk_cell BK203.out 9).trans rfl
     have hcz33_10 : wc.cell? ⟨gb203, 10, none⟩ = some (.int .i64 a0_10) := (blk_cell BK203.out 10).trans rfl
     have hcz33_11 : wc.cell? ⟨gb203, 11, none⟩ = some (.bool a0_11) := (blk_cell BK203.out 11).trans rfl
     have hcz33_12 : wc.cell? ⟨gb203, 12, none⟩ = some (.slice A0_12 l0_12.length c0_12) := (blk_cell BK203.out 12).trans rfl
     have hcz33_13 : wc.cell? ⟨gb203, 13, none⟩ = some (.slice A0_13 l0_13.length c0_13) := (blk_cell BK203.out 13).trans rfl
     have hfz33_0 := blk_frozen BK203.out 0
     have hfz33_1 := blk_frozen BK203.out 1
     have hfz33_2 := blk_frozen BK203.out 2
     have hfz33_3 := blk_frozen BK203.out 3
     have hfz33_4 := blk_frozen BK203.out 4
     have hfz33_5 := blk_frozen BK203.out 5
     have hfz33_6 := blk_frozen BK203.out 6
     have hfz33_7 := blk_frozen BK203.out 7
     have hfz33_8 := blk_frozen BK203.out 8
     have hfz33_9 := blk_frozen BK203.out 9
     have hfz33_10 := blk_frozen BK203.out 10
     have hfz33_11 := blk_frozen BK203.out 11
     have hfz33_12 := blk_frozen BK203.out 12
     have hfz33_13 := blk_frozen BK203.out 13
     go_wp2_with (first | ((with_reducible refine gate_callee (f := 54) rfl ?_); refine goesL_ (some 54) rfl rfl Try.func54 (by kernel_rfl) rfl #[.string a0_6] rfl qgspc_2 ?_; (with_reducible refine (attribute_IsName.calls kj21 a0_6 true _ A28.out).mono ?_); rintro e w' ⟨rfl, ⟨nd, rfl⟩⟩; refine ⟨_, rfl, ?_⟩) | (go_at_call 54; (with_reducible refine (attribute_IsName.calls kj21 a0_8 true _ A30.out).mono ?_); rintro e w' ⟨rfl, ⟨nd, rfl⟩⟩))
     go_meet
     case rel => exact ⟨_, (false), qgspc_3, H', ⟨qgspc_7⟩, ⟨qgspc_1⟩, ⟨qgspc_0⟩⟩
    rw [if_neg c32] at H
    have c32b0 : (a0_7.toList == ([] : List UInt8)) = false := beq_eq_false_iff_ne.mpr c32
    have c32b1 : (a0_7.toList != ([] : List UInt8)) = true := bne_iff_ne.mpr c32
    (first | rw [c32b0] | (simp only [i64_w, i32_w]; rw [c32b0]) | skip)
    replace H := Option.bind_eq_some_iff.mp H
    obtain ⟨t208, A340, H⟩ := H
    replace H : (span_Check.j2 kj21 (!t208) a0_0 a0_1 a0_2 a0_3 a0_4 a0_5 a0_6 a0_7 a0_8 a0_9 a0_10 a0_11 l0_12 l0_13) = some r := H
    have A34 := Aside0.mk A340
    clear A340
    have H' := Aside0.mk H
    clear H
    have hcz35_0 : wc.cell? ⟨gb203, 0, none⟩ = some (.int .i64 a0_0) := (blk_cell BK203.out 0).trans rfl
    have hcz35_1 : wc.cell? ⟨gb203, 1, none⟩ = some (.int .i64 a0_1) := (blk_cell BK203.out 1).trans rfl
    have hcz35_2 : wc.cell? ⟨gb203, 2, none⟩ = some (.int .i64 a0_2) := (blk_cell BK203.out 2).trans rfl
    have hcz35_3 : wc.cell? ⟨gb203, 3, none⟩ = some (.int .i64 a0_3) := (blk_cell BK203.out 3).trans rfl
    have hcz35_4 : wc.cell? ⟨gb203, 4, none⟩ = some (.int .i64 a0_4) := (blk_cell BK203.out 4).trans rfl
    have hcz35_5 : wc.cell? ⟨gb203, 5, none⟩ = some (.int .i64 a0_5) := (blk_cell BK203.out 5).trans rfl
    have hcz35_6 : wc.cell? ⟨gb203, 6, none⟩ = some (.string a0_6) := (blk_cell BK203.out 6).trans rfl
    have hcz35_7 : wc.cell? ⟨gb203, 7, none⟩ = some (.string a0_7) := (blk_cell BK203.out 7).trans rfl
    have hcz35_8 : wc.cell? ⟨gb203, 8, none⟩ = some (.string a0_8) := (blk_cell BK203.out 8).trans rfl
    have hcz35_9 : wc.cell? ⟨gb203, 9, none⟩ = some (.int .i64 a0_9) := (blk_cell BK203.out 9).trans rfl
    have hcz35_10 : wc.cell? ⟨gb203, 10, none⟩ = some (.int .i64 a0_10) := (blk_cell BK203.out 10).trans rfl
    have hcz35_11 : wc.cell? ⟨gb203, 11, none⟩ = some (.bool a0_11) := (blk_cell BK203.out 11).trans rfl
    have hcz35_12 : wc.cell? ⟨gb203, 12, none⟩ = some (.slice A0_12 l0_12.length c0_12) := (blk_cell BK203.out 12).trans rfl
    have hcz35_13 : wc.cell? ⟨gb203, 13, none⟩ = some (.slice A0_13 l0_13.length c0_13) := (blk_cell BK203.out 13).trans rfl
    have hfz35_0 := blk_frozen BK203.out 0
    have hfz35_1 := blk_frozen BK203.out 1
    have hfz35_2 := blk_frozen BK203.out 2
    have hfz35_3 := blk_frozen BK203.out 3
    have hfz35_4 := blk_frozen BK203.out 4
    have hfz35_5 := blk_frozen BK203.out 5
    have hfz35_6 := blk_frozen BK203.out 6
    have hfz35_7 := blk_frozen BK203.out 7
    have hfz35_8 := blk_frozen BK203.out 8
    have hfz35_9 := blk_frozen BK203.out 9
    have hfz35_10 := blk_frozen BK203.out 10
    have hfz35_11 := blk_frozen BK203.out 11
    have hfz35_12 := blk_frozen BK203.out 12
    have hfz35_13 := blk_frozen BK203.out 13
    go_wp2_with (first | ((with_reducible refine gate_callee (f := 54) rfl ?_); refine goesL_ (some 54) rfl rfl Try.func54 (by kernel_rfl) rfl #[.string a0_6] rfl qgspc_2 ?_; (with_reducible refine (attribute_IsName.calls kj21 a0_6 true _ A28.out).mono ?_); rintro e w' ⟨rfl, ⟨nd, rfl⟩⟩; refine ⟨_, rfl, ?_⟩) | (go_at_call 54; (with_reducible refine (attribute_IsName.calls kj21 a0_8 true _ A30.out).mono ?_); rintro e w' ⟨rfl, ⟨nd, rfl⟩⟩) | (go_at_call 54; (with_reducible refine (attribute_IsName.calls kj21 a0_7 t208 _ A34.out).mono ?_); rintro e w' ⟨rfl, ⟨nd, rfl⟩⟩))
    go_meet
    case rel => exact ⟨_, (!t208), qgspc_3, H', ⟨qgspc_7⟩, ⟨qgspc_1⟩, ⟨qgspc_0⟩⟩
   clear HC27
   try clear c1
   try clear c2
   try clear p2
   try clear c3
   try clear c5
   try clear c8
   try clear c10
   try clear c10b0
   try clear c12
   try clear c12b0
   try clear c14
   try clear c14b0
   try clear c16
   try clear c16b0
   try clear c18
   try clear c18b0
   try clear c21
   try clear c23
   try clear c23b0
   try clear c26
   try clear c29
   try clear c31
   try clear c32
   try clear c32b0
   try clear c32b1
   try clear hcz11_0
   try clear hcz11_1
   try clear hcz11_10
   try clear hcz11_11
   try clear hcz11_12
   try clear hcz11_13
   try clear hcz11_2
   try clear hcz11_3
   try clear hcz11_4
   try clear hcz11_5
   try clear hcz11_6
   try clear hcz11_7
   try clear hcz11_8
   try clear hcz11_9
   try clear hcz13_0
   try clear hcz13_1
   try clear hcz13_10
   try clear hcz13_11
   try clear hcz13_12
   try clear hcz13_13
   try clear hcz13_2
   try clear hcz13_3
   try clear hcz13_4
   try clear hcz13_5
   try clear hcz13_6
   try clear hcz13_7
   try clear hcz13_8
   try clear hcz13_9
   try clear hcz15_0
   try clear hcz15_1
   try clear hcz15_10
   try clear hcz15_11
   try clear hcz15_12
   try clear hcz15_13
   try clear hcz15_2
   try clear hcz15_3
   try clear hcz15_4
   try clear hcz15_5
   try clear hcz15_6
   try clear hcz15_7
   try clear hcz15_8
   try clear hcz15_9
   try clear hcz17_0
   try clear hcz17_1
   try clear hcz17_10
   try clear hcz17_11
   try clear hcz17_12
   try clear hcz17_13
   try clear hcz17_2
   try clear hcz17_3
   try clear hcz17_4
   try clear hcz17_5
   try clear hcz17_6
   try clear hcz17_7
   try clear hcz17_8
   try clear hcz17_9
   try clear hcz19_0
   try clear hcz19_1
   try clear hcz19_10
   try clear hcz19_11
   try clear hcz19_12
   try clear hcz19_13
   try clear hcz19_2
   try clear hcz19_3
   try clear hcz19_4
   try clear hcz19_5
   try clear hcz19_6
   try clear hcz19_7
   try clear hcz19_8
   try clear hcz19_9
   try clear hcz20_0
   try clear hcz20_1
   try clear hcz20_10
   try clear hcz20_11
   try clear hcz20_12
   try clear hcz20_13
   try clear hcz20_2
   try clear hcz20_3
   try clear hcz20_4
   try clear hcz20_5
   try clear hcz20_6
   try clear hcz20_7
   try clear hcz20_8
   try clear hcz20_9
   try clear hcz24_0
   try clear hcz24_1
   try clear hcz24_10
   try clear hcz24_11
   try clear hcz24_12
   try clear hcz24_13
   try clear hcz24_2
   try clear hcz24_3
   try clear hcz24_4
   try clear hcz24_5
   try clear hcz24_6
   try clear hcz24_7
   try clear hcz24_8
   try clear hcz24_9
   try clear hcz25_0
   try clear hcz25_1
   try clear hcz25_10
   try clear hcz25_11
   try clear hcz25_12
   try clear hcz25_13
   try clear hcz25_2
   try clear hcz25_3
   try clear hcz25_4
   try clear hcz25_5
   try clear hcz25_6
   try clear hcz25_7
   try clear hcz25_8
   try clear hcz25_9
   try clear hcz33_0
   try clear hcz33_1
   try clear hcz33_10
   try clear hcz33_11
   try clear hcz33_12
   try clear hcz33_13
   try clear hcz33_2
   try clear hcz33_3
   try clear hcz33_4
   try clear hcz33_5
   try clear hcz33_6
   try clear hcz33_7
   try clear hcz33_8
   try clear hcz33_9
   try clear hcz35_0
   try clear hcz35_1
   try clear hcz35_10
   try clear hcz35_11
   try clear hcz35_12
   try clear hcz35_13
   try clear hcz35_2
   try clear hcz35_3
   try clear hcz35_4
   try clear hcz35_5
   try clear hcz35_6
   try clear hcz35_7
   try clear hcz35_8
   try clear hcz35_9
   try clear hcz36_0
   try clear hcz36_1
   try clear hcz36_10
   try clear hcz36_11
   try clear hcz36_12
   try clear hcz36_13
   try clear hcz36_2
   try clear hcz36_3
   try clear hcz36_4
   try clear hcz36_5
   try clear hcz36_6
   try clear hcz36_7
   try clear hcz36_8
   try clear hcz36_9
   try clear hcz37_0
   try clear hcz37_1
   try clear hcz37_10
   try clear hcz37_11
   try clear hcz37_12
   try clear hcz37_13
   try clear hcz37_2
   try clear hcz37_3
   try clear hcz37_4
   try clear hcz37_5
   try clear hcz37_6
   try clear hcz37_7
   try clear hcz37_8
   try clear hcz37_9
   try clear hcz6_0
   try clear hcz6_1
   try clear hcz6_10
   try clear hcz6_11
   try clear hcz6_12
   try clear hcz6_13
   try clear hcz6_2
   try clear hcz6_3
   try clear hcz6_4
   try clear hcz6_5
   try clear hcz6_6
   try clear hcz6_7
   try clear hcz6_8
   try clear hcz6_9
   try clear hcz9_0
   try clear hcz9_1
   try clear hcz9_10
   try clear hcz9_11
   try clear hcz9_12
   try clear hcz9_13
   try clear hcz9_2
   try clear hcz9_3
   try clear hcz9_4
   try clear hcz9_5
   try clear hcz9_6
   try clear hcz9_7
   try clear hcz9_8
   try clear hcz9_9
   try clear hfz11_0
   try clear hfz11_1
   try clear hfz11_10
   try clear hfz11_11
   try clear hfz11_12
   try clear hfz11_13
   try clear hfz11_2
   try clear hfz11_3
   try clear hfz11_4
   try clear hfz11_5
   try clear hfz11_6
   try clear hfz11_7
   try clear hfz11_8
   try clear hfz11_9
   try clear hfz13_0
   try clear hfz13_1
   try clear hfz13_10
   try clear hfz13_11
   try clear hfz13_12
   try clear hfz13_13
   try clear hfz13_2
   try clear hfz13_3
   try clear hfz13_4
   try clear hfz13_5
   try clear hfz13_6
   try clear hfz13_7
   try clear hfz13_8
   try clear hfz13_9
   try clear hfz15_0
   try clear hfz15_1
   try clear hfz15_10
   try clear hfz15_11
   try clear hfz15_12
   try clear hfz15_13
   try clear hfz15_2
   try clear hfz15_3
   try clear hfz15_4
   try clear hfz15_5
   try clear hfz15_6
   try clear hfz15_7
   try clear hfz15_8
   try clear hfz15_9
   try clear hfz17_0
   try clear hfz17_1
   try clear hfz17_10
   try clear hfz17_11
   try clear hfz17_12
   try clear hfz17_13
   try clear hfz17_2
   try clear hfz17_3
   try clear hfz17_4
   try clear hfz17_5
   try clear hfz17_6
   try clear hfz17_7
   try clear hfz17_8
   try clear hfz17_9
   try clear hfz19_0
   try clear hfz19_1
   try clear hfz19_10
   try clear hfz19_11
   try clear hfz19_12
   try clear hfz19_13
   try clear hfz19_2
   try clear hfz19_3
   try clear hfz19_4
   try clear hfz19_5
   try clear hfz19_6
   try clear hfz19_7
   try clear hfz19_8
   try clear hfz19_9
   try clear hfz20_0
   try clear hfz20_1
   try clear hfz20_10
   try clear hfz20_11
   try clear hfz20_12
   try clear hfz20_13
   try clear hfz20_2
   try clear hfz20_3
   try clear hfz20_4
   try clear hfz20_5
   try clear hfz20_6
   try clear hfz20_7
   try clear hfz20_8
   try clear hfz20_9
   try clear hfz24_0
   try clear hfz24_1
   try clear hfz24_10
   try clear hfz24_11
   try clear hfz24_12
   try clear hfz24_13
   try clear hfz24_2
   try clear hfz24_3
   try clear hfz24_4
   try clear hfz24_5
   try clear hfz24_6
   try clear hfz24_7
   try clear hfz24_8
   try clear hfz24_9
   try clear hfz25_0
   try clear hfz25_1
   try clear hfz25_10
   try clear hfz25_11
   try clear hfz25_12
   try clear hfz25_13
   try clear hfz25_2
   try clear hfz25_3
   try clear hfz25_4
   try clear hfz25_5
   try clear hfz25_6
   try clear hfz25_7
   try clear hfz25_8
   try clear hfz25_9
   try clear hfz33_0
   try clear hfz33_1
   try clear hfz33_10
   try clear hfz33_11
   try clear hfz33_12
   try clear hfz33_13
   try clear hfz33_2
   try clear hfz33_3
   try clear hfz33_4
   try clear hfz33_5
   try clear hfz33_6
   try clear hfz33_7
   try clear hfz33_8
   try clear hfz33_9
   try clear hfz35_0
   try clear hfz35_1
   try clear hfz35_10
   try clear hfz35_11
   try clear hfz35_12
   try clear hfz35_13
   try clear hfz35_2
   try clear hfz35_3
   try clear hfz35_4
   try clear hfz35_5
   try clear hfz35_6
   try clear hfz35_7
   try clear hfz35_8
   try clear hfz35_9
   try clear hfz36_0
   try clear hfz36_1
   try clear hfz36_10
   try clear hfz36_11
   try clear hfz36_12
   try clear hfz36_13
   try clear hfz36_2
   try clear hfz36_3
   try clear hfz36_4
   try clear hfz36_5
   try clear hfz36_6
   try clear hfz36_7
   try clear hfz36_8
   try clear hfz36_9
   try clear hfz37_0
   try clear hfz37_1
   try clear hfz37_10
   try clear hfz37_11
   try clear hfz37_12
   try clear hfz37_13
   try clear hfz37_2
   try clear hfz37_3
   try clear hfz37_4
   try clear hfz37_5
   try clear hfz37_6
   try clear hfz37_7
   try clear hfz37_8
   try clear hfz37_9
   try clear hfz6_0
   try clear hfz6_1
   try clear hfz6_10
   try clear hfz6_11
   try clear hfz6_12
   try clear hfz6_13
   try clear hfz6_2
   try clear hfz6_3
   try clear hfz6_4
   try clear hfz6_5
   try clear hfz6_6
   try clear hfz6_7
   try clear hfz6_8
   try clear hfz6_9
   try clear hfz9_0
   try clear hfz9_1
   try clear hfz9_10
   try clear hfz9_11
   try clear hfz9_12
   try clear hfz9_13
   try clear hfz9_2
   try clear hfz9_3
   try clear hfz9_4
   try clear hfz9_5
   try clear hfz9_6
   try clear hfz9_7
   try clear hfz9_8
   try clear hfz9_9
   try clear p2
   obtain ⟨kq, x51_26, rfl, HA, HJ26, BK203, HB⟩ := hcut
   cases kq with
   | zero => exact absurd HA.out (by simp [span_Check.j2])
   | succ kj26 =>
    have H := HA.out
    clear HA
    simp only [span_Check.j2] at H
    by_cases c38 : x51_26 = true
    ·subst c38
     have H1 : (some 11) = some r := by rw [if_pos rfl] at H; exact H
     clear H
     have H := H1
     clear H1
     obtain rfl := Option.some.inj H
     go_wp2
     go_ret
     exact ⟨qgspc_4, qgspc_0⟩
    replace c38 := Bool.eq_false_iff.mpr c38
    subst c38
    have H1 : (if (mn a0_9 a0_10) < (-1099511627776) then (span_Check.j3 kj26 true a0_0 a0_1 a0_2 a0_3 a0_4 a0_5 a0_6 a0_7 a0_8 a0_9 a0_10 a0_11 l0_12 l0_13) else (span_Check.j3 kj26 (decide ((mx a0_9 a0_10) > 1099511627776)) a0_0 a0_1 a0_2 a0_3 a0_4 a0_5 a0_6 a0_7 a0_8 a0_9 a0_10 a0_11 l0_12 l0_13)) = some r := by rw [if_neg (show ¬ (false = true) by decide)] at H; exact H
    clear H
    have H := H1
    clear H1
    have HC39 := Aside0.mk H
    clear H
    go_upto_region 7 with (fail)
    go_cut [73] (fun v73 wc => ∃ (kq : Nat) (x73_38 : Bool), v73 = .bool x73_38 ∧ Aside0 (span_Check.j3 kq x73_38 a0_0 a0_1 a0_2 a0_3 a0_4 a0_5 a0_6 a0_7 a0_8 a0_9 a0_10 a0_11 l0_12 l0_13 = some r) ∧ Aside0 (kq ≤ kj26) ∧ Aside0 (wc.heap[gb203]? = some (.cells #[.int .i64 a0_0, .int .i64 a0_1, .int .i64 a0_2, .int .i64 a0_3, .int .i64 a0_4, .int .i64 a0_5, .string a0_6, .string a0_7, .string a0_8, .int .i64 a0_9, .int .i64 a0_10, .bool a0_11, (.slice A0_12 l0_12.length c0_12), (.slice A0_13 l0_13.length c0_13)] 58 (0, 0))) ∧ Aside0 (Below w.heap.size w wc))
    case first =>
     have H := HC39.out
     clear HC39
     obtain ⟨ji40, hji40⟩ : ∃ j_ : Int, (mn a0_9 a0_10) = j_ := ⟨_, rfl⟩
     replace H : (if (ji40) < (-1099511627776) then (span_Check.j3 kj26 true a0_0 a0_1 a0_2 a0_3 a0_4 a0_5 a0_6 a0_7 a0_8 a0_9 a0_10 a0_11 l0_12 l0_13) else (span_Check.j3 kj26 (decide ((mx a0_9 a0_10) > 1099511627776)) a0_0 a0_1 a0_2 a0_3 a0_4 a0_5 a0_6 a0_7 a0_8 a0_9 a0_10 a0_11 l0_12 l0_13)) = some r := by first | (rw [hji40] at H; exact H) | (simp only [hji40] at H ⊢; exact H)
     have hji40_ : (if a0_10 < a0_9 then a0_10 else a0_9) = ji40 := hji40
     by_cases c41 : (ji40) < (-1099511627776)
     ·rw [if_pos c41] at H
      have c41b0 : decide ((ji40) < (-1099511627776)) = true := decide_eq_true c41
      clear c41
      (first | rw [c41b0] | (simp only [i64_w, i32_w]; rw [c41b0]) | skip)
      have H' := Aside0.mk H
      clear H
      have hcz42_0 : wc.cell? ⟨gb203, 0, none⟩ = some (.int .i64 a0_0) := (blk_cell BK203.out 0).trans rfl
      have hcz42_1 : wc.cell? ⟨gb203, 1, none⟩ = some (.int .i64 a0_1) := (blk_cell BK203.out 1).trans rfl
      have hcz42_2 : wc.cell? ⟨gb203, 2, none⟩ = some (.int .i64 a0_2) := (blk_cell BK203.out 2).trans rfl
      have hcz42_3 : wc.cell? ⟨gb203, 3, none⟩ = some (.int .i64 a0_3) := (blk_cell BK203.out 3).trans rfl
      have hcz42_4 : wc.cell? ⟨gb203, 4, none⟩ = some (.int .i64 a0_4) := (blk_cell BK203.out 4).trans rfl
      have hcz42_5 : wc.cell? ⟨gb203, 5, none⟩ = some (.int .i64 a0_5) := (blk_cell BK203.out 5).trans rfl
      have hcz42_6 : wc.cell? ⟨gb203, 6, none⟩ = some (.string a0_6) := (blk_cell BK203.out 6).trans rfl
      have hcz42_7 : wc.cell? ⟨gb203, 7, none⟩ = some (.string a0_7) := (blk_cell BK203.out 7).trans rfl
      have hcz42_8 : wc.cell? ⟨gb203, 8, none⟩ = some (.string a0_8) := (blk_cell BK203.out 8).trans rfl
      have hcz42_9 : wc.cell? ⟨gb203, 9, none⟩ = some (.int .i64 a0_9) := (blk_cell BK203.out 9).trans rfl
      have hcz42_10 : wc.cell? ⟨gb203, 10, none⟩ = some (.int .i64 a0_10) := (blk_cell BK203.out 10).trans rfl
      have hcz42_11 : wc.cell? ⟨gb203, 11, none⟩ = some (.bool a0_11) := (blk_cell BK203.out 11).trans rfl
      have hcz42_12 : wc.cell? ⟨gb203, 12, none⟩ = some (.slice A0_12 l0_12.length c0_12) := (blk_cell BK203.out 12).trans rfl
      have hcz42_13 : wc.cell? ⟨gb203, 13, none⟩ = some (.slice A0_13 l0_13.length c0_13) := (blk_cell BK203.out 13).trans rfl
      have hfz42_0 := blk_frozen BK203.out 0
      have hfz42_1 := blk_frozen BK203.out 1
      have hfz42_2 := blk_frozen BK203.out 2
      have hfz42_3 := blk_frozen BK203.out 3
      have hfz42_4 := blk_frozen BK203.out 4
      have hfz42_5 := blk_frozen BK203.out 5
      have hfz42_6 := blk_frozen BK203.out 6
      have hfz42_7 := blk_frozen BK203.out 7
      have hfz42_8 := blk_frozen BK203.out 8
      have hfz42_9 := blk_frozen BK203.out 9
      have hfz42_10 := blk_frozen BK203.out 10
      have hfz42_11 := blk_frozen BK203.out 11
      have hfz42_12 := blk_frozen BK203.out 12
      have hfz42_13 := blk_frozen BK203.out 13
      go_wp2
      go_meet
      case rel => exact ⟨_, (true), qgspc_3, H', ⟨by have := HJ1.out; have := HJ21.out; have := HJ26.out; first | omega | exact Nat.le_refl _⟩, ⟨qgspc_1⟩, ⟨qgspc_0⟩⟩
     rw [if_neg c41] at H
     have c41b0 : decide ((ji40) < (-1099511627776)) = false := decide_eq_false c41
     clear c41
     (first | rw [c41b0] | (simp only [i64_w, i32_w]; rw [c41b0]) | skip)
     obtain ⟨ji43, hji43⟩ : ∃ j_ : Int, (mx a0_9 a0_10) = j_ := ⟨_, rfl⟩
     replace H : (span_Check.j3 kj26 (decide ((ji43) > 1099511627776)) a0_0 a0_1 a0_2 a0_3 a0_4 a0_5 a0_6 a0_7 a0_8 a0_9 a0_10 a0_11 l0_12 l0_13) = some r := by first | (rw [hji43] at H; exact H) | (simp only [hji43] at H ⊢; exact H)
     have hji43_ : (if a0_9 < a0_10 then a0_10 else a0_9) = ji43 := hji43
     have H' := Aside0.mk H
     clear H
     have hcz44_0 : wc.cell? ⟨gb203, 0, none⟩ = some (.int .i64 a0_0) := (blk_cell BK203.out 0).trans rfl
     have hcz44_1 : wc.cell? ⟨gb203, 1, none⟩ = some (.int .i64 a0_1) := (blk_cell BK203.out 1).trans rfl
     have hcz44_2 : wc.cell? ⟨gb203, 2, none⟩ = some (.int .i64 a0_2) := (blk_cell BK203.out 2).trans rfl
     have hcz44_3 : wc.cell? ⟨gb203, 3, none⟩ = some (.int .i64 a0_3) := (blk_cell BK203.out 3).trans rfl
     have hcz44_4 : wc.cell? ⟨gb203, 4, none⟩ = some (.int .i64 a0_4) := (blk_cell BK203.out 4).trans rfl
     have hcz44_5 : wc.cell? ⟨gb203, 5, none⟩ = some (.int .i64 a0_5) := (blk_cell BK203.out 5).trans rfl
     have hcz44_6 : wc.cell? ⟨gb203, 6, none⟩ = some (.string a0_6) := (blk_cell BK203.out 6).trans rfl
     have hcz44_7 : wc.cell? ⟨gb203, 7, none⟩ = some (.string a0_7) := (blk_cell BK203.out 7).trans rfl
     have hcz44_8 : wc.cell? ⟨gb203, 8, none⟩ = some (.string a0_8) := (blk_cell BK203.out 8).trans rfl
     have hcz44_9 : wc.cell? ⟨gb203, 9, none⟩ = some (.int .i64 a0_9) := (blk_cell BK203.out 9).trans rfl
     have hcz44_10 : wc.cell? ⟨gb203, 10, none⟩ = some (.int .i64 a0_10) := (blk_cell BK203.out 10).trans rfl
     have hcz44_11 : wc.cell? ⟨gb203, 11, none⟩ = some (.bool a0_11) := (blk_cell BK203.out 11).trans rfl
     have hcz44_12 : wc.cell? ⟨gb203, 12, none⟩ = some (.slice A0_12 l0_12.length c0_12) := (blk_cell BK203.out 12).trans rfl
     have hcz44_13 : wc.cell? ⟨gb203, 13, none⟩ = some (.slice A0_13 l0_13.length c0_13) := (blk_cell BK203.out 13).trans rfl
     have hfz44_0 := blk_frozen BK203.out 0
     have hfz44_1 := blk_frozen BK203.out 1
     have hfz44_2 := blk_frozen BK203.out 2
     have hfz44_3 := blk_frozen BK203.out 3
     have hfz44_4 := blk_frozen BK203.out 4
     have hfz44_5 := blk_frozen BK203.out 5
     have hfz44_6 := blk_frozen BK203.out 6
     have hfz44_7 := blk_frozen BK203.out 7
     have hfz44_8 := blk_frozen BK203.out 8
     have hfz44_9 := blk_frozen BK203.out 9
     have hfz44_10 := blk_frozen BK203.out 10
     have hfz44_11 := blk_frozen BK203.out 11
     have hfz44_12 := blk_frozen BK203.out 12
     have hfz44_13 := blk_frozen BK203.out 13
     go_wp2
     go_meet
     case rel => exact ⟨_, (decide ((ji43) > 1099511627776)), (by first | rfl | (simp; done) | (simp only [← hji43] <;> (first | rfl | simp)) | (simp [*]; done)), H', ⟨by have := HJ1.out; have := HJ21.out; have := HJ26.out; first | omega | exact Nat.le_refl _⟩, ⟨qgspc_1⟩, ⟨qgspc_0⟩⟩
    clear HC39
    try clear c1
    try clear c2
    try clear p2
    try clear c3
    try clear c4
    try clear c5
    try clear c8
    try clear c10
    try clear c10b0
    try clear c12
    try clear c12b0
    try clear c14
    try clear c14b0
    try clear c16
    try clear c16b0
    try clear c18
    try clear c18b0
    try clear c21
    try clear c23
    try clear c23b0
    try clear c26
    try clear c29
    try clear c31
    try clear c32
    try clear c32b0
    try clear c32b1
    try clear c38
    try clear c41
    try clear c41b0
    try clear hcz11_0
    try clear hcz11_1
    try clear hcz11_10
    try clear hcz11_11
    try clear hcz11_12
    try clear hcz11_13
    try clear hcz11_2
    try clear hcz11_3
    try clear hcz11_4
    try clear hcz11_5
    try clear hcz11_6
    try clear hcz11_7
    try clear hcz11_8
    try clear hcz11_9
    try clear hcz13_0
    try clear hcz13_1
    try clear hcz13_10
    try clear hcz13_11
    try clear hcz13_12
    try clear hcz13_13
    try clear hcz13_2
    try clear hcz13_3
    try clear hcz13_4
    try clear hcz13_5
    try clear hcz13_6
    try clear hcz13_7
    try clear hcz13_8
    try clear hcz13_9
    try clear hcz15_0
    try clear hcz15_1
    try clear hcz15_10
    try clear hcz15_11
    try clear hcz15_12
    try clear hcz15_13
    try clear hcz15_2
    try clear hcz15_3
    try clear hcz15_4
    try clear hcz15_5
    try clear hcz15_6
    try clear hcz15_7
    try clear hcz15_8
    try clear hcz15_9
    try clear hcz17_0
    try clear hcz17_1
    try clear hcz17_10
    try clear hcz17_11
    try clear hcz17_12
    try clear hcz17_13
    try clear hcz17_2
    try clear hcz17_3
    try clear hcz17_4
    try clear hcz17_5
    try clear hcz17_6
    try clear hcz17_7
    try clear hcz17_8
    try clear hcz17_9
    try clear hcz19_0
    try clear hcz19_1
    try clear hcz19_10
    try clear hcz19_11
    try clear hcz19_12
    try clear hcz19_13
    try clear hcz19_2
    try clear hcz19_3
    try clear hcz19_4
    try clear hcz19_5
    try clear hcz19_6
    try clear hcz19_7
    try clear hcz19_8
    try clear hcz19_9
    try clear hcz20_0
    try clear hcz20_1
    try clear hcz20_10
    try clear hcz20_11
    try clear hcz20_12
    try clear hcz20_13
    try clear hcz20_2
    try clear hcz20_3
    try clear hcz20_4
    try clear hcz20_5
    try clear hcz20_6
    try clear hcz20_7
    try clear hcz20_8
    try clear hcz20_9
    try clear hcz24_0
    try clear hcz24_1
    try clear hcz24_10
    try clear hcz24_11
    try clear hcz24_12
    try clear hcz24_13
    try clear hcz24_2
    try clear hcz24_3
    try clear hcz24_4
    try clear hcz24_5
    try clear hcz24_6
    try clear hcz24_7
    try clear hcz24_8
    try clear hcz24_9
    try clear hcz25_0
    try clear hcz25_1
    try clear hcz25_10
    try clear hcz25_11
    try clear hcz25_12
    try clear hcz25_13
    try clear hcz25_2
    try clear hcz25_3
    try clear hcz25_4
    try clear hcz25_5
    try clear hcz25_6
    try clear hcz25_7
    try clear hcz25_8
    try clear hcz25_9
    try clear hcz33_0
    try clear hcz33_1
    try clear hcz33_10
    try clear hcz33_11
    try clear hcz33_12
    try clear hcz33_13
    try clear hcz33_2
    try clear hcz33_3
    try clear hcz33_4
    try clear hcz33_5
    try clear hcz33_6
    try clear hcz33_7
    try clear hcz33_8
    try clear hcz33_9
    try clear hcz35_0
    try clear hcz35_1
    try clear hcz35_10
    try clear hcz35_11
    try clear hcz35_12
    try clear hcz35_13
    try clear hcz35_2
    try clear hcz35_3
    try clear hcz35_4
    try clear hcz35_5
    try clear hcz35_6
    try clear hcz35_7
    try clear hcz35_8
    try clear hcz35_9
    try clear hcz36_0
    try clear hcz36_1
    try clear hcz36_10
    try clear hcz36_11
    try clear hcz36_12
    try clear hcz36_13
    try clear hcz36_2
    try clear hcz36_3
    try clear hcz36_4
    try clear hcz36_5
    try clear hcz36_6
    try clear hcz36_7
    try clear hcz36_8
    try clear hcz36_9
    try clear hcz37_0
    try clear hcz37_1
    try clear hcz37_10
    try clear hcz37_11
    try clear hcz37_12
    try clear hcz37_13
    try clear hcz37_2
    try clear hcz37_3
    try clear hcz37_4
    try clear hcz37_5
    try clear hcz37_6
    try clear hcz37_7
    try clear hcz37_8
    try clear hcz37_9
    try clear hcz42_0
    try clear hcz42_1
    try clear hcz42_10
    try clear hcz42_11
    try clear hcz42_12
    try clear hcz42_13
    try clear hcz42_2
    try clear hcz42_3
    try clear hcz42_4
    try clear hcz42_5
    try clear hcz42_6
    try clear hcz42_7
    try clear hcz42_8
    try clear hcz42_9
    try clear hcz44_0
    try clear hcz44_1
    try clear hcz44_10
    try clear hcz44_11
    try clear hcz44_12
    try clear hcz44_13
    try clear hcz44_2
    try clear hcz44_3
    try clear hcz44_4
    try clear hcz44_5
    try clear hcz44_6
    try clear hcz44_7
    try clear hcz44_8
    try clear hcz44_9
    try clear hcz6_0
    try clear hcz6_1
    try clear hcz6_10
    try clear hcz6_11
    try clear hcz6_12
    try clear hcz6_13
    try clear hcz6_2
    try clear hcz6_3
    try clear hcz6_4
    try clear hcz6_5
    try clear hcz6_6
    try clear hcz6_7
    try clear hcz6_8
    try clear hcz6_9
    try clear hcz9_0
    try clear hcz9_1
    try clear hcz9_10
    try clear hcz9_11
    try clear hcz9_12
    try clear hcz9_13
    try clear hcz9_2
    try clear hcz9_3
    try clear hcz9_4
    try clear hcz9_5
    try clear hcz9_6
    try clear hcz9_7
    try clear hcz9_8
    try clear hcz9_9
    try clear hfz11_0
    try clear hfz11_1
    try clear hfz11_10
    try clear hfz11_11
    try clear hfz11_12
    try clear hfz11_13
    try clear hfz11_2
    try clear hfz11_3
    try clear hfz11_4
    try clear hfz11_5
    try clear hfz11_6
    try clear hfz11_7
    try clear hfz11_8
    try clear hfz11_9
    try clear hfz13_0
    try clear hfz13_1
    try clear hfz13_10
    try clear hfz13_11
    try clear hfz13_12
    try clear hfz13_13
    try clear hfz13_2
    try clear hfz13_3
    try clear hfz13_4
    try clear hfz13_5
    try clear hfz13_6
    try clear hfz13_7
    try clear hfz13_8
    try clear hfz13_9
    try clear hfz15_0
    try clear hfz15_1
    try clear hfz15_10
    try clear hfz15_11
    try clear hfz15_12
    try clear hfz15_13
    try clear hfz15_2
    try clear hfz15_3
    try clear hfz15_4
    try clear hfz15_5
    try clear hfz15_6
    try clear hfz15_7
    try clear hfz15_8
    try clear hfz15_9
    try clear hfz17_0
    try clear hfz17_1
    try clear hfz17_10
    try clear hfz17_11
    try clear hfz17_12
    try clear hfz17_13
    try clear hfz17_2
    try clear hfz17_3
    try clear hfz17_4
    try clear hfz17_5
    try clear hfz17_6
    try clear hfz17_7
    try clear hfz17_8
    try clear hfz17_9
    try clear hfz19_0
    try clear hfz19_1
    try clear hfz19_10
    try clear hfz19_11
    try clear hfz19_12
    try clear hfz19_13
    try clear hfz19_2
    try clear hfz19_3
    try clear hfz19_4
    try clear hfz19_5
    try clear hfz19_6
    try clear hfz19_7
    try clear hfz19_8
    try clear hfz19_9
    try clear hfz20_0
    try clear hfz20_1
    try clear hfz20_10
    try clear hfz20_11
    try clear hfz20_12
    try clear hfz20_13
    try clear hfz20_2
    try clear hfz20_3
    try clear hfz20_4
    try clear hfz20_5
    try clear hfz20_6
    try clear hfz20_7
    try clear hfz20_8
    try clear hfz20_9
    try clear hfz24_0
    try clear hfz24_1
    try clear hfz24_10
    try clear hfz24_11
    try clear hfz24_12
    try clear hfz24_13
    try clear hfz24_2
    try clear hfz24_3
    try clear hfz24_4
    try clear hfz24_5
    try clear hfz24_6
    try clear hfz24_7
    try clear hfz24_8
    try clear hfz24_9
    try clear hfz25_0
    try clear hfz25_1
    try clear hfz25_10
    try clear hfz25_11
    try clear hfz25_12
    try clear hfz25_13
    try clear hfz25_2
    try clear hfz25_3
    try clear hfz25_4
    try clear hfz25_5
    try clear hfz25_6
    try clear hfz25_7
    try clear hfz25_8
    try clear hfz25_9
    try clear hfz33_0
    try clear hfz33_1
    try clear hfz33_10
    try clear hfz33_11
    try clear hfz33_12
    try clear hfz33_13
    try clear hfz33_2
    try clear hfz33_3
    try clear hfz33_4
    try clear hfz33_5
    try clear hfz33_6
    try clear hfz33_7
    try clear hfz33_8
    try clear hfz33_9
    try clear hfz35_0
    try clear hfz35_1
    try clear hfz35_10
    try clear hfz35_11
    try clear hfz35_12
    try clear hfz35_13
    try clear hfz35_2
    try clear hfz35_3
    try clear hfz35_4
    try clear hfz35_5
    try clear hfz35_6
    try clear hfz35_7
    try clear hfz35_8
    try clear hfz35_9
    try clear hfz36_0
    try clear hfz36_1
    try clear hfz36_10
    try clear hfz36_11
    try clear hfz36_12
    try clear hfz36_13
    try clear hfz36_2
    try clear hfz36_3
    try clear hfz36_4
    try clear hfz36_5
    try clear hfz36_6
    try clear hfz36_7
    try clear hfz36_8
    try clear hfz36_9
    try clear hfz37_0
    try clear hfz37_1
    try clear hfz37_10
    try clear hfz37_11
    try clear hfz37_12
    try clear hfz37_13
    try clear hfz37_2
    try clear hfz37_3
    try clear hfz37_4
    try clear hfz37_5
    try clear hfz37_6
    try clear hfz37_7
    try clear hfz37_8
    try clear hfz37_9
    try clear hfz42_0
    try clear hfz42_1
    try clear hfz42_10
    try clear hfz42_11
    try clear hfz42_12
    try clear hfz42_13
    try clear hfz42_2
    try clear hfz42_3
    try clear hfz42_4
    try clear hfz42_5
    try clear hfz42_6
    try clear hfz42_7
    try clear hfz42_8
    try clear hfz42_9
    try clear hfz44_0
    try clear hfz44_1
    try clear hfz44_10
    try clear hfz44_11
    try clear hfz44_12
    try clear hfz44_13
    try clear hfz44_2
    try clear hfz44_3
    try clear hfz44_4
    try clear hfz44_5
    try clear hfz44_6
    try clear hfz44_7
    try clear hfz44_8
    try clear hfz44_9
    try clear hfz6_0
    try clear hfz6_1
    try clear hfz6_10
    try clear hfz6_11
    try clear hfz6_12
    try clear hfz6_13
    try clear hfz6_2
    try clear hfz6_3
    try clear hfz6_4
    try clear hfz6_5
    try clear hfz6_6
    try clear hfz6_7
    try clear hfz6_8
    try clear hfz6_9
    try clear hfz9_0
    try clear hfz9_1
    try clear hfz9_10
    try clear hfz9_11
    try clear hfz9_12
    try clear hfz9_13
    try clear hfz9_2
    try clear hfz9_3
    try clear hfz9_4
    try clear hfz9_5
    try clear hfz9_6
    try clear hfz9_7
    try clear hfz9_8
    try clear hfz9_9
    try clear p2
    obtain ⟨kq, x73_38, rfl, HA, HJ38, BK203, HB⟩ := hcut
    cases kq with
    | zero => exact absurd HA.out (by simp [span_Check.j3])
    | succ kj38 =>
     have H := HA.out
     clear HA
     simp only [span_Check.j3] at H
     by_cases c45 : x73_38 = true
     ·subst c45
      have H1 : (some 32) = some r := by rw [if_pos rfl] at H; exact H
      clear H
      have H := H1
      clear H1
      obtain rfl := Option.some.inj H
      go_wp2
      go_ret
      exact ⟨qgspc_4, qgspc_0⟩
     replace c45 := Bool.eq_false_iff.mpr c45
     subst c45
     have H1 : (if a0_10 < a0_9 then (some 8) else (if (wrap64 (a0_10 - a0_9)) > 1099511627776 then (some 32) else ((attribute_CheckAttrs.f kj38 l0_12).bind fun t209 => ((span_checkLinks.f kj38 l0_13).bind fun t210 => ((api_Errno.f kj38 (([t209, t210] : List Int))).bind fun t214 => (some t214)))))) = some r := by rw [if_neg (show ¬ (false = true) by decide)] at H; exact H
     clear H
     have H := H1
     clear H1
     by_cases c46 : a0_10 < a0_9
     ·rw [if_pos c46] at H
      have c46b0 : decide (a0_10 < a0_9) = true := decide_eq_true c46
      clear c46
      obtain rfl := Option.some.inj H
      have hcz47_0 : wc.cell? ⟨gb203, 0, none⟩ = some (.int .i64 a0_0) := (blk_cell BK203.out 0).trans rfl
      have hcz47_1 : wc.cell? ⟨gb203, 1, none⟩ = some (.int .i64 a0_1) := (blk_cell BK203.out 1).trans rfl
      have hcz47_2 : wc.cell? ⟨gb203, 2, none⟩ = some (.int .i64 a0_2) := (blk_cell BK203.out 2).trans rfl
      have hcz47_3 : wc.cell? ⟨gb203, 3, none⟩ = some (.int .i64 a0_3) := (blk_cell BK203.out 3).trans rfl
      have hcz47_4 : wc.cell? ⟨gb203, 4, none⟩ = some (.int .i64 a0_4) := (blk_cell BK203.out 4).trans rfl
      have hcz47_5 : wc.cell? ⟨gb203, 5, none⟩ = some (.int .i64 a0_5) := (blk_cell BK203.out 5).trans rfl
      have hcz47_6 : wc.cell? ⟨gb203, 6, none⟩ = some (.string a0_6) := (blk_cell BK203.out 6).trans rfl
      have hcz47_7 : wc.cell? ⟨gb203, 7, none⟩ = some (.string a0_7) := (blk_cell BK203.out 7).trans rfl
      have hcz47_8 : wc.cell? ⟨gb203, 8, none⟩ = some (.string a0_8) := (blk_cell BK203.out 8).trans rfl
      have hcz47_9 : wc.cell? ⟨gb203, 9, none⟩ = some (.int .i64 a0_9) := (blk_cell BK203.out 9).trans rfl
      have hcz47_10 : wc.cell? ⟨gb203, 10, none⟩ = some (.int .i64 a0_10) := (blk_cell BK203.out 10).trans rfl
      have hcz47_11 : wc.cell? ⟨gb203, 11, none⟩ = some (.bool a0_11) := (blk_cell BK203.out 11).trans rfl
      have hcz47_12 : wc.cell? ⟨gb203, 12, none⟩ = some (.slice A0_12 l0_12.length c0_12) := (blk_cell BK203.out 12).trans rfl
      have hcz47_13 : wc.cell? ⟨gb203, 13, none⟩ = some (.slice A0_13 l0_13.length c0_13) := (blk_cell BK203.out 13).trans rfl
      have hfz47_0 := blk_frozen BK203.out 0
      have hfz47_1 := blk_frozen BK203.out 1
      have hfz47_2 := blk_frozen BK203.out 2
      have hfz47_3 := blk_frozen BK203.out 3
      have hfz47_4 := blk_frozen BK203.out 4
      have hfz47_5 := blk_frozen BK203.out 5
      have hfz47_6 := blk_frozen BK203.out 6
      have hfz47_7 := blk_frozen BK203.out 7
      have hfz47_8 := blk_frozen BK203.out 8
      have hfz47_9 := blk_frozen BK203.out 9
      have hfz47_10 := blk_frozen BK203.out 10
      have hfz47_11 := blk_frozen BK203.out 11
      have hfz47_12 := blk_frozen BK203.out 12
      have hfz47_13 := blk_frozen BK203.out 13
      go_wp2
      go_ret
      exact ⟨qgspc_4, qgspc_0⟩
     rw [if_neg c46] at H
     have c46b0 : decide (a0_10 < a0_9) = false := decide_eq_false c46
     clear c46
     by_cases c48 : (wrap64 (a0_10 - a0_9)) > 1099511627776
     ·rw [if_pos c48] at H
      have c48b0 : decide (1099511627776 < (wrap64 (a0_10 - a0_9))) = true := decide_eq_true c48
      clear c48
      obtain rfl := Option.some.inj H
      have hcz49_0 : wc.cell? ⟨gb203, 0, none⟩ = some (.int .i64 a0_0) := (blk_cell BK203.out 0).trans rfl
      have hcz49_1 : wc.cell? ⟨gb203, 1, none⟩ = some (.int .i64 a0_1) := (blk_cell BK203.out 1).trans rfl
      have hcz49_2 : wc.cell? ⟨gb203, 2, none⟩ = some (.int .i64 a0_2) := (blk_cell BK203.out 2).trans rfl
      have hcz49_3 : wc.cell? ⟨gb203, 3, none⟩ = some (.int .i64 a0_3) := (blk_cell BK203.out 3).trans rfl
      have hcz49_4 : wc.cell? ⟨gb203, 4, none⟩ = some (.int .i64 a0_4) := (blk_cell BK203.out 4).trans rfl
      have hcz49_5 : wc.cell? ⟨gb203, 5, none⟩ = some (.int .i64 a0_5) := (blk_cell BK203.out 5).trans rfl
      have hcz49_6 : wc.cell? ⟨gb203, 6, none⟩ = some (.string a0_6) := (blk_cell BK203.out 6).trans rfl
      have hcz49_7 : wc.cell? ⟨gb203, 7, none⟩ = some (.string a0_7) := (blk_cell BK203.out 7).trans rfl
      have hcz49_8 : wc.cell? ⟨gb203, 8, none⟩ = some (.string a0_8) := (blk_cell BK203.out 8).trans rfl
      have hcz49_9 : wc.cell? ⟨gb203, 9, none⟩ = some (.int .i64 a0_9) := (blk_cell BK203.out 9).trans rfl
      have hcz49_10 : wc.cell? ⟨gb203, 10, none⟩ = some (.int .i64 a0_10) := (blk_cell BK203.out 10).trans rfl
      have hcz49_11 : wc.cell? ⟨gb203, 11, none⟩ = some (.bool a0_11) := (blk_cell BK203.out 11).trans rfl
      have hcz49_12 : wc.cell? ⟨gb203, 12, none⟩ = some (.slice A0_12 l0_12.length c0_12) := (blk_cell BK203.out 12).trans rfl
      have hcz49_13 : wc.cell? ⟨gb203, 13, none⟩ = some (.slice A0_13 l0_13.length c0_13) := (blk_cell BK203.out 13).trans rfl
      have hfz49_0 := blk_frozen BK203.out 0
      have hfz49_1 := blk_frozen BK203.out 1
      have hfz49_2 := blk_frozen BK203.out 2
      have hfz49_3 := blk_frozen BK203.out 3
      have hfz49_4 := blk_frozen BK203.out 4
      have hfz49_5 := blk_frozen BK203.out 5
      have hfz49_6 := blk_frozen BK203.out 6
      have hfz49_7 := blk_frozen BK203.out 7
      have hfz49_8 := blk_frozen BK203.out 8
      have hfz49_9 := blk_frozen BK203.out 9
      have hfz49_10 := blk_frozen BK203.out 10
      have hfz49_11 := blk_frozen BK203.out 11
      have hfz49_12 := blk_frozen BK203.out 12
      have hfz49_13 := blk_frozen BK203.out 13
      go_wp2
      go_ret
      exact ⟨qgspc_4, qgspc_0⟩
     rw [if_neg c48] at H
     have c48b0 : decide (1099511627776 < (wrap64 (a0_10 - a0_9))) = false := decide_eq_false c48
     clear c48
     replace H := Option.bind_eq_some_iff.mp H
     obtain ⟨t209, A500, H⟩ := H
     replace H : ((span_checkLinks.f kj38 l0_13).bind fun t210 => ((api_Errno.f kj38 (([t209, t210] : List Int))).bind fun t214 => (some t214))) = some r := H
     have A50 := Aside0.mk A500
     clear A500
     replace H := Option.bind_eq_some_iff.mp H
     obtain ⟨t210, A510, H⟩ := H
     replace H : ((api_Errno.f kj38 (([t209, t210] : List Int))).bind fun t214 => (some t214)) = some r := H
     have A51 := Aside0.mk A510
     clear A510
     obtain ⟨y211, hy211⟩ : ∃ y_ : List Int, y_ = (([t209, t210] : List Int)) := ⟨_, rfl⟩
     replace H : ((api_Errno.f kj38 y211).bind fun t214 => (some t214)) = some r := by first | (rw [hy211]; with_reducible exact H) | (have H2_ := (Option.bind_some _ _).symm.trans H; rw [hy211]; with_reducible exact H2_) | (have H2_ := (Option.bind_some _ _).symm.trans H; with_reducible exact H2_) | with_reducible exact H | (rw [hy211]; exact H) | exact H
     have Ny211 := Aside0.mk hy211
     clear hy211
     replace H := Option.bind_eq_some_iff.mp H
     obtain ⟨t214, A520, H⟩ := H
     replace H : (some t214) = some r := H
     have A52 := Aside0.mk A520
     clear A520
     obtain rfl := Option.some.inj H
     have hcz53_0 : wc.cell? ⟨gb203, 0, none⟩ = some (.int .i64 a0_0) := (blk_cell BK203.out 0).trans rfl
     have hcz53_1 : wc.cell? ⟨gb203, 1, none⟩ = some (.int .i64 a0_1) := (blk_cell BK203.out 1).trans rfl
     have hcz53_2 : wc.cell? ⟨gb203, 2, none⟩ = some (.int .i64 a0_2) := (blk_cell BK203.out 2).trans rfl
     have hcz53_3 : wc.cell? ⟨gb203, 3, none⟩ = some (.int .i64 a0_3) := (blk_cell BK203.out 3).trans rfl
     have hcz53_4 : wc.cell? ⟨gb203, 4, none⟩ = some (.int .i64 a0_4) := (blk_cell BK203.out 4).trans rfl
     have hcz53_5 : wc.cell? ⟨gb203, 5, none⟩ = some (.int .i64 a0_5) := (blk_cell BK203.out 5).trans rfl
     have hcz53_6 : wc.cell? ⟨gb203, 6, none⟩ = some (.string a0_6) := (blk_cell BK203.out 6).trans rfl
     have hcz53_7 : wc.cell? ⟨gb203, 7, none⟩ = some (.string a0_7) := (blk_cell BK203.out 7).trans rfl
     have hcz53_8 : wc.cell? ⟨gb203, 8, none⟩ = some (.string a0_8) := (blk_cell BK203.out 8).trans rfl
     have hcz53_9 : wc.cell? ⟨gb203, 9, none⟩ = some (.int .i64 a0_9) := (blk_cell BK203.out 9).trans rfl
     have hcz53_10 : wc.cell? ⟨gb203, 10, none⟩ = some (.int .i64 a0_10) := (blk_cell BK203.out 10).trans rfl
     have hcz53_11 : wc.cell? ⟨gb203, 11, none⟩ = some (.bool a0_11) := (blk_cell BK203.out 11).trans rfl
     have hcz53_12 : wc.cell? ⟨gb203, 12, none⟩ = some (.slice A0_12 l0_12.length c0_12) := (blk_cell BK203.out 12).trans rfl
     have hcz53_13 : wc.cell? ⟨gb203, 13, none⟩ = some (.slice A0_13 l0_13.length c0_13) := (blk_cell BK203.out 13).trans rfl
     have hfz53_0 := blk_frozen BK203.out 0
     have hfz53_1 := blk_frozen BK203.out 1
     have hfz53_2 := blk_frozen BK203.out 2
     have hfz53_3 := blk_frozen BK203.out 3
     have hfz53_4 := blk_frozen BK203.out 4
     have hfz53_5 := blk_frozen BK203.out 5
     have hfz53_6 := blk_frozen BK203.out 6
     have hfz53_7 := blk_frozen BK203.out 7
     have hfz53_8 := blk_frozen BK203.out 8
     have hfz53_9 := blk_frozen BK203.out 9
     have hfz53_10 := blk_frozen BK203.out 10
     have hfz53_11 := blk_frozen BK203.out 11
     have hfz53_12 := blk_frozen BK203.out 12
     have hfz53_13 := blk_frozen BK203.out 13
     try go_wp2
     have n0_ := Aside0.mk (blk_drew BK203.out)
     have n1_ := Aside0.mk (below_drew1 HB.out)
     clear BK203
     clear HB
     have BK203 := n0_
     have HB := n1_
     clear n0_ n1_
     refine start_ (n := 9) (S := fun w' => w'.cell? ⟨gb203, 0, none⟩ = some (.int .i64 a0_0) ∧ w'.cell? ⟨gb203, 1, none⟩ = some (.int .i64 a0_1) ∧ w'.cell? ⟨gb203, 2, none⟩ = some (.int .i64 a0_2) ∧ w'.cell? ⟨gb203, 3, none⟩ = some (.int .i64 a0_3) ∧ w'.cell? ⟨gb203, 4, none⟩ = some (.int .i64 a0_4) ∧ w'.cell? ⟨gb203, 5, none⟩ = some (.int .i64 a0_5) ∧ w'.cell? ⟨gb203, 6, none⟩ = some (.string a0_6) ∧ w'.cell? ⟨gb203, 7, none⟩ = some (.string a0_7) ∧ w'.cell? ⟨gb203, 8, none⟩ = some (.string a0_8) ∧ w'.cell? ⟨gb203, 9, none⟩ = some (.int .i64 a0_9) ∧ w'.cell? ⟨gb203, 10, none⟩ = some (.int .i64 a0_10) ∧ w'.cell? ⟨gb203, 11, none⟩ = some (.bool a0_11) ∧ w'.cell? ⟨gb203, 12, none⟩ = some (.slice A0_12 l0_12.length c0_12) ∧ w'.cell? ⟨gb203, 13, none⟩ = some (.slice A0_13 l0_13.length c0_13)) (ds := []) #[F3127, F3127, F3127, F3127, F3127, F3127, F3127, F3127, F3127] (by kernel_rfl) rfl rfl ⟨(blk_cell BK203.out 0).trans rfl, (blk_cell BK203.out 1).trans rfl, (blk_cell BK203.out 2).trans rfl, (blk_cell BK203.out 3).trans rfl, (blk_cell BK203.out 4).trans rfl, (blk_cell BK203.out 5).trans rfl, (blk_cell BK203.out 6).trans rfl, (blk_cell BK203.out 7).trans rfl, (blk_cell BK203.out 8).trans rfl, (blk_cell BK203.out 9).trans rfl, (blk_cell BK203.out 10).trans rfl, (blk_cell BK203.out 11).trans rfl, (blk_cell BK203.out 12).trans rfl, (blk_cell BK203.out 13).trans rfl⟩ (fun hHeld => ?_); refine with_tabW span_Check.tab13 span_Check.bits13 (fun HT_ HW_ => ?_)
     generalize wc.drew = w54 at BK203 HB hHeld ⊢
     refine pure_ (i := 0) (N := some 101) (v := ?_) (a' := ?_) #[T3127, F3127, F3127, F3127, F3127, F3127, F3127, F3127, F3127] rfl rfl (any_of HT_.out (by kernel_rfl)) (fun _ _ _ h => h) (Or.inl ⟨by rfl, ?_⟩) ?_ ?_
     rotate_left
     ·intro w'
      go_simp
      with_reducible rfl
     rotate_left
     ·simp only [Act.put, List.setIfInBounds_toArray, List.set_cons_zero, List.set_cons_succ, i64_w, i32_w]
      rfl
     refine pure_ (i := 3) (N := some 104) (v := ?_) (a' := ?_) #[T3127, F3127, F3127, T3127, F3127, F3127, F3127, F3127, F3127] rfl rfl (any_of HT_.out (by kernel_rfl)) (fun _ _ _ h => h) (Or.inl ⟨by rfl, ?_⟩) ?_ ?_
     rotate_left
     ·intro w'
      go_simp
      with_reducible rfl
     rotate_left
     ·simp only [Act.put, List.setIfInBounds_toArray, List.set_cons_zero, List.set_cons_succ, i64_w, i32_w]
      rfl
     refine take_ (i := 1) (N := some 102) (v := ?_) (a' := ?_) #[T3127, T3127, F3127, T3127, F3127, F3127, F3127, F3127, F3127] rfl rfl (take_ofW HT_.out HW_.out (by kernel_rfl)) (fun _ _ _ h => h) (Or.inl ⟨by rfl, ?_⟩) hHeld ?_ ?_
     rotate_left
     ·rintro w' ⟨s0, s1, s2, s3, s4, s5, s6, s7, s8, s9, s10, s11, s12, s13⟩
      go_simp
      with_reducible rfl
     rotate_left
     ·simp only [Act.put, List.setIfInBounds_toArray, List.set_cons_zero, List.set_cons_succ, i64_w, i32_w]
      rfl
     refine take_ (i := 4) (N := some 105) (v := ?_) (a' := ?_) #[T3127, T3127, F3127, T3127, T3127, F3127, F3127, F3127, F3127] rfl rfl (take_ofW HT_.out HW_.out (by kernel_rfl)) (fun _ _ _ h => h) (Or.inl ⟨by rfl, ?_⟩) hHeld ?_ ?_
     rotate_left
     ·rintro w' ⟨s0, s1, s2, s3, s4, s5, s6, s7, s8, s9, s10, s11, s12, s13⟩
      go_simp
      with_reducible rfl
     rotate_left
     ·simp only [Act.put, List.setIfInBounds_toArray, List.set_cons_zero, List.set_cons_succ, i64_w, i32_w]
      rfl
     refine one_ (i := 2) (N := some 103) #[T3127, T3127, T3127, T3127, T3127, F3127, F3127, F3127, F3127] rfl rfl (one_of HT_.out (by kernel_rfl)) (by decide) (fun K hK => ?_)
     refine goes_ Try.func56 (by kernel_rfl) rfl #[.slice A0_12 l0_12.length c0_12] (by rfl) rfl rfl qgspc_2 ?_
     with_reducible refine (attribute_CheckAttrs.calls kj38 _ _ l0_12 t209 _ ?side1 ?side2 A50.out).mono ?_
     (case side1 => repeat (first | exact (Kd.C_below HR0_12.out HB.out) | (with_reducible refine Kd.C_alloc ?_ _) | (with_reducible refine Kd.C_drewN ?_ _) | (with_reducible refine Kd.C_drew ?_)))
     (case side2 => exact HC0_12.out)
     rintro e w55 ⟨rfl, hb⟩
     refine ⟨_, rfl, ?_⟩
     have n0_ := Aside0.mk (blk_below (g := gb203) (o := .cells #[.int .i64 a0_0, .int .i64 a0_1, .int .i64 a0_2, .int .i64 a0_3, .int .i64 a0_4, .int .i64 a0_5, .string a0_6, .string a0_7, .string a0_8, .int .i64 a0_9, .int .i64 a0_10, .bool a0_11, .slice A0_12 l0_12.length c0_12, .slice A0_13 l0_13.length c0_13] 58 (0, 0)) qgspc_1 hb)
     have n1_ := Aside0.mk (below_step qgspc_0 hb)
     clear BK203
     clear HB
     have BK203 := n0_
     have HB := n1_
     clear n0_ n1_
     (try clear hb)
     (try clear hb2)
     (try clear hk)
     (try clear hi)
     refine hK.out _ _ ⟨(blk_cell BK203.out 0).trans rfl, (blk_cell BK203.out 1).trans rfl, (blk_cell BK203.out 2).trans rfl, (blk_cell BK203.out 3).trans rfl, (blk_cell BK203.out 4).trans rfl, (blk_cell BK203.out 5).trans rfl, (blk_cell BK203.out 6).trans rfl, (blk_cell BK203.out 7).trans rfl, (blk_cell BK203.out 8).trans rfl, (blk_cell BK203.out 9).trans rfl, (blk_cell BK203.out 10).trans rfl, (blk_cell BK203.out 11).trans rfl, (blk_cell BK203.out 12).trans rfl, (blk_cell BK203.out 13).trans rfl⟩ (fun hHeld => ?_)
     clear hK K
     refine norm_ (a' := ?_) ?_ ?_
     rotate_left
     ·show Act.put _ (some 103) _ = _
      simp only [Act.put, List.setIfInBounds_toArray, List.set_cons_zero, List.set_cons_succ, i64_w, i32_w]
      rfl
     refine one_ (i := 5) (N := some 106) #[T3127, T3127, T3127, T3127, T3127, T3127, F3127, F3127, F3127] rfl rfl (one_of HT_.out (by kernel_rfl)) (by decide) (fun K hK => ?_)
     refine goes_ Try.func57 (by kernel_rfl) rfl #[.slice A0_13 l0_13.length c0_13] (by rfl) rfl rfl qgspc_2 ?_
     with_reducible refine (span_checkLinks.calls kj38 _ _ l0_13 t210 _ ?side1 ?side2 A51.out).mono ?_
     (case side1 => repeat (first | exact (Kd.C_below HR0_13.out HB.out) | (with_reducible refine Kd.C_alloc ?_ _) | (with_reducible refine Kd.C_drewN ?_ _) | (with_reducible refine Kd.C_drew ?_)))
     (case side2 => exact HC0_13.out)
     rintro e w56 ⟨rfl, hb⟩
     refine ⟨_, rfl, ?_⟩
     have n0_ := Aside0.mk (blk_below (g := gb203) (o := .cells #[.int .i64 a0_0, .int .i64 a0_1, .int .i64 a0_2, .int .i64 a0_3, .int .i64 a0_4, .int .i64 a0_5, .string a0_6, .string a0_7, .string a0_8, .int .i64 a0_9, .int .i64 a0_10, .bool a0_11, .slice A0_12 l0_12.length c0_12, .slice A0_13 l0_13.length c0_13] 58 (0, 0)) qgspc_1 hb)
     have n1_ := Aside0.mk (below_step qgspc_0 hb)
     clear BK203
     clear HB
     have BK203 := n0_
     have HB := n1_
     clear n0_ n1_
     (try clear hb)
     (try clear hb2)
     (try clear hk)
     (try clear hi)
     refine hK.out _ _ ⟨(blk_cell BK203.out 0).trans rfl, (blk_cell BK203.out 1).trans rfl, (blk_cell BK203.out 2).trans rfl, (blk_cell BK203.out 3).trans rfl, (blk_cell BK203.out 4).trans rfl, (blk_cell BK203.out 5).trans rfl, (blk_cell BK203.out 6).trans rfl, (blk_cell BK203.out 7).trans rfl, (blk_cell BK203.out 8).trans rfl, (blk_cell BK203.out 9).trans rfl, (blk_cell BK203.out 10).trans rfl, (blk_cell BK203.out 11).trans rfl, (blk_cell BK203.out 12).trans rfl, (blk_cell BK203.out 13).trans rfl⟩ (fun hHeld => ?_)
     clear hK K
     refine norm_ (a' := ?_) ?_ ?_
     rotate_left
     ·show Act.put _ (some 106) _ = _
      simp only [Act.put, List.setIfInBounds_toArray, List.set_cons_zero, List.set_cons_succ, i64_w, i32_w]
      rfl
     refine one_ (i := 6) (N := some 107) #[T3127, T3127, T3127, T3127, T3127, T3127, T3127, F3127, F3127] rfl rfl (one_of HT_.out (by kernel_rfl)) (by decide) (fun K hK => ?_)
     refine Kd.R_lit_step (Kd.int .i64) _ 33 ?hg (N := 107) ?hd (xs := ([t209, t210] : List Int)) (inner := [.int .i64 t209, .int .i64 t210]) (ok := fun _ => True) (okp := fun _ => True) ?hr ?hp (fun _ hk => hk) trivial (Below.refl _ _) (Nat.le_refl _) (by simp) ?_; (case hd => rfl); (case hg => rfl); (case hr => first | (go_simp; done) | (go_simp; rfl)); (case hp => exact (Reps.one (show Kd.M (Kd.int .i64) _ _ _ t209 [.int .i64 t209] from rfl) (Reps.one (show Kd.M (Kd.int .i64) _ _ _ t210 [.int .i64 t210] from rfl) (Reps.none _ _))))
     intro v212 w57 ho58 hb hg_ hnew_
     clear hg_ hnew_
     (first | rw [← Ny211.out] at ho58 | (simp only [Int.reduceToNat] at ho58; rw [← Ny211.out] at ho58))
     have n0_ := Aside0.mk (Kd.R_lower ho58 (below_size qgspc_0))
     have n1_ := Aside0.mk (blk_below (g := gb203) (o := .cells #[.int .i64 a0_0, .int .i64 a0_1, .int .i64 a0_2, .int .i64 a0_3, .int .i64 a0_4, .int .i64 a0_5, .string a0_6, .string a0_7, .string a0_8, .int .i64 a0_9, .int .i64 a0_10, .bool a0_11, .slice A0_12 l0_12.length c0_12, .slice A0_13 l0_13.length c0_13] 58 (0, 0)) qgspc_1 hb)
     have n2_ := Aside0.mk (below_step qgspc_0 hb)
     clear BK203
     clear HB
     have HO213 := n0_
     have BK203 := n1_
     have HB := n2_
     clear n0_ n1_ n2_
     clear hb ho58
     obtain ⟨Ao59, co59, eo59⟩ := Kd.R_slice HO213.out
     (first | subst eo59 | (injection eo59 with f1_ f2_ f3_; have f4_ := f1_.symm; have f5_ := f3_.symm; clear f1_ f2_ f3_; subst f4_; subst f5_))
     refine hK.out _ _ ⟨(blk_cell BK203.out 0).trans rfl, (blk_cell BK203.out 1).trans rfl, (blk_cell BK203.out 2).trans rfl, (blk_cell BK203.out 3).trans rfl, (blk_cell BK203.out 4).trans rfl, (blk_cell BK203.out 5).trans rfl, (blk_cell BK203.out 6).trans rfl, (blk_cell BK203.out 7).trans rfl, (blk_cell BK203.out 8).trans rfl, (blk_cell BK203.out 9).trans rfl, (blk_cell BK203.out 10).trans rfl, (blk_cell BK203.out 11).trans rfl, (blk_cell BK203.out 12).trans rfl, (blk_cell BK203.out 13).trans rfl⟩ (fun hHeld => ?_)
     clear hK K
     refine norm_ (a' := ?_) ?_ ?_
     rotate_left
     ·show Act.put _ (some 107) _ = _
      simp only [Act.put, List.setIfInBounds_toArray, List.set_cons_zero, List.set_cons_succ, i64_w, i32_w]
      rfl
     refine one_ (i := 7) (N := some 108) #[T3127, T3127, T3127, T3127, T3127, T3127, T3127, T3127, F3127] rfl rfl (one_of HT_.out (by kernel_rfl)) (by decide) (fun K hK => ?_)
     refine goes_ Try.func55 (by kernel_rfl) rfl #[.slice Ao59 y211.length co59] (by rfl) rfl rfl qgspc_2 ?_
     with_reducible refine (api_Errno.calls kj38 _ _ y211 t214 _ ?side1 ?side2 A52.out).mono ?_
     (case side1 => repeat (first | exact (Kd.R_reads' HO213.out).2.2 | (with_reducible refine Kd.C_alloc ?_ _) | (with_reducible refine Kd.C_drewN ?_ _) | (with_reducible refine Kd.C_drew ?_)))
     (case side2 => exact (Kd.R_reads' HO213.out).2.1)
     rintro e w' ⟨rfl, ⟨nd, rfl⟩⟩
     refine ⟨_, rfl, ?_⟩
     refine hK.out _ _ ⟨(blk_cell BK203.out 0).trans rfl, (blk_cell BK203.out 1).trans rfl, (blk_cell BK203.out 2).trans rfl, (blk_cell BK203.out 3).trans rfl, (blk_cell BK203.out 4).trans rfl, (blk_cell BK203.out 5).trans rfl, (blk_cell BK203.out 6).trans rfl, (blk_cell BK203.out 7).trans rfl, (blk_cell BK203.out 8).trans rfl, (blk_cell BK203.out 9).trans rfl, (blk_cell BK203.out 10).trans rfl, (blk_cell BK203.out 11).trans rfl, (blk_cell BK203.out 12).trans rfl, (blk_cell BK203.out 13).trans rfl⟩ (fun hHeld => ?_)
     clear hK K
     refine norm_ (a' := ?_) ?_ ?_
     rotate_left
     ·show Act.put _ (some 108) _ = _
      simp only [Act.put, List.setIfInBounds_toArray, List.set_cons_zero, List.set_cons_succ, i64_w, i32_w]
      rfl
     refine pure_ (i := 8) (N := some 2) (v := ?_) (a' := ?_) #[T3127, T3127, T3127, T3127, T3127, T3127, T3127, T3127, T3127] rfl rfl (any_of HT_.out (by kernel_rfl)) (fun _ _ _ h => h) (Or.inl ⟨by rfl, ?_⟩) ?_ ?_
     rotate_left
     ·intro w'
      go_simp
      with_reducible rfl
     rotate_left
     ·simp only [Act.put, List.setIfInBounds_toArray, List.set_cons_zero, List.set_cons_succ, i64_w, i32_w]
      rfl
     refine done_ (done_of HT_.out (by kernel_rfl)) ?_
     try go_wp2
     go_ret
     exact ⟨qgspc_4, qgspc_0⟩

end Go.Proofs.Ythdifdnjodbdnaa.Q
