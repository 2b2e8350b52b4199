/- estimate.GroupOf, by hand. -/
import Derived.Test.YthdifdnjodbdnaaGr
import Derived.Test.YthdifdnjodbdnaaLi
namespace Go.Proofs.Ythdifdnjodbdnaa.Q
open Go.RowKit Go.Proofs.YthdifdnjodbdnaaW.PrintWords Go.Proofs.YthdifdnjodbdnaaW.PrintLast Go.Proofs.YthdifdnjodbdnaaW.PrintMore
set_option linter.unusedVariables false
set_option linter.unusedSimpArgs false
set_option linter.unusedSimpArgs false
def estimate_GroupOf.f (a0_0 : Int) (a0_1 : Int) (a0_2 : Int) (a0_3 : Int) (a0_4 : Int) (a0_5 : Int) (a0_6 : ByteArray) (a0_7 : ByteArray) (a0_8 : ByteArray) (a0_9 : Int) (a0_10 : Int) (a0_11 : Bool) (l0_12 : List (S141)) (l0_13 : List (S146)) (a1 : Int) : Option (ByteArray × ByteArray × ByteArray × Int) :=
  if a1 = 1 then some (a0_6, ⟨#[]⟩, ⟨#[]⟩, 0) else if a1 = 2 then some (a0_6, a0_7, ⟨#[]⟩, 0) else if a1 = 3 then some (a0_6, ⟨#[]⟩, a0_8, 0) else some (⟨#[]⟩, ⟨#[]⟩, ⟨#[]⟩, 12)
set_option maxHeartbeats 4000000 in
set_option maxRecDepth 100000 in
theorem estimate_GroupOf.calls (a0_0 : Int) (a0_1 : Int) (a0_2 : Int) (a0_3 : Int) (a0_4 : Int) (a0_5 : Int) (a0_6 : ByteArray) (a0_7 : ByteArray) (a0_8 : ByteArray) (a0_9 : Int) (a0_10 : Int) (a0_11 : Bool) (A0_12 : Option Addr) (c0_12 : Nat) (l0_12 : List (S141)) (A0_13 : Option Addr) (c0_13 : Nat) (l0_13 : List (S146)) (a1 : Int) (r1 : ByteArray) (r2 : ByteArray) (r3 : ByteArray) (r4 : Int) (w : World) (hr0_12 : Kd.C k141 w A0_12 l0_12.length l0_12) (hc0_12 : l0_12.length ≤ c0_12) (hr0_13 : Kd.C k146 w A0_13 l0_13.length l0_13) (hc0_13 : l0_13.length ≤ c0_13) (h : estimate_GroupOf.f a0_0 a0_1 a0_2 a0_3 a0_4 a0_5 a0_6 a0_7 a0_8 a0_9 a0_10 a0_11 l0_12 l0_13 a1 = some (r1, r2, r3, r4)) :
    Calls Try.prog 20 #[.agg #[.int .i64 a0_0, .int .i64 a0_1, .int .i64 a0_2, .int .i64 a0_3, .int .i64 a0_4, .int .i64 a0_5, .string a0_6, .string a0_7, .string a0_8, .int .i64 a0_9, .int .i64 a0_10, .bool a0_11, .slice A0_12 l0_12.length c0_12, .slice A0_13 l0_13.length c0_13], .int .i64 a1] w fun e w' => e = .returned (.tuple #[.agg #[.string r1, .string r2, .string r3], .int .i64 r4]) ∧ Below w.heap.size w w' := by
  obtain ⟨g, b, hg, hb⟩ : ∃ (g : Int) (b : Bool), By_grouping.f a1 = some (g, b) ∧ ((b = true ∧ r4 = 0 ∧ By_key.f a0_0 a0_1 a0_2 a0_3 a0_4 a0_5 a0_6 a0_7 a0_8 a0_9 a0_10 a0_11 l0_12 l0_13 g = some (r1, r2, r3)) ∨ (b = false ∧ r4 = 12 ∧ r1 = ⟨#[]⟩ ∧ r2 = ⟨#[]⟩ ∧ r3 = ⟨#[]⟩)) := by
    unfold estimate_GroupOf.f at h
    unfold By_grouping.f Mr.grpF
    by_cases e1 : a1 = 1
    · subst e1; cases h; exact ⟨_, _, rfl, .inl ⟨rfl, rfl, rfl⟩⟩
    · by_cases e2 : a1 = 2
      · subst e2; cases h; exact ⟨_, _, rfl, .inl ⟨rfl, rfl, rfl⟩⟩
      · by_cases e3 : a1 = 3
        · subst e3; cases h; exact ⟨_, _, rfl, .inl ⟨rfl, rfl, rfl⟩⟩
        · rw [if_neg e1, if_neg e2, if_neg e3] at h ⊢
          cases h
          exact ⟨_, _, rfl, .inr ⟨rfl, rfl, rfl, rfl, rfl⟩⟩
  have HGR := Aside0.mk hg
  have HBB := Aside0.mk hb
  have hu58 := Try.underlying58
  have hu39 := Try.underlying39
  have HR12 := Aside0.mk hr0_12
  have HR13 := Aside0.mk hr0_13
  have HC12 := Aside0.mk hc0_12
  have HC13 := Aside0.mk hc0_13
  clear h hg hb hr0_12 hc0_12 hr0_13 hc0_13
  go_enter Try.func20, Try.ntmps20
  go_upto_region 0 with (fail)
  go_cut [2, 4, 5] (fun v2 v4 v5 we => v2 = .pointer (some ⟨w.heap.size, 0, none⟩) ∧ v4 = .pointer (some ⟨w.heap.size + 1, 0, none⟩) ∧ v5 = .int .i64 0 ∧ Aside0 (Below w.heap.size w we) ∧ Aside0 (we.heap[w.heap.size]? = some (.cells (sp14 a0_0 a0_1 a0_2 a0_3 a0_4 a0_5 a0_6 a0_7 a0_8 a0_9 a0_10 a0_11 (.slice A0_12 l0_12.length c0_12) (.slice A0_13 l0_13.length c0_13)) 58 (0, 0))) ∧ Aside0 (we.heap[w.heap.size + 1]? = some (.cells #[.string ⟨#[]⟩, .string ⟨#[]⟩, .string ⟨#[]⟩] 39 (0, 0))))
  case first =>
    go_wp2
    go_meet
    case rel => exact ⟨rfl, rfl, rfl, ⟨below_alloc (below_alloc (Below.refl _ _) _) _⟩, ⟨blk_alloc (blk_new _ _) _⟩, ⟨by have := blk_new (w.alloc (.cells (sp14 a0_0 a0_1 a0_2 a0_3 a0_4 a0_5 a0_6 a0_7 a0_8 a0_9 a0_10 a0_11 (.slice A0_12 l0_12.length c0_12) (.slice A0_13 l0_13.length c0_13)) 58 (0, 0))) (.cells #[.string ⟨#[]⟩, .string ⟨#[]⟩, .string ⟨#[]⟩] 39 (0, 0)); rw [show (w.alloc (.cells (sp14 a0_0 a0_1 a0_2 a0_3 a0_4 a0_5 a0_6 a0_7 a0_8 a0_9 a0_10 a0_11 (.slice A0_12 l0_12.length c0_12) (.slice A0_13 l0_13.length c0_13)) 58 (0, 0))).heap.size = w.heap.size + 1 by show (w.heap.push _).size = _; rw [Array.size_push]] at this; exact this⟩⟩
  case rest =>
    obtain ⟨rfl, rfl, rfl, HB, HX, HZ⟩ := hcut
    go_upto_region 1 with (fail)
    go_cut [6, 7] (fun v6 v7 we => v6 = Mr.gv g ∧ v7 = .bool b ∧ Aside0 (Below wc.heap.size wc we))
    case first =>
      go_wp2_with (go_at_call 37; (with_reducible refine (By_grouping.calls a1 g b _ HGR.out).mono ?_); rintro e w' ⟨rfl, ⟨nd, rfl⟩⟩)
      go_meet
      case rel => exact ⟨rfl, rfl, ⟨pw_below_drewN (Below.refl _ _) _⟩⟩
    case rest =>
      obtain ⟨rfl, rfl, HB1⟩ := hcut
      have HX1 := Aside0.mk (blk_below HX.out HB1.out)
      have HZ1 := Aside0.mk (blk_below HZ.out HB1.out)
      have HB2 := Aside0.mk (below_step HB.out HB1.out)
      clear HX HZ HB HB1
      obtain ⟨s0, s1, s2, s3, s4, s5, s6, s7, s8, s9, s10, s11, s12, s13⟩ := sp_cells HX1.out
      rcases HBB.out with ⟨rfl, rfl, hk⟩ | ⟨rfl, rfl, rfl, rfl, rfl⟩
      · have HK := Aside0.mk hk
        clear hk
        go_wp2_with ((with_reducible refine gate_dst (N := 18) rfl ?_); refine group_w (some 18) rfl rfl rfl rfl (by (try simp only [List.map_toArray, List.map_cons, List.map_nil]); rfl) (Kd.C_below HR12.out HB2.out) HC12.out (Kd.C_below HR13.out HB2.out) HC13.out HK.out (fun w' hb => ?_); have HZ3 := Aside0.mk (blk_below HZ1.out hb); have HB3 := Aside0.mk (below_step HB2.out hb); obtain ⟨q0, q1, q2⟩ := tot3 HZ3.out; have f0 := blk_frozen HZ3.out 0; have f1 := blk_frozen HZ3.out 1; have f2 := blk_frozen HZ3.out 2; clear hb)
        refine bodyPost_ret (results_ct rfl _ _ (w.heap.size + 1) 39 #[.string r1, .string r2, .string r3] (0, 0) _ rfl (put3 HZ3.out _ _ _) Try.underlying39 rfl (show (Try.prog.info? 39).map (·.size) = some 3 by kernel_rfl)) rfl ?_
        exact ⟨rfl, below_set (below_set (below_set HB3.out (Nat.le_add_right _ 1)) (Nat.le_add_right _ 1)) (Nat.le_add_right _ 1)⟩
      · obtain ⟨q0, q1, q2⟩ := tot3 HZ1.out
        have f0 := blk_frozen HZ1.out 0
        have f1 := blk_frozen HZ1.out 1
        have f2 := blk_frozen HZ1.out 2
        go_wp2
        refine bodyPost_ret (results_ct rfl _ _ (w.heap.size + 1) 39 #[.string ⟨#[]⟩, .string ⟨#[]⟩, .string ⟨#[]⟩] (0, 0) _ rfl (put3 HZ1.out _ _ _) Try.underlying39 rfl (show (Try.prog.info? 39).map (·.size) = some 3 by kernel_rfl)) rfl ?_
        exact ⟨rfl, below_set (below_set (below_set HB2.out (Nat.le_add_right _ 1)) (Nat.le_add_right _ 1)) (Nat.le_add_right _ 1)⟩
end Go.Proofs.Ythdifdnjodbdnaa.Q
