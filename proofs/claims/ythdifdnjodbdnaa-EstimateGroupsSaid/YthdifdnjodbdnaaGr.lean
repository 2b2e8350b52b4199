/- sleuthlaw25.group, by hand. -/
import Derived.Test.YthdifdnjodbdnaaMd
namespace Go.Proofs.Ythdifdnjodbdnaa.Q
open Go.RowKit Go.Proofs.YthdifdnjodbdnaaW.PrintWords Go.Proofs.YthdifdnjodbdnaaW.PrintLast Go.Proofs.YthdifdnjodbdnaaW.PrintMore
set_option linter.unusedVariables false
set_option linter.unusedSimpArgs false
set_option linter.unusedSimpArgs false
def sleuthlaw25_group.f (a0_0 : Int) (a0_1 : Int) (a0_2 : Int) (a0_3 : Int) (a0_4 : Int) (a0_5 : Int) (a0_6 : ByteArray) (a0_7 : ByteArray) (a0_8 : ByteArray) (a0_9 : Int) (a0_10 : Int) (a0_11 : Bool) (l0_12 : List (S141)) (l0_13 : List (S146)) (a1 : Int) : Option (ByteArray × ByteArray × ByteArray) := some (a0_6, (if a1 = 2 then a0_7 else ⟨#[]⟩), (if a1 = 3 then a0_8 else ⟨#[]⟩))
theorem put3 {W : World} {g : Nat} {t : Nat} {x y z : Value} (h : W.heap[g]? = some (.cells #[x, y, z] t (0, 0))) (a b v : Value) : ((((W.setCell ⟨g, 0, none⟩ a).setCell ⟨g, 1, none⟩ b).setCell ⟨g, 2, none⟩ v)).heap[g]? = some (.cells #[a, b, v] t (0, 0)) :=
  blk_put (blk_put (blk_put h 0 a rfl) 1 b rfl) 2 v rfl
theorem tot3 {W : World} {g : Nat} {a b c : Value} {t : Nat} (h : W.heap[g]? = some (.cells #[a, b, c] t (0, 0))) : W.cell? ⟨g, 0, none⟩ = some a ∧ W.cell? ⟨g, 1, none⟩ = some b ∧ W.cell? ⟨g, 2, none⟩ = some c := ⟨(blk_cell h 0).trans rfl, (blk_cell h 1).trans rfl, (blk_cell h 2).trans rfl⟩
/-- A world of group's: the zero of the result, the group. -/
structure GrW (w : World) (gb : Nat) (x y z : ByteArray) (W : World) : Prop where
  b : Below w.heap.size w W
  zz : W.heap[w.heap.size + 1]? = some (.cells #[.string ⟨#[]⟩, .string ⟨#[]⟩, .string ⟨#[]⟩] 39 (0, 0))
  o : W.heap[gb]? = some (.cells #[.string x, .string y, .string z] 39 (0, 0))
  g : w.heap.size + 2 ≤ gb
theorem GrW.put {w : World} {g : Nat} {a b c : ByteArray} {W : World} (h : GrW w g a b c W) (i : Nat) (v b' c' : ByteArray) (he : (#[.string a, .string b, .string c] : Array Value).setIfInBounds i (.string v) = #[.string a, .string b', .string c']) : GrW w g a b' c' (W.setCell ⟨g, i, none⟩ (.string v)) :=
  ⟨h.b.setCell (Nat.le_trans (Nat.le_add_right _ 2) h.g) _, blk_far h.zz (by have := h.g; show w.heap.size + 1 ≠ g; omega) _, blk_put h.o i _ he, h.g⟩
set_option maxHeartbeats 4000000 in
set_option maxRecDepth 100000 in
theorem sleuthlaw25_group.calls (a0_0 : Int) (a0_1 : Int) (a0_2 : Int) (a0_3 : Int) (a0_4 : Int) (a0_5 : Int) (a0_6 : ByteArray) (a0_7 : ByteArray) (a0_8 : ByteArray) (a0_9 : Int) (a0_10 : Int) (a0_11 : Bool) (A0_12 : Option Addr) (c0_12 : Nat) (l0_12 : List (S141)) (A0_13 : Option Addr) (c0_13 : Nat) (l0_13 : List (S146)) (a1 : Int) (r1 : ByteArray) (r2 : ByteArray) (r3 : ByteArray) (w : World) (hr0_12 : Kd.C k141 w A0_12 l0_12.length l0_12) (hc0_12 : l0_12.length ≤ c0_12) (hr0_13 : Kd.C k146 w A0_13 l0_13.length l0_13) (hc0_13 : l0_13.length ≤ c0_13) (h : sleuthlaw25_group.f a0_0 a0_1 a0_2 a0_3 a0_4 a0_5 a0_6 a0_7 a0_8 a0_9 a0_10 a0_11 l0_12 l0_13 a1 = some (r1, r2, r3)) :
    Calls Try.prog 21 #[.agg #[.int .i64 a0_0, .int .i64 a0_1, .int .i64 a0_2, .int .i64 a0_3, .int .i64 a0_4, .int .i64 a0_5, .string a0_6, .string a0_7, .string a0_8, .int .i64 a0_9, .int .i64 a0_10, .bool a0_11, .slice A0_12 l0_12.length c0_12, .slice A0_13 l0_13.length c0_13], .int .i64 a1] w fun e w' => e = .returned (.agg #[.string r1, .string r2, .string r3]) ∧ Below w.heap.size w w' := by
  have h_ := Option.some.inj h
  have h1 := (Prod.mk.inj h_).1
  have h2 := (Prod.mk.inj (Prod.mk.inj h_).2).1
  have h3 := (Prod.mk.inj (Prod.mk.inj h_).2).2
  have H1 := Aside0.mk h1
  have H2 := Aside0.mk h2
  have H3 := Aside0.mk h3
  have hu58 := Try.underlying58
  have hu39 := Try.underlying39
  clear h h_ h1 h2 h3 hr0_12 hc0_12 hr0_13 hc0_13
  go_enter Try.func21, Try.ntmps21
  go_upto_region 0 with (fail)
  go_cut [2, 4] (fun v2 v4 we => v2 = .pointer (some ⟨w.heap.size, 0, none⟩) ∧ v4 = .pointer (some ⟨w.heap.size + 1, 0, none⟩) ∧ Aside0 (Below w.heap.size w we) ∧ Aside0 (we.heap[w.heap.size]? = some (.cells (sp14 a0_0 a0_1 a0_2 a0_3 a0_4 a0_5 a0_6 a0_7 a0_8 a0_9 a0_10 a0_11 (.slice A0_12 l0_12.length c0_12) (.slice A0_13 l0_13.length c0_13)) 58 (0, 0))) ∧ Aside0 (we.heap[w.heap.size + 1]? = some (.cells #[.string ⟨#[]⟩, .string ⟨#[]⟩, .string ⟨#[]⟩] 39 (0, 0))) ∧ Aside0 (we.heap.size = w.heap.size + 2))
  case first =>
    go_wp2
    go_meet
    case rel => exact ⟨rfl, rfl, ⟨below_alloc (below_alloc (Below.refl _ _) _) _⟩, ⟨blk_alloc (blk_new _ _) _⟩, ⟨by have := blk_new (w.alloc (.cells (sp14 a0_0 a0_1 a0_2 a0_3 a0_4 a0_5 a0_6 a0_7 a0_8 a0_9 a0_10 a0_11 (.slice A0_12 l0_12.length c0_12) (.slice A0_13 l0_13.length c0_13)) 58 (0, 0))) (.cells #[.string ⟨#[]⟩, .string ⟨#[]⟩, .string ⟨#[]⟩] 39 (0, 0)); rw [show (w.alloc (.cells (sp14 a0_0 a0_1 a0_2 a0_3 a0_4 a0_5 a0_6 a0_7 a0_8 a0_9 a0_10 a0_11 (.slice A0_12 l0_12.length c0_12) (.slice A0_13 l0_13.length c0_13)) 58 (0, 0))).heap.size = w.heap.size + 1 by show (w.heap.push _).size = _; rw [Array.size_push]] at this; exact this⟩, ⟨sz2M _ _ _⟩⟩
  case rest =>
    obtain ⟨rfl, rfl, HB, HX, HZ, HN⟩ := hcut
    obtain ⟨s0, s1, s2, s3, s4, s5, s6, s7, s8, s9, s10, s11, s12, s13⟩ := sp_cells HX.out
    go_upto_region 1 with (fail)
    go_cut [5] (fun v5 we => ∃ g : Nat, v5 = .pointer (some ⟨g, 0, none⟩) ∧ Aside0 (GrW w g a0_6 a0_7 a0_8 we))
    case first =>
      go_wp2
      go_meet
      case rel => exact ⟨_, rfl, ⟨⟨below_alloc HB.out _, blk_alloc HZ.out _, blk_new _ _, Nat.le_of_eq HN.out.symm⟩⟩⟩
    case rest =>
      obtain ⟨g, rfl, HG⟩ := hcut
      clear HB HX HZ HN s0 s1 s2 s3 s4 s5 s6 s7 s8 s9 s10 s11 s12 s13
      go_upto_if 14 with (fail)
      go_cut [] (fun we => Aside0 (GrW w g a0_6 r2 a0_8 we))
      case first =>
        obtain ⟨b0, b1, b2⟩ := tot3 HG.out.o
        have f1 := blk_frozen HG.out.o 1
        by_cases hl : a1 = 2
        · have hlb : (a1 != 2) = false := bne_eq_false_iff_eq.mpr hl
          rw [hlb]
          have HE : Aside0 (a0_7 = r2) := ⟨by rw [← H2.out, if_pos hl]⟩
          clear hl
          go_wp2
          go_meet
          case rel => rw [← HE.out]; exact HG
        · have hlb : (a1 != 2) = true := bne_iff_ne.mpr hl
          rw [hlb]
          have HE : Aside0 ((⟨#[]⟩ : ByteArray) = r2) := ⟨by rw [← H2.out, if_neg hl]⟩
          clear hl
          go_wp2
          go_meet
          case rel => rw [← HE.out]; exact ⟨HG.out.put 1 _ _ _ rfl⟩
      case rest =>
        have HG1 := Aside0.mk hcut.out
        clear HG hcut
        go_upto_if 17 with (fail)
        go_cut [] (fun we => Aside0 (GrW w g a0_6 r2 r3 we))
        case first =>
          obtain ⟨b0, b1, b2⟩ := tot3 HG1.out.o
          have f2 := blk_frozen HG1.out.o 2
          by_cases hl : a1 = 3
          · have hlb : (a1 != 3) = false := bne_eq_false_iff_eq.mpr hl
            rw [hlb]
            have HE : Aside0 (a0_8 = r3) := ⟨by rw [← H3.out, if_pos hl]⟩
            clear hl
            go_wp2
            go_meet
            case rel => rw [← HE.out]; exact HG1
          · have hlb : (a1 != 3) = true := bne_iff_ne.mpr hl
            rw [hlb]
            have HE : Aside0 ((⟨#[]⟩ : ByteArray) = r3) := ⟨by rw [← H3.out, if_neg hl]⟩
            clear hl
            go_wp2
            go_meet
            case rel => rw [← HE.out]; exact ⟨HG1.out.put 2 _ _ _ rfl⟩
        case rest =>
          have HG2 := Aside0.mk hcut.out
          clear HG1 hcut
          obtain ⟨b0, b1, b2⟩ := tot3 HG2.out.o
          obtain ⟨q0, q1, q2⟩ := tot3 HG2.out.zz
          have f0 := blk_frozen HG2.out.zz 0
          have f1 := blk_frozen HG2.out.zz 1
          have f2 := blk_frozen HG2.out.zz 2
          go_wp2
          refine bodyPost_ret (results_cell_row rfl _ _ (w.heap.size + 1) 39 #[.string a0_6, .string r2, .string r3] (0, 0) _ rfl (put3 HG2.out.zz _ _ _) Try.underlying39 rfl (show (Try.prog.info? 39).map (·.size) = some 3 by kernel_rfl)) rfl ?_
          rw [H1.out]
          exact ⟨rfl, below_set (below_set (below_set HG2.out.b (Nat.le_add_right _ 1)) (Nat.le_add_right _ 1)) (Nat.le_add_right _ 1)⟩
end Go.Proofs.Ythdifdnjodbdnaa.Q
