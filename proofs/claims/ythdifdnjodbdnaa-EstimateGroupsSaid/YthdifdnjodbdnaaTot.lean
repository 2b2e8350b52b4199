/- sleuthlaw25.total, by hand. -/
import Derived.Test.YthdifdnjodbdnaaMd
import Derived.Test.YthdifdnjodbdnaaNws
import Derived.Test.YthdifdnjodbdnaaGr
namespace Go.Proofs.Ythdifdnjodbdnaa.Q
open Go.RowKit Go.Proofs.YthdifdnjodbdnaaW.PrintWords Go.Proofs.YthdifdnjodbdnaaW.PrintLast Go.Proofs.YthdifdnjodbdnaaW.PrintMore
set_option linter.unusedVariables false
set_option linter.unusedSimpArgs false
set_option linter.unusedSimpArgs false
attribute [local go_sem high] eqA39
/-- Whether a span is of a group, at a level. -/
def tHit (s : S58) (lv : Int) (g0 g1 g2 : ByteArray) : Bool := s.f6.toList == g0.toList && ((if lv = 2 then s.f7 else ⟨#[]⟩ : ByteArray).toList == g1.toList && (if lv = 3 then s.f8 else ⟨#[]⟩ : ByteArray).toList == g2.toList)
def tAdd (o : S37) (w : Int) (s : S58) : S37 := ⟨wrap64 (o.f0 + w), if s.f11 = true then wrap64 (o.f1 + w) else o.f1, wrap64 (o.f2 + wrap64 (w * wrap64 (s.f10 - s.f9))), o.f3⟩
def totIn (l : List S53) (i lv : Int) (g0 g1 g2 : ByteArray) : Nat → Int → Bool → S37 → Option (Bool × S37)
  | 0, _, _, _ => none
  | k + 1, j, has, o => if j < ((rd_T53 l i).f2.length : Int) then (if 0 ≤ j then (if tHit (rd_T58 (rd_T53 l i).f2 j) lv g0 g1 g2 = true then totIn l i lv g0 g1 g2 k (wrap64 (j + 1)) true (tAdd o (rd_T53 l i).f1 (rd_T58 (rd_T53 l i).f2 j)) else totIn l i lv g0 g1 g2 k (wrap64 (j + 1)) has o) else none) else some (has, o)
def totGo (l : List S53) (lv : Int) (g0 g1 g2 : ByteArray) : Nat → Int → S37 → Option S37
  | 0, _, _ => none
  | k + 1, i, o => if i < (l.length : Int) then (if 0 ≤ i then (totIn l i lv g0 g1 g2 20 0 false o).bind fun p => totGo l lv g0 g1 g2 k (wrap64 (i + 1)) (if p.1 = true then ⟨p.2.f0, p.2.f1, p.2.f2, wrap64 (p.2.f3 + (rd_T53 l i).f1)⟩ else p.2) else none) else some o
def sleuthlaw25_total.f (l : List S53) (g0 g1 g2 : ByteArray) (lv : Int) : Option (Int × Int × Int × Int) := (totGo l lv g0 g1 g2 20 0 ⟨0, 0, 0, 0⟩).map fun o => (o.f0, o.f1, o.f2, o.f3)
/-- The group of a span. -/
theorem group_f (s : S58) (lv : Int) : sleuthlaw25_group.f s.f0 s.f1 s.f2 s.f3 s.f4 s.f5 s.f6 s.f7 s.f8 s.f9 s.f10 s.f11 s.f12 s.f13 lv = some (s.f6, (if lv = 2 then s.f7 else ⟨#[]⟩), (if lv = 3 then s.f8 else ⟨#[]⟩)) := rfl
def sleuthlaw25_total.T12 : Bool × List (List Nat × List Nat) := (true, [([], []), ([0], [0]), ([], []), ([], []), ([2, 3], [2, 3]), ([4], [4]), ([5], [5]), ([1, 6], [1, 6]), ([], []), ([8], [8]), ([], []), ([], []), ([10, 11], [10, 11]), ([12], [12]), ([13], [13]), ([], []), ([15], [15]), ([], []), ([17], [17]), ([16, 18], [16, 18]), ([14, 19], [14, 19]), ([9, 20], [9, 20]), ([0, 1, 2, 3, 4, 5, 6, 7, 8, 9], []), ([22, 7, 0, 1, 2, 3, 4, 5, 6, 7, 8, 9], [7, 22]), ([0, 1, 2, 3, 4, 5, 6, 7, 8, 9, 10, 11, 12, 13, 14, 15, 16, 17, 18, 19, 20, 21, 22, 23], []), ([24, 21, 23, 0, 1, 2, 3, 4, 5, 6, 7, 8, 9, 10, 11, 12, 13, 14, 15, 16, 17, 18, 19, 20, 21, 22, 23], [21, 24])])
def sleuthlaw25_total.B12 : List Nat := [0, 1, 0, 0, 12, 28, 60, 127, 0, 256, 0, 0, 3072, 7168, 15360, 0, 32768, 0, 131072, 491520, 1047552, 2096896, 1023, 4195327, 16777215, 33554431]
theorem sleuthlaw25_total.tab12 : rtab .any (opsOf Try.f45 12) = sleuthlaw25_total.T12 := by kernel_rfl
theorem sleuthlaw25_total.bits12 : waitsOk sleuthlaw25_total.T12.2 sleuthlaw25_total.B12 = true := by kernel_rfl
def sleuthlaw25_total.T14 : Bool × List (List Nat × List Nat) := (true, [([], []), ([0], [0]), ([], []), ([], []), ([2, 3], [2, 3]), ([4], [4]), ([5], [5]), ([1, 6], [1, 6]), ([0, 1, 2, 3, 4, 5, 6, 7], []), ([8, 7, 0, 1, 2, 3, 4, 5, 6, 7], [7, 8])])
def sleuthlaw25_total.B14 : List Nat := [0, 1, 0, 0, 12, 28, 60, 127, 255, 511]
theorem sleuthlaw25_total.tab14 : rtab .any (opsOf Try.f45 14) = sleuthlaw25_total.T14 := by kernel_rfl
theorem sleuthlaw25_total.bits14 : waitsOk sleuthlaw25_total.T14.2 sleuthlaw25_total.B14 = true := by kernel_rfl
def sleuthlaw25_total.T16 : Bool × List (List Nat × List Nat) := (true, [([], []), ([0], [0]), ([], []), ([], []), ([2, 3], [2, 3]), ([4], [4]), ([5], [5]), ([1, 6], [1, 6]), ([0, 1, 2, 3, 4, 5, 6, 7], []), ([8, 7, 0, 1, 2, 3, 4, 5, 6, 7], [7, 8])])
def sleuthlaw25_total.B16 : List Nat := [0, 1, 0, 0, 12, 28, 60, 127, 255, 511]
theorem sleuthlaw25_total.tab16 : rtab .any (opsOf Try.f45 16) = sleuthlaw25_total.T16 := by kernel_rfl
theorem sleuthlaw25_total.bits16 : waitsOk sleuthlaw25_total.T16.2 sleuthlaw25_total.B16 = true := by kernel_rfl
abbrev toM (b1 b7 b9 b21 b22 b23 b24 b25 : Bool) : Array Bool := #[true, b1, true, true, true, true, true, b7, true, b9, true, true, true, true, true, true, true, true, true, true, true, b21, b22, b23, b24, b25]
/-- One load among others: its value, the world as it was. -/
theorem val_ {P : Program} {ops : Array Oper} {Q : Exit → Act → World → Prop} {oi : Oper} {a : Act} {w : World} {K : Act → World → Prop} (N : Nat) {v : Value} (h : K (a.put (some N) v) w) (hrun : (execOp a.eval oi).run P w = .ok (.value v) w := by first | (go_simp; done) | (go_simp; with_reducible rfl))
    (hw : Region.wanted oi (yielded ops a.tmps) = true := by rfl) (hN : oi.dst = some N := by rfl) : if Region.wanted oi (yielded ops a.tmps) = true then Oper.wp P oi a w K Q else K (a.put (some N) undef) w := by
  rw [if_pos hw]
  unfold Oper.wp
  rw [hrun]
  show K (a.put oi.dst v) w
  rw [hN]
  exact h
/-- A world of total's. -/
structure TotW (w : World) (g0 g1 g2 : ByteArray) (o : S37) (W : World) : Prop where
  b : Below w.heap.size w W
  g : W.heap[w.heap.size]? = some (.cells #[.string g0, .string g1, .string g2] 39 (0, 0))
  z : W.heap[w.heap.size + 1]? = some (.cells #[.int .i64 0, .int .i64 0, .int .i64 0, .int .i64 0] 37 (0, 0))
  o : W.heap[w.heap.size + 2]? = some (.cells #[.int .i64 o.f0, .int .i64 o.f1, .int .i64 o.f2, .int .i64 o.f3] 37 (0, 0))
section
variable {w W : World} {g0 g1 g2 : ByteArray} {o : S37}
theorem TotW.move {W' : World} (h : TotW w g0 g1 g2 o W) (hb : Below W.heap.size W W') : TotW w g0 g1 g2 o W' := ⟨below_step h.b hb, blk_below h.g hb, blk_below h.z hb, blk_below h.o hb⟩
theorem tot4 {g : Nat} {a b c d : Value} {t : Nat} (h : W.heap[g]? = some (.cells #[a, b, c, d] t (0, 0))) : W.cell? ⟨g, 0, none⟩ = some a ∧ W.cell? ⟨g, 1, none⟩ = some b ∧ W.cell? ⟨g, 2, none⟩ = some c ∧ W.cell? ⟨g, 3, none⟩ = some d := ⟨(blk_cell h 0).trans rfl, (blk_cell h 1).trans rfl, (blk_cell h 2).trans rfl, (blk_cell h 3).trans rfl⟩
theorem TotW.put (h : TotW w g0 g1 g2 o W) (i : Nat) (v : Int) (o' : S37) (he : (#[.int .i64 o.f0, .int .i64 o.f1, .int .i64 o.f2, .int .i64 o.f3] : Array Value).setIfInBounds i (.int .i64 v) = #[.int .i64 o'.f0, .int .i64 o'.f1, .int .i64 o'.f2, .int .i64 o'.f3]) : TotW w g0 g1 g2 o' (W.setCell ⟨w.heap.size + 2, i, none⟩ (.int .i64 v)) :=
  ⟨h.b.setCell (Nat.le_add_right _ 2) _, blk_far h.g (by show w.heap.size ≠ w.heap.size + 2; omega) _, blk_far h.z (by show w.heap.size + 1 ≠ w.heap.size + 2; omega) _, blk_put h.o i _ he⟩
end
set_option maxHeartbeats 8000000 in
set_option maxRecDepth 100000 in
theorem sleuthlaw25_total.calls (A0 : Option Addr) (c0 : Nat) (l : List S53) (g0 g1 g2 : ByteArray) (lv : Int) (r1 r2 r3 r4 : Int) (w : World) (hr : Kd.C k53 w A0 l.length l) (hc : l.length ≤ c0) (h : sleuthlaw25_total.f l g0 g1 g2 lv = some (r1, r2, r3, r4)) :
    Calls Try.prog 45 #[.slice A0 l.length c0, .agg #[.string g0, .string g1, .string g2], .int .i64 lv] w fun e w' => e = .returned (.agg #[.int .i64 r1, .int .i64 r2, .int .i64 r3, .int .i64 r4]) ∧ Below w.heap.size w w' := by
  obtain ⟨r, hr0, he⟩ := Option.map_eq_some_iff.1 h
  injection he with he1 he
  injection he with he2 he
  injection he with he3 he4
  subst he1 he2 he3 he4
  have hu39 := Try.underlying39
  have hu37 := Try.underlying37
  have hu58 := Try.underlying58
  have hu53 := Try.underlying53
  have HR := Aside0.mk hr
  have H0 := Aside0.mk hr0
  clear hr hc h hr0
  go_enter Try.func45, Try.ntmps45
  go_upto_region 0 with (fail)
  go_cut [4, 6] (fun v4 v6 we => v4 = .pointer (some ⟨w.heap.size, 0, none⟩) ∧ v6 = .pointer (some ⟨w.heap.size + 1, 0, none⟩) ∧ Aside0 (Below w.heap.size w we) ∧ Aside0 (we.heap[w.heap.size]? = some (.cells #[.string g0, .string g1, .string g2] 39 (0, 0))) ∧ Aside0 (we.heap[w.heap.size + 1]? = some (.cells #[.int .i64 0, .int .i64 0, .int .i64 0, .int .i64 0] 37 (0, 0))) ∧ Aside0 (we.heap.size = w.heap.size + 2))
  case first =>
    go_wp2
    go_meet
    case rel => exact ⟨rfl, rfl, ⟨below_alloc (below_alloc (Below.refl _ _) _) _⟩, ⟨blk_alloc (blk_new _ _) _⟩, ⟨by have := blk_new (w.alloc (.cells #[.string g0, .string g1, .string g2] 39 (0, 0))) (.cells #[.int .i64 0, .int .i64 0, .int .i64 0, .int .i64 0] 37 (0, 0)); rw [show (w.alloc (.cells #[.string g0, .string g1, .string g2] 39 (0, 0))).heap.size = w.heap.size + 1 by show (w.heap.push _).size = _; rw [Array.size_push]] at this; exact this⟩, ⟨sz2M _ _ _⟩⟩
  case rest =>
    obtain ⟨rfl, rfl, HB, HG, HZ, HN⟩ := hcut
    go_upto_region 1 with (fail)
    go_cut [7] (fun v7 we => v7 = .pointer (some ⟨w.heap.size + 2, 0, none⟩) ∧ Aside0 (TotW w g0 g1 g2 ⟨0, 0, 0, 0⟩ we))
    case first =>
      go_wp2
      go_meet
      case rel =>
        refine ⟨by rw [HN.out], ⟨below_alloc HB.out _, blk_alloc HG.out _, blk_alloc HZ.out _, ?_⟩⟩
        have := blk_new wc (.cells #[.int .i64 0, .int .i64 0, .int .i64 0, .int .i64 0] 37 (0, 0))
        rw [HN.out] at this
        exact this
    case rest =>
      obtain ⟨rfl, HT⟩ := hcut
      clear HB HG HZ HN
      go_wp2
      go_loopg [8] 20 (fun kq v8 wr => ∃ (i : Int) (o : S37), v8 = .int .i64 i ∧ Aside0 (totGo l lv g0 g1 g2 kq i o = some r) ∧ Aside0 (TotW w g0 g1 g2 o wr))
      case atStart => exact ⟨0, _, rfl, H0, HT⟩
      case round =>
        clear H0 HT
        obtain ⟨i, o, rfl, HH, HT⟩ := hrel
        cases gk with
        | zero => exact absurd HH.out (by simp [totGo])
        | succ k1 =>
        have H := HH.out
        clear HH
        simp only [totGo] at H
        by_cases hi : i < (l.length : Int)
        rotate_left
        · rw [if_neg hi] at H
          have hib := decide_eq_false hi
          obtain rfl := Option.some.inj H
          obtain ⟨z0, z1, z2, z3⟩ := tot4 HT.out.o
          obtain ⟨q0, q1, q2, q3⟩ := tot4 HT.out.z
          have f0 := blk_frozen HT.out.z 0
          have f1 := blk_frozen HT.out.z 1
          have f2 := blk_frozen HT.out.z 2
          have f3 := blk_frozen HT.out.z 3
          clear hi
          go_wp2
          refine bodyPost_ret (results_cell_row rfl _ _ (w.heap.size + 1) 37 #[.int .i64 o.f0, .int .i64 o.f1, .int .i64 o.f2, .int .i64 o.f3] (0, 0) _ rfl (blk_put (blk_put (blk_put (blk_put HT.out.z 0 (.int .i64 o.f0) rfl) 1 (.int .i64 o.f1) rfl) 2 (.int .i64 o.f2) rfl) 3 (.int .i64 o.f3) rfl) Try.underlying37 rfl (show (Try.prog.info? 37).map (·.size) = some 4 by kernel_rfl)) rfl ?_
          exact ⟨rfl, below_set (below_set (below_set (below_set HT.out.b (Nat.le_add_right _ 1)) (Nat.le_add_right _ 1)) (Nat.le_add_right _ 1)) (Nat.le_add_right _ 1)⟩
        rw [if_pos hi] at H
        have hib := decide_eq_true hi
        by_cases h0 : 0 ≤ i
        rotate_left
        · rw [if_neg h0] at H; cases H
        rw [if_pos h0] at H
        obtain ⟨⟨hs, o2⟩, hp, H⟩ := Option.bind_eq_some_iff.1 H
        have HP := Aside0.mk hp
        have HN := Aside0.mk H
        have D0 := Aside0.mk h0
        have D1 := Aside0.mk hi
        obtain ⟨ad, A2, c2, hA0, y0, y1, y2, hl2, hC2⟩ := at_T53 (Kd.C_below HR.out HT.out.b) i D0.out D1.out
        subst hA0
        clear hp H h0 hi y0 y1 y2 hl2 hC2
        go_upto_block 2 with (fail)
        go_cut [9] (fun v9 we => v9 = .bool hs ∧ Aside0 (TotW w g0 g1 g2 o2 we))
        case first =>
          go_wp2
          go_loopg [9, 10] 20 (fun kq v9 v10 wq => ∃ (has : Bool) (j : Int) (o : S37), v9 = .bool has ∧ v10 = .int .i64 j ∧ Aside0 (totIn l i lv g0 g1 g2 kq j has o = some (hs, o2)) ∧ Aside0 (TotW w g0 g1 g2 o wq))
          case atStart => exact ⟨false, 0, o, rfl, rfl, HP, HT⟩
          case round =>
            clear HP HT
            obtain ⟨has, j, o, rfl, rfl, HH, HT⟩ := hrel
            cases gk with
            | zero => exact absurd HH.out (by simp [totIn])
            | succ k2 =>
            have H := HH.out
            clear HH
            simp only [totIn] at H
            obtain ⟨ad', A2, c2, hA', y0, y1, y2, hl2, hC2⟩ := at_T53 (Kd.C_below HR.out HT.out.b) i D0.out D1.out
            cases hA'
            have d0 := eq_true D0.out
            have d1 := eq_true D1.out
            by_cases hj : j < ((rd_T53 l i).f2.length : Int)
            rotate_left
            · rw [if_neg hj] at H
              have hjb := decide_eq_false hj
              have he := Option.some.inj H
              have he1 := (Prod.mk.inj he).1
              have he2 := (Prod.mk.inj he).2
              subst he1 he2
              clear hj he H
              go_wp2
              go_meet
              case rel => exact ⟨rfl, HT⟩
            rw [if_pos hj] at H
            have hjb := decide_eq_true hj
            by_cases hj0 : 0 ≤ j
            rotate_left
            · rw [if_neg hj0] at H; cases H
            rw [if_pos hj0] at H
            obtain ⟨ad2, A12, c12, A13, c13, hA2, s0, s1, s2, s3, s4, s5, s6, s7, s8, s9, s10, s11, s12, s13, hl12, hC12, hl13, hC13⟩ := at_T58 hC2 j hj0 hj
            subst hA2
            obtain ⟨s, hs_⟩ : ∃ s, rd_T58 (rd_T53 l i).f2 j = s := ⟨_, rfl⟩
            rw [hs_] at H s0 s1 s2 s3 s4 s5 s6 s7 s8 s9 s10 s11 s12 s13 hl12 hC12 hl13 hC13
            have HC12 := Aside0.mk hC12
            have HC13 := Aside0.mk hC13
            have HL12 := Aside0.mk hl12
            have HL13 := Aside0.mk hl13
            have d2 := eq_true hj0
            have d3 := eq_true hj
            have HN := Aside0.mk H
            clear H hj hj0 hs_ hC12 hC13 hl12 hl13 hl2 hC2
            go_upto_region 9 with (fail)
            go_cut [11] (fun v11 we => ∃ g : Nat, v11 = .pointer (some ⟨g, 0, none⟩) ∧ Aside0 (w.heap.size + 3 ≤ g) ∧ Aside0 (Below wr.heap.size wr we) ∧ Aside0 (TotW w g0 g1 g2 o we) ∧ Aside0 (we.heap[g]? = some (.cells (spOf s (.slice A12 s.f12.length c12) (.slice A13 s.f13.length c13)) 58 (0, 0))))
            case first =>
              go_wp2
              go_meet
              case rel => exact ⟨_, rfl, ⟨blk_lt HT.out.o⟩, ⟨below_alloc (Below.refl _ _) _⟩, ⟨HT.out.move (below_alloc (Below.refl _ _) _)⟩, ⟨blk_new _ _⟩⟩
            case rest =>
              obtain ⟨g, rfl, HGE, HBQ, HT2, HX⟩ := hcut
              clear y0 y1 y2 s0 s1 s2 s3 s4 s5 s6 s7 s8 s9 s10 s11 s12 s13
              obtain ⟨s0, s1, s2, s3, s4, s5, s6, s7, s8, s9, s10, s11, s12, s13⟩ := sp_cells HX.out
              obtain ⟨q0, q1, q2⟩ := tot3 HT2.out.g
              go_upto_region 10 with (fail)
              go_cut [40] (fun v40 we => v40 = .bool (!tHit s lv g0 g1 g2) ∧ Aside0 (TotW w g0 g1 g2 o we) ∧ Aside0 (we.heap[g]? = some (.cells (spOf s (.slice A12 s.f12.length c12) (.slice A13 s.f13.length c13)) 58 (0, 0))))
              case first =>
                obtain ⟨k1, k2, hk, ht⟩ : ∃ k1 k2 : ByteArray, sleuthlaw25_group.f s.f0 s.f1 s.f2 s.f3 s.f4 s.f5 s.f6 s.f7 s.f8 s.f9 s.f10 s.f11 s.f12 s.f13 lv = some (s.f6, k1, k2) ∧ tHit s lv g0 g1 g2 = (s.f6.toList == g0.toList && (k1.toList == g1.toList && k2.toList == g2.toList)) := ⟨_, _, rfl, rfl⟩
                have HK := Aside0.mk hk
                have HIT := Aside0.mk ht
                clear hk ht
                go_region_held3 (fun w' => (w'.cell? ⟨g, 0, none⟩ = some (.int .i64 s.f0) ∧ w'.cell? ⟨g, 1, none⟩ = some (.int .i64 s.f1) ∧ w'.cell? ⟨g, 2, none⟩ = some (.int .i64 s.f2) ∧ w'.cell? ⟨g, 3, none⟩ = some (.int .i64 s.f3) ∧ w'.cell? ⟨g, 4, none⟩ = some (.int .i64 s.f4) ∧ w'.cell? ⟨g, 5, none⟩ = some (.int .i64 s.f5) ∧ w'.cell? ⟨g, 6, none⟩ = some (.string s.f6) ∧ w'.cell? ⟨g, 7, none⟩ = some (.string s.f7) ∧ w'.cell? ⟨g, 8, none⟩ = some (.string s.f8) ∧ w'.cell? ⟨g, 9, none⟩ = some (.int .i64 s.f9) ∧ w'.cell? ⟨g, 10, none⟩ = some (.int .i64 s.f10) ∧ w'.cell? ⟨g, 11, none⟩ = some (.bool s.f11) ∧ w'.cell? ⟨g, 12, none⟩ = some (.slice A12 s.f12.length c12) ∧ w'.cell? ⟨g, 13, none⟩ = some (.slice A13 s.f13.length c13)) ∧ (w'.cell? ⟨w.heap.size, 0, none⟩ = some (.string g0) ∧ w'.cell? ⟨w.heap.size, 1, none⟩ = some (.string g1) ∧ w'.cell? ⟨w.heap.size, 2, none⟩ = some (.string g2)) ∧ Aside0 (Below wc.heap.size wc w'))
                  (first | (go_keep; done) | ((repeat' apply And.intro) <;> (first | exact pw_cell_below (w := wc) (by repeat' (with_reducible first | exact Below.refl _ _ | exact Nat.le_refl _ | apply below_alloc | apply below_drew1 | refine below_set ?_ ?_ | refine below_size ?_ | refine below_step ?_ (by assumption))) (by assumption) | exact ⟨(by repeat' (with_reducible first | exact Below.refl _ _ | exact Nat.le_refl _ | apply below_alloc | apply below_drew1 | refine below_set ?_ ?_ | refine below_size ?_ | refine below_step ?_ (by assumption)))⟩)))
                  (first | (go_at_call 21; (with_reducible refine (sleuthlaw25_group.calls s.f0 s.f1 s.f2 s.f3 s.f4 s.f5 s.f6 s.f7 s.f8 s.f9 s.f10 s.f11 _ _ s.f12 _ _ s.f13 lv _ _ _ _ ?x1 ?x2 ?x3 ?x4 HK.out).mono ?_); (case x1 => go_split_ands; exact Kd.C_below (Kd.C_below HC12.out HBQ.out) (Aside0.out (by assumption))); (case x2 => exact HL12.out); (case x3 => go_split_ands; exact Kd.C_below (Kd.C_below HC13.out HBQ.out) (Aside0.out (by assumption))); (case x4 => exact HL13.out); rintro e w' ⟨rfl, hb⟩))
                all_goals
                  (try go_wp2)
                  go_meet
                  case rel => exact ⟨by rw [HIT.out]; simp [Bool.not_and], ⟨HT2.out.move (by repeat' (with_reducible first | exact Below.refl _ _ | exact Nat.le_refl _ | apply below_alloc | apply below_drew1 | refine below_set ?_ ?_ | refine below_size ?_ | refine below_step ?_ (by assumption)))⟩, ⟨blk_below HX.out (by repeat' (with_reducible first | exact Below.refl _ _ | exact Nat.le_refl _ | apply below_alloc | apply below_drew1 | refine below_set ?_ ?_ | refine below_size ?_ | refine below_step ?_ (by assumption)))⟩⟩
              case rest =>
                obtain ⟨rfl, HT3, HX3⟩ := hcut
                clear HT2 HX HBQ HC12 HC13 HL12 HL13 s0 s1 s2 s3 s4 s5 s6 s7 s8 s9 s10 s11 s12 s13 q0 q1 q2
                cases hB : tHit s lv g0 g1 g2 with
                | false =>
                  have HN2 : Aside0 (totIn l i lv g0 g1 g2 k2 (wrap64 (j + 1)) has o = some (hs, o2)) := ⟨by have := HN.out; rw [hB, if_neg (by decide)] at this; exact this⟩
                  go_wp2
                  go_roundg k2
                  case measure => omega
                  case rel => exact ⟨has, _, o, rfl, rfl, HN2, HT3⟩
                | true =>
                  have HN2 : Aside0 (totIn l i lv g0 g1 g2 k2 (wrap64 (j + 1)) true (tAdd o (rd_T53 l i).f1 s) = some (hs, o2)) := ⟨by have := HN.out; rw [hB, if_pos rfl] at this; exact this⟩
                  clear HN
                  obtain ⟨wt, hwt⟩ : ∃ wt, (rd_T53 l i).f1 = wt := ⟨_, rfl⟩
                  rw [hwt] at HN2
                  have SF : ∀ (W' : World) (o' : S37), TotW w g0 g1 g2 o' W' → W'.heap[g]? = some (.cells (spOf s (.slice A12 s.f12.length c12) (.slice A13 s.f13.length c13)) 58 (0, 0)) → W'.cell? ⟨(ad.add (i.toNat * 3)).block, (ad.add (i.toNat * 3)).off + 1, none⟩ = some (.int .i64 wt) ∧ W'.cell? ⟨g, 10, none⟩ = some (.int .i64 s.f10) ∧ W'.cell? ⟨g, 9, none⟩ = some (.int .i64 s.f9) ∧ W'.cell? ⟨g, 11, none⟩ = some (.bool s.f11) := fun W' o' h hx => by
                    obtain ⟨ad', A2', c2', hA', _, y1, _, _, _⟩ := at_T53 (Kd.C_below HR.out h.b) i D0.out D1.out
                    cases hA'
                    rw [hwt] at y1
                    exact ⟨y1, (blk_cell hx 10).trans rfl, (blk_cell hx 9).trans rfl, (blk_cell hx 11).trans rfl⟩
                  go_upto_region 12 with (fail)
                  go_cut [] (fun we => Aside0 (TotW w g0 g1 g2 ⟨wrap64 (o.f0 + wt), o.f1, wrap64 (o.f2 + wrap64 (wt * wrap64 (s.f10 - s.f9))), o.f3⟩ we) ∧ Aside0 (we.heap[g]? = some (.cells (spOf s (.slice A12 s.f12.length c12) (.slice A13 s.f13.length c13)) 58 (0, 0))))
                  case first =>
                    refine start_ (n := 26) (S := fun w' => w'.cell? ⟨(ad.add (i.toNat * 3)).block, (ad.add (i.toNat * 3)).off + 1, none⟩ = some (.int .i64 wt) ∧ w'.cell? ⟨g, 10, none⟩ = some (.int .i64 s.f10) ∧ w'.cell? ⟨g, 9, none⟩ = some (.int .i64 s.f9) ∧ w'.cell? ⟨g, 11, none⟩ = some (.bool s.f11)) (ds := [25]) (Array.replicate 26 false) (by kernel_rfl) rfl rfl (SF _ _ (HT3.out.move (below_drew1 (Below.refl _ _))) (blk_drew HX3.out)) (fun hHeld => ?_)
                    refine with_tabW sleuthlaw25_total.tab12 sleuthlaw25_total.bits12 (fun HT_ HW_ => ?_)
                    have HT4 := Aside0.mk (HT3.out.move (below_drew1 (Below.refl _ _)))
                    have HX4 := Aside0.mk (blk_drew HX3.out)
                    clear HT3 HX3
                    generalize wc.drew = W at HT4 HX4 hHeld ⊢
                    refine pC_ 0 41 HT_ ?_
                    refine pC_ 2 43 HT_ ?_
                    refine pC_ 3 44 HT_ ?_
                    refine pC_ 4 45 HT_ ?_
                    refine pC_ 5 46 HT_ ?_
                    refine pC_ 8 49 HT_ ?_
                    refine pC_ 10 51 HT_ ?_
                    refine pC_ 11 52 HT_ ?_
                    refine pC_ 12 53 HT_ ?_
                    refine pC_ 13 54 HT_ ?_
                    refine pC_ 15 56 HT_ ?_
                    refine pC_ 17 58 HT_ ?_
                    refine tC_ 6 47 HT_ HW_ hHeld ?_
                    refine tC_ 14 55 HT_ HW_ hHeld ?_
                    refine tC_ 16 57 HT_ HW_ hHeld ?_
                    refine tC_ 18 59 HT_ HW_ hHeld ?_
                    refine pC_ 19 60 HT_ ?_
                    refine pC_ 20 61 HT_ ?_
                    obtain ⟨u0, u1, u2, u3⟩ := tot4 HT4.out.o
                    refine two_ (i := 1) (j := 9) (Ni := some 42) (Nj := some 50) (toM true false false false false false false false) (toM false false true false false false false false) rfl rfl rfl rfl (two_of HT_.out (by kernel_rfl)) (by decide) (by decide) (fun K hK => ?_) (fun K hK => ?_)
                    rotate_left
                    · refine val_ 50 (v := .int .i64 o.f2) ?_
                      refine hK.out _ _ hHeld (fun _ => nm_ ?_)
                      refine pC_ 21 62 HT_ ?_
                      refine one_ (i := 1) (N := some 42) (toM true false true true false false false false) rfl rfl (one_of HT_.out (by kernel_rfl)) (by decide) (fun K hK => ?_)
                      refine val_ 42 (v := .int .i64 o.f0) ?_
                      refine hK.out _ _ hHeld (fun _ => nm_ ?_)
                      refine pC_ 7 48 HT_ ?_
                      refine pC_ 22 63 HT_ ?_
                      have f0 := blk_frozen HT4.out.o 0
                      refine one_ (i := 23) (N := none) (toM true true true true true true false false) rfl rfl (one_of HT_.out (by kernel_rfl)) (by decide) (fun K hK => ?_)
                      refine skip_ (w1 := ?_) (by rfl) rfl ?_ ?_
                      rotate_left
                      · go_simp
                        rfl
                      have HT5 := Aside0.mk (HT4.out.put 0 (wrap64 (o.f0 + wt)) ⟨wrap64 (o.f0 + wt), o.f1, o.f2, o.f3⟩ rfl)
                      have HX5 := Aside0.mk (blk_far (p := ⟨w.heap.size + 2, 0, none⟩) HX4.out (by have := HGE.out; show g ≠ w.heap.size + 2; omega) (.int .i64 (wrap64 (o.f0 + wt))))
                      refine hK.out _ _ (SF _ _ HT5.out HX5.out) (fun hHeld => ?_)
                      refine pC_ 24 64 HT_ ?_
                      obtain ⟨u0, u1, u2, u3⟩ := tot4 HT5.out.o
                      have f2 := blk_frozen HT5.out.o 2
                      refine last_ (i := 25) (N := none) (toM true true true true true true true true) rfl rfl (one_of HT_.out (by kernel_rfl)) (by decide) (fun K hK => ?_)
                      refine skip_ (w1 := ?_) (by rfl) rfl ?_ ?_
                      rotate_left
                      · go_simp
                        rfl
                      refine hK.out _ _ ?_
                      refine done_ (done_of HT_.out (by kernel_rfl)) ?_
                      (try go_wp2)
                      go_meet
                      case rel => exact ⟨⟨HT5.out.put 2 _ ⟨wrap64 (o.f0 + wt), o.f1, wrap64 (o.f2 + wrap64 (wt * wrap64 (s.f10 - s.f9))), o.f3⟩ rfl⟩, ⟨blk_far (p := ⟨w.heap.size + 2, 2, none⟩) HX5.out (by have := HGE.out; show g ≠ w.heap.size + 2; omega) _⟩⟩
                    · refine val_ 42 (v := .int .i64 o.f0) ?_
                      refine hK.out _ _ hHeld (fun _ => nm_ ?_)
                      refine pC_ 7 48 HT_ ?_
                      refine one_ (i := 9) (N := some 50) (toM true true true false false false false false) rfl rfl (one_of HT_.out (by kernel_rfl)) (by decide) (fun K hK => ?_)
                      refine val_ 50 (v := .int .i64 o.f2) ?_
                      refine hK.out _ _ hHeld (fun _ => nm_ ?_)
                      refine pC_ 21 62 HT_ ?_
                      refine pC_ 22 63 HT_ ?_
                      have f0 := blk_frozen HT4.out.o 0
                      refine one_ (i := 23) (N := none) (toM true true true true true true false false) rfl rfl (one_of HT_.out (by kernel_rfl)) (by decide) (fun K hK => ?_)
                      refine skip_ (w1 := ?_) (by rfl) rfl ?_ ?_
                      rotate_left
                      · go_simp
                        rfl
                      have HT5 := Aside0.mk (HT4.out.put 0 (wrap64 (o.f0 + wt)) ⟨wrap64 (o.f0 + wt), o.f1, o.f2, o.f3⟩ rfl)
                      have HX5 := Aside0.mk (blk_far (p := ⟨w.heap.size + 2, 0, none⟩) HX4.out (by have := HGE.out; show g ≠ w.heap.size + 2; omega) (.int .i64 (wrap64 (o.f0 + wt))))
                      refine hK.out _ _ (SF _ _ HT5.out HX5.out) (fun hHeld => ?_)
                      refine pC_ 24 64 HT_ ?_
                      obtain ⟨u0, u1, u2, u3⟩ := tot4 HT5.out.o
                      have f2 := blk_frozen HT5.out.o 2
                      refine last_ (i := 25) (N := none) (toM true true true true true true true true) rfl rfl (one_of HT_.out (by kernel_rfl)) (by decide) (fun K hK => ?_)
                      refine skip_ (w1 := ?_) (by rfl) rfl ?_ ?_
                      rotate_left
                      · go_simp
                        rfl
                      refine hK.out _ _ ?_
                      refine done_ (done_of HT_.out (by kernel_rfl)) ?_
                      (try go_wp2)
                      go_meet
                      case rel => exact ⟨⟨HT5.out.put 2 _ ⟨wrap64 (o.f0 + wt), o.f1, wrap64 (o.f2 + wrap64 (wt * wrap64 (s.f10 - s.f9))), o.f3⟩ rfl⟩, ⟨blk_far (p := ⟨w.heap.size + 2, 2, none⟩) HX5.out (by have := HGE.out; show g ≠ w.heap.size + 2; omega) _⟩⟩
                  case rest =>
                    obtain ⟨HT6, HX6⟩ := hcut
                    obtain ⟨o5, ho5⟩ : ∃ o5 : S37, ⟨wrap64 (o.f0 + wt), o.f1, wrap64 (o.f2 + wrap64 (wt * wrap64 (s.f10 - s.f9))), o.f3⟩ = o5 := ⟨_, rfl⟩
                    rw [ho5] at HT6
                    clear HT3 HX3
                    have y11 := (SF _ _ HT6.out HX6.out).2.2.2
                    go_upto_if 66 with (fail)
                    cases hE : s.f11 with
                    | false =>
                      have HN3 : Aside0 (totIn l i lv g0 g1 g2 k2 (wrap64 (j + 1)) true o5 = some (hs, o2)) := ⟨by have := HN2.out; rw [show tAdd o wt s = o5 by rw [← ho5]; unfold tAdd; rw [hE]; rfl] at this; exact this⟩
                      go_wp2
                      go_roundg k2
                      case measure => omega
                      case rel => exact ⟨true, _, _, rfl, rfl, HN3, HT6⟩
                    | true =>
                      have HN3 : Aside0 (totIn l i lv g0 g1 g2 k2 (wrap64 (j + 1)) true ⟨o5.f0, wrap64 (o5.f1 + wt), o5.f2, o5.f3⟩ = some (hs, o2)) := ⟨by have := HN2.out; rw [show tAdd o wt s = ⟨o5.f0, wrap64 (o5.f1 + wt), o5.f2, o5.f3⟩ by rw [← ho5]; unfold tAdd; rw [hE]; rfl] at this; exact this⟩
                      go_wp2
                      refine start_ (n := 10) (S := fun w' => w'.cell? ⟨(ad.add (i.toNat * 3)).block, (ad.add (i.toNat * 3)).off + 1, none⟩ = some (.int .i64 wt) ∧ w'.cell? ⟨w.heap.size + 2, 1, none⟩ = some (.int .i64 o5.f1)) (ds := [9]) (Array.replicate 10 false) (by kernel_rfl) rfl rfl ⟨(SF _ _ (HT6.out.move (below_drew1 (Below.refl _ _))) (blk_drew HX6.out)).1, (blk_cell (HT6.out.move (below_drew1 (Below.refl _ _))).o 1).trans rfl⟩ (fun hHeld => ?_)
                      refine with_tabW sleuthlaw25_total.tab14 sleuthlaw25_total.bits14 (fun HT_ HW_ => ?_)
                      have HT8 := Aside0.mk (HT6.out.move (below_drew1 (Below.refl _ _)))
                      generalize wc.drew = W at HT8 hHeld ⊢
                      refine pC_ 0 67 HT_ ?_
                      refine pC_ 2 69 HT_ ?_
                      refine pC_ 3 70 HT_ ?_
                      refine pC_ 4 71 HT_ ?_
                      refine pC_ 5 72 HT_ ?_
                      refine tC_ 1 68 HT_ HW_ hHeld ?_
                      refine tC_ 6 73 HT_ HW_ hHeld ?_
                      refine pC_ 7 74 HT_ ?_
                      refine pC_ 8 75 HT_ ?_
                      obtain ⟨u0, u1, u2, u3⟩ := tot4 HT8.out.o
                      have fz := blk_frozen HT8.out.o 1
                      refine last_ (i := 9) (N := none) (Array.replicate 10 true) rfl rfl (one_of HT_.out (by kernel_rfl)) (by decide) (fun K hK => ?_)
                      refine skip_ (w1 := ?_) (by rfl) rfl ?_ ?_
                      rotate_left
                      · go_simp
                        rfl
                      refine hK.out _ _ ?_
                      refine done_ (done_of HT_.out (by kernel_rfl)) ?_
                      (try go_wp2)
                      go_roundg k2
                      case measure => omega
                      case rel => exact ⟨true, _, _, rfl, rfl, HN3, ⟨HT8.out.put 1 _ _ rfl⟩⟩
        case rest =>
          obtain ⟨rfl, HT1⟩ := hcut
          clear HP HT
          obtain ⟨wt, hwt⟩ : ∃ wt, (rd_T53 l i).f1 = wt := ⟨_, rfl⟩
          rw [hwt] at HN
          have SF : ∀ (W' : World), TotW w g0 g1 g2 o2 W' → W'.cell? ⟨(ad.add (i.toNat * 3)).block, (ad.add (i.toNat * 3)).off + 1, none⟩ = some (.int .i64 wt) := fun W' h => by
            obtain ⟨ad', A2', c2', hA', _, y1, _, _, _⟩ := at_T53 (Kd.C_below HR.out h.b) i D0.out D1.out
            cases hA'
            rw [hwt] at y1
            exact y1
          have d0 := eq_true D0.out
          have d1 := eq_true D1.out
          cases hs with
          | false =>
            have HN2 : Aside0 (totGo l lv g0 g1 g2 k1 (wrap64 (i + 1)) o2 = some r) := ⟨by have := HN.out; simpa using this⟩
            go_wp2
            go_roundg k1
            case measure => omega
            case rel => exact ⟨_, _, rfl, HN2, HT1⟩
          | true =>
            have HN2 : Aside0 (totGo l lv g0 g1 g2 k1 (wrap64 (i + 1)) ⟨o2.f0, o2.f1, o2.f2, wrap64 (o2.f3 + wt)⟩ = some r) := ⟨by have := HN.out; simpa using this⟩
            go_wp2
            refine start_ (n := 10) (S := fun w' => w'.cell? ⟨(ad.add (i.toNat * 3)).block, (ad.add (i.toNat * 3)).off + 1, none⟩ = some (.int .i64 wt) ∧ w'.cell? ⟨w.heap.size + 2, 3, none⟩ = some (.int .i64 o2.f3)) (ds := [9]) (Array.replicate 10 false) (by kernel_rfl) rfl rfl ⟨SF _ (HT1.out.move (below_drew1 (Below.refl _ _))), (blk_cell (HT1.out.move (below_drew1 (Below.refl _ _))).o 3).trans rfl⟩ (fun hHeld => ?_)
            refine with_tabW sleuthlaw25_total.tab16 sleuthlaw25_total.bits16 (fun HT_ HW_ => ?_)
            have HT8 := Aside0.mk (HT1.out.move (below_drew1 (Below.refl _ _)))
            generalize wc.drew = W at HT8 hHeld ⊢
            refine pC_ 0 77 HT_ ?_
            refine pC_ 2 79 HT_ ?_
            refine pC_ 3 80 HT_ ?_
            refine pC_ 4 81 HT_ ?_
            refine pC_ 5 82 HT_ ?_
            refine tC_ 1 78 HT_ HW_ hHeld ?_
            refine tC_ 6 83 HT_ HW_ hHeld ?_
            refine pC_ 7 84 HT_ ?_
            refine pC_ 8 85 HT_ ?_
            obtain ⟨u0, u1, u2, u3⟩ := tot4 HT8.out.o
            have fz := blk_frozen HT8.out.o 3
            refine last_ (i := 9) (N := none) (Array.replicate 10 true) rfl rfl (one_of HT_.out (by kernel_rfl)) (by decide) (fun K hK => ?_)
            refine skip_ (w1 := ?_) (by rfl) rfl ?_ ?_
            rotate_left
            · go_simp
              rfl
            refine hK.out _ _ ?_
            refine done_ (done_of HT_.out (by kernel_rfl)) ?_
            (try go_wp2)
            go_roundg k1
            case measure => omega
            case rel => exact ⟨_, _, rfl, HN2, ⟨HT8.out.put 3 _ _ rfl⟩⟩
end Go.Proofs.Ythdifdnjodbdnaa.Q
