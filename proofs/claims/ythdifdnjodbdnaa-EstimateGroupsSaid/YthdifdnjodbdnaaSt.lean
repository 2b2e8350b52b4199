/- sleuthlaw13.Trace, by hand (with the times as the clocks show them). -/
import Derived.Test.YthdifdnjodbdnaaMd
import Derived.Test.YthdifdnjodbdnaaOff
import Derived.Test.YthdifdnjodbdnaaTm
namespace Go.Proofs.Ythdifdnjodbdnaa.Q
open Go.RowKit Go.Proofs.YthdifdnjodbdnaaW.PrintWords Go.Proofs.YthdifdnjodbdnaaW.PrintLast Go.Proofs.YthdifdnjodbdnaaW.PrintMore
set_option linter.unusedVariables false
set_option linter.unusedSimpArgs false
set_option linter.unusedSimpArgs false
/-- Whether the times of a span are wrong. -/
def wrongB (wg a1 i : Int) : Bool := decide (wg > 0) && (Int.tmod (wrap64 wg) 8 == i) && (Int.tmod (wrap64 (Int.tdiv (wrap64 wg) 8)) 3 == a1)
def addF (s : S58) (b : Int) : S58 := { s with f9 := wrap64 (s.f9 + b), f10 := wrap64 (s.f10 + b) }
section
variable (l0 : List S104) (o1 o2 o3 o4 : Int) (l5 : List S193) (wg a1 : Int)
def byF (i clk : Int) : Option Int := (sleuthlaw13_Offset.f l0 o1 o2 o3 o4 l5 wg clk).bind fun b => some (if wrongB wg a1 i = true then wrap64 (b + 500) else b)
def spanF (i : Int) (st en : List Int) : Option S58 := (madeF l0 o1 o2 o3 o4 l5 wg a1 i st en).bind fun s => (byF l0 o1 o2 o3 o4 l5 wg a1 i s.f4).bind fun b => some (addF s b)
def trGo (st en : List Int) : Nat → Int → List S58 → Option (List S58)
  | 0, _, _ => none
  | k + 1, i, acc => if i < ((rd_T104 l0 a1).f2.length : Int) then (if acc.length < 1000 then (spanF l0 o1 o2 o3 o4 l5 wg a1 i st en).bind fun s => trGo st en k (wrap64 (i + 1)) (acc ++ [s]) else none) else some acc
end
def sleuthlaw13_Trace.f (l0 : List S104) (o1 o2 o3 o4 : Int) (l5 : List S193) (wg a1 : Int) (a2 : Bool) : Option (List S58) :=
  if 0 ≤ a1 ∧ a1 < l0.length ∧ a2 = false then (sleuthlaw13_times.f 200 (rd_T104 l0 a1).f0 (rd_T104 l0 a1).f1 (rd_T104 l0 a1).f2).bind fun b => trGo l0 o1 o2 o3 o4 l5 wg a1 b.1 b.2 40 0 [] else none
/-- A world of Trace's. -/
structure TW (w : World) (st : Array Value) (W : World) : Prop where
  b : Below w.heap.size w W
  s : W.heap[w.heap.size]? = some (.cells st 27 (0, 0))
theorem TW.move {w : World} {st : Array Value} {W W' : World} (h : TW w st W) (hb : Below W.heap.size W W') : TW w st W' := ⟨below_step h.b hb, blk_below h.s hb⟩
theorem TW.put {w : World} {st : Array Value} {W : World} (h : TW w st W) {g : Nat} (hg : w.heap.size + 1 ≤ g) (i : Nat) (v : Value) : TW w st (W.setCell ⟨g, i, none⟩ v) := ⟨h.b.setCell (Nat.le_trans (Nat.le_add_right _ 1) hg) _, blk_far h.s (by show w.heap.size ≠ g; omega) _⟩
theorem far2S {α : Type} {d : Kd α} {e base g i j : Nat} {ok : Nat → Prop} {v u1 u2 : Value} {xs : List α} {W : World} (hok : ∀ k, ok k → k ≠ g) (h : Kd.S d e W base ok v xs) : Kd.S d e ((W.setCell ⟨g, i, none⟩ u1).setCell ⟨g, j, none⟩ u2) base ok v xs := Kd.S_far (p := ⟨g, j, none⟩) (Kd.S_far (p := ⟨g, i, none⟩) h hok u1) hok u2
theorem far2 {α : Type} {d : Kd α} {e base g i j : Nat} {ok : Nat → Prop} {v u1 u2 : Value} {xs : List α} {W : World} (hok : ∀ k, ok k → k ≠ g) (h : d.R e W base ok v xs) : d.R e ((W.setCell ⟨g, i, none⟩ u1).setCell ⟨g, j, none⟩ u2) base ok v xs := Kd.R_far (p := ⟨g, j, none⟩) (Kd.R_far (p := ⟨g, i, none⟩) h hok u1) hok u2
set_option maxHeartbeats 8000000 in
set_option maxRecDepth 100000 in
theorem sleuthlaw13_Trace.calls (A0 : Option Addr) (c0 : Nat) (l0 : List S104) (o1 o2 o3 o4 : Int) (A5 : Option Addr) (c5 : Nat) (l5 : List S193) (wg : Int) (a1 : Int) (a2 : Bool) (r : List S58) (w : World)
    (hr0 : Kd.C k104 w A0 l0.length l0) (hc0 : l0.length ≤ c0) (hr5 : Kd.C k193 w A5 l5.length l5) (hc5 : l5.length ≤ c5) (h : sleuthlaw13_Trace.f l0 o1 o2 o3 o4 l5 wg a1 a2 = some r) :
    Calls Try.prog 42 #[.agg #[.slice A0 l0.length c0, .int .i8 o1, .int .i8 o2, .int .i8 o3, .int .i8 o4, .slice A5 l5.length c5, .int .u8 wg], .int .i64 a1, .bool a2] w fun e w' =>
      ∃ v0_ : Value, e = .returned v0_ ∧ Kd.S k58 58 w' w.heap.size (fun _ => True) v0_ r ∧ Below w.heap.size w w' := by
  unfold sleuthlaw13_Trace.f at h
  split at h
  case isFalse => cases h
  rename_i hc
  obtain ⟨h1, h2, rfl⟩ := hc
  obtain ⟨⟨st, en⟩, ht, h⟩ := Option.bind_eq_some_iff.1 h
  have H0 := Aside0.mk h
  have HT := Aside0.mk ht
  have HR0 := Aside0.mk hr0
  have HR5 := Aside0.mk hr5
  have HC0 := Aside0.mk hc0
  have HC5 := Aside0.mk hc5
  have D1 := Aside0.mk h1
  have D2 := Aside0.mk h2
  clear h ht hr0 hr5 hc0 hc5 h1 h2
  have hu27 := Try.underlying27
  have hu104 := Try.underlying104
  have hu153 := Try.underlying153
  have hu58 := Try.underlying58
  go_enter Try.func42, Try.ntmps42
  go_upto_region 0 with (fail)
  go_cut [3, 6] (fun v3 v6 we => v3 = .pointer (some ⟨w.heap.size, 0, none⟩) ∧ v6 = .slice none 0 0 ∧ Aside0 (TW w (stCells A0 c0 l0 o1 o2 o3 o4 A5 c5 l5 wg) we))
  case first =>
    go_wp2
    go_meet
    case rel => exact ⟨rfl, rfl, ⟨⟨below_alloc (Below.refl _ _) _, blk_new _ _⟩⟩⟩
  case rest =>
    obtain ⟨rfl, rfl, HW0⟩ := hcut
    go_upto_region 2 with (fail)
    go_cut [8, 9] (fun v8 v9 we => ∃ A8 c8 A9 c9, v8 = .slice A8 st.length c8 ∧ v9 = .slice A9 en.length c9 ∧ Aside0 (TW w (stCells A0 c0 l0 o1 o2 o3 o4 A5 c5 l5 wg) we) ∧ Aside0 (Kd.C (Kd.int .i64) we A8 st.length st ∧ st.length ≤ c8 ∧ Kd.C (Kd.int .i64) we A9 en.length en ∧ en.length ≤ c9))
    case first =>
      obtain ⟨ad, A2, c2, hA0, t0, t1, t2, hc2, hr2⟩ := at_T104 (Kd.C_below HR0.out HW0.out.b) a1 D1.out D2.out
      subst hA0
      have d1 := eq_true D1.out
      have d2 := eq_true D2.out
      have b0 : wc.cell? ⟨w.heap.size, 0, none⟩ = some (.slice (some ad) l0.length c0) := (blk_cell HW0.out.s 0).trans rfl
      have HR2 := Aside0.mk hr2
      have HC2 := Aside0.mk hc2
      clear hr2 hc2
      go_wp2_with (go_at_call 68; (with_reducible refine (sleuthlaw13_times.calls 200 _ _ _ _ _ st en _ HR2.out HC2.out HT.out).mono ?_); rintro e w' ⟨v8, v9, rfl, h8, h9, hb⟩; obtain ⟨A8, c8, hv8⟩ := Kd.R_slice h8; obtain ⟨A9, c9, hv9⟩ := Kd.R_slice h9; subst hv8; subst hv9; have H8 := Aside0.mk (Kd.R_reads' h8).2; have H9 := Aside0.mk (Kd.R_reads' h9).2; have HW1 := Aside0.mk (HW0.out.move hb); clear h8 h9 hb)
      go_meet
      case rel => exact ⟨_, _, _, _, rfl, rfl, HW1, ⟨H8.out.2, H8.out.1, H9.out.2, H9.out.1⟩⟩
    case rest =>
      obtain ⟨A8, c8, A9, c9, rfl, rfl, HW1, HSE⟩ := hcut
      clear HW0
      obtain ⟨wb, rfl⟩ : ∃ x : World, x = wc := ⟨_, rfl⟩
      go_wp2
      go_loopg [7, 10] 40 (fun kq v7 v10 wr => ∃ (acc : List S58) (i : Int), v10 = .int .i64 i ∧ Aside0 (Kd.S k58 58 wr wb.heap.size (fun _ => True) v7 acc) ∧ Aside0 (Below wb.heap.size wb wr) ∧ Aside0 (trGo l0 o1 o2 o3 o4 l5 wg a1 st en kq i acc = some r))
      case atStart => exact ⟨[], 0, rfl, ⟨Kd.S_nil _ _ _ _ _⟩, ⟨Below.refl _ _⟩, H0⟩
      case round =>
        obtain ⟨acc, i, rfl, HO, HB, HH⟩ := hrel
        cases gk with
        | zero => exact absurd HH.out (by simp [trGo])
        | succ gk =>
        have H := HH.out
        clear HH
        simp only [trGo] at H
        have HWr := Aside0.mk (HW1.out.move HB.out)
        obtain ⟨ad, A2, c2, hA0, t0, t1, t2, hc2, hr2⟩ := at_T104 (Kd.C_below HR0.out HWr.out.b) a1 D1.out D2.out
        subst hA0
        have d1 := eq_true D1.out
        have d2 := eq_true D2.out
        have b0 : wr.cell? ⟨w.heap.size, 0, none⟩ = some (.slice (some ad) l0.length c0) := (blk_cell HWr.out.s 0).trans rfl
        clear hr2 hc2
        by_cases hi : i < ((rd_T104 l0 a1).f2.length : Int)
        · rw [if_pos hi] at H
          have hib := decide_eq_true hi
          clear hi
          split at H
          case isFalse => cases H
          rename_i hacc
          obtain ⟨s, hs, H⟩ := Option.bind_eq_some_iff.1 H
          obtain ⟨m, hm, hs⟩ := Option.bind_eq_some_iff.1 hs
          obtain ⟨b, hb0, hs⟩ := Option.bind_eq_some_iff.1 hs
          have HM := Aside0.mk hm
          have HBY := Aside0.mk hb0
          have HS := Aside0.mk (Option.some.inj hs)
          have HACC := Aside0.mk hacc
          have HN := Aside0.mk H
          clear hm hb0 hs hacc H
          go_upto_region 6 with (fail)
          go_cut [11] (fun v11 we => ∃ (g : Nat) (A12 : Option Addr) (c12 : Nat) (A13 : Option Addr) (c13 : Nat), v11 = .pointer (some ⟨g, 0, none⟩) ∧ Aside0 (wr.heap.size ≤ g) ∧ Aside0 (TW w (stCells (some ad) c0 l0 o1 o2 o3 o4 A5 c5 l5 wg) we) ∧ Aside0 (Below wb.heap.size wb we) ∧ Aside0 (we.heap[g]? = some (.cells (spOf m (.slice A12 m.f12.length c12) (.slice A13 m.f13.length c13)) 58 (0, 0))) ∧ Aside0 (Kd.S k58 58 we wb.heap.size (fun k => k < wr.heap.size) u7 acc) ∧ Aside0 (Kd.R k141 141 we wb.heap.size (fun k => wr.heap.size ≤ k ∧ k ≠ g) (.slice A12 m.f12.length c12) m.f12) ∧ Aside0 (Kd.R k146 146 we wb.heap.size (fun k => wr.heap.size ≤ k ∧ k ≠ g) (.slice A13 m.f13.length c13) m.f13))
          case first =>
            obtain ⟨b0, b1, b2, b3, b4, b5, b6⟩ := st_cells HWr.out.s
            go_wp2_with (go_at_call 69; (with_reducible refine (madeF_calls _ _ l0 o1 o2 o3 o4 _ _ l5 wg a1 i _ _ st _ _ en m _ ?x1 ?x2 ?x3 ?x4 ?x5 ?x6 ?x7 ?x8 HM.out).mono ?_); (case x1 => exact Kd.C_below HR0.out HWr.out.b); (case x2 => exact HC0.out); (case x3 => exact Kd.C_below HR5.out HWr.out.b); (case x4 => exact HC5.out); (case x5 => exact Kd.C_below HSE.out.1 HB.out); (case x6 => exact HSE.out.2.1); (case x7 => exact Kd.C_below HSE.out.2.2.1 HB.out); (case x8 => exact HSE.out.2.2.2); rintro e w' ⟨v12, v13, rfl, h12, h13, hb⟩; obtain ⟨A12, c12, hv12⟩ := Kd.R_slice h12; obtain ⟨A13, c13, hv13⟩ := Kd.R_slice h13; subst hv12; subst hv13; have H12 := Aside0.mk h12; have H13 := Aside0.mk h13; have HB1 := Aside0.mk hb; clear h12 h13 hb)
            go_meet
            case rel =>
              refine ⟨_, _, _, _, _, rfl, ⟨below_size HB1.out⟩, ⟨(HWr.out.move HB1.out).move (below_alloc (Below.refl _ _) _)⟩, ⟨below_alloc (below_step HB.out HB1.out) _⟩, ⟨blk_new _ _⟩, ⟨Kd.S_alloc (Kd.S_below (Kd.S_mono (Kd.S_bound HO.out) (fun k hk => hk.2.2.1)) HB1.out) _⟩, ⟨?_⟩, ⟨?_⟩⟩
              · exact Kd.R_alloc (Kd.R_lower (Kd.R_mono (Kd.R_bound H12.out) (fun k hk => ⟨hk.2.1, Nat.ne_of_lt hk.2.2.1⟩)) (below_size HB.out)) _
              · exact Kd.R_alloc (Kd.R_lower (Kd.R_mono (Kd.R_bound H13.out) (fun k hk => ⟨hk.2.1, Nat.ne_of_lt hk.2.2.1⟩)) (below_size HB.out)) _
          case rest =>
            obtain ⟨g, A12, c12, A13, c13, rfl, HG, HW2, HB2, HX, HO2, H12, H13⟩ := hcut
            have HWS : Aside0 (w.heap.size + 1 ≤ wr.heap.size) := ⟨blk_lt HWr.out.s⟩
            clear HO HWr b0 t0 t1 t2
            go_upto_if 40 with (fail)
            go_cut [] (fun we => Aside0 (TW w (stCells (some ad) c0 l0 o1 o2 o3 o4 A5 c5 l5 wg) we) ∧ Aside0 (Below wb.heap.size wb we) ∧ Aside0 (we.heap[g]? = some (.cells (spOf (addF m b) (.slice A12 m.f12.length c12) (.slice A13 m.f13.length c13)) 58 (0, 0))) ∧ Aside0 (Kd.S k58 58 we wb.heap.size (fun k => k < wr.heap.size) u7 acc) ∧ Aside0 (Kd.R k141 141 we wb.heap.size (fun k => wr.heap.size ≤ k ∧ k ≠ g) (.slice A12 m.f12.length c12) m.f12) ∧ Aside0 (Kd.R k146 146 we wb.heap.size (fun k => wr.heap.size ≤ k ∧ k ≠ g) (.slice A13 m.f13.length c13) m.f13))
            case first =>
              obtain ⟨q, hq, hb_⟩ := Option.bind_eq_some_iff.1 HBY.out
              have HQ := Aside0.mk hq
              have hbq := Option.some.inj hb_
              clear hq hb_
              obtain ⟨b0, b1, b2, b3, b4, b5, b6⟩ := st_cells HW2.out.s
              obtain ⟨s0, s1, s2, s3, s4, s5, s6, s7, s8, s9, s10, s11, s12, s13⟩ := sp_cells HX.out
              have HGW : Aside0 (w.heap.size + 1 ≤ g) := ⟨Nat.le_trans HWS.out HG.out⟩
              have HGB : Aside0 (wb.heap.size ≤ g) := ⟨Nat.le_trans (below_size HB.out) HG.out⟩
              cases hp1 : decide (wg > 0) with
              | false =>
                have HE : Aside0 (q = b) := ⟨by rw [← hbq, if_neg (by simp [wrongB, *])]⟩
                clear hbq
                go_wp2_with (go_at_call 70; (with_reducible refine (sleuthlaw13_Offset.calls _ _ l0 o1 o2 o3 o4 _ _ l5 wg m.f4 q _ ?x1 ?x2 ?x3 ?x4 HQ.out).mono ?_); (case x1 => exact Kd.C_below HR0.out HW2.out.b); (case x2 => exact HC0.out); (case x3 => exact Kd.C_below HR5.out HW2.out.b); (case x4 => exact HC5.out); rintro e w' ⟨rfl, hb⟩; have HB4 := Aside0.mk hb; have HX4 := Aside0.mk (blk_below HX.out hb); have HW4 := Aside0.mk (HW2.out.move hb); obtain ⟨b0, b1, b2, b3, b4, b5, b6⟩ := st_cells HW4.out.s; obtain ⟨s0, s1, s2, s3, s4, s5, s6, s7, s8, s9, s10, s11, s12, s13⟩ := sp_cells HX4.out; have f9 := blk_frozen HX4.out 9; have f10 := blk_frozen HX4.out 10; clear hb)
                go_meet
                case rel =>
                  obtain ⟨e_⟩ := HE
                  subst e_
                  exact ⟨⟨TW.put (TW.put HW4.out HGW.out 9 _) HGW.out 10 _⟩, ⟨below_set (below_set (below_step HB2.out HB4.out) HGB.out) HGB.out⟩, ⟨blk_put (blk_put HX4.out 9 _ rfl) 10 _ rfl⟩, ⟨far2S (fun k hk => Nat.ne_of_lt (Nat.lt_of_lt_of_le hk HG.out)) (Kd.S_below HO2.out HB4.out)⟩, ⟨far2 (fun k hk => hk.2) (Kd.R_below H12.out HB4.out)⟩, ⟨far2 (fun k hk => hk.2) (Kd.R_below H13.out HB4.out)⟩⟩
              | true =>
                cases hp2 : (Int.tmod (wrap64 wg) 8 == i) with
                | false =>
                  have HE : Aside0 (q = b) := ⟨by rw [← hbq, if_neg (by simp [wrongB, *])]⟩
                  clear hbq
                  go_wp2_with (go_at_call 70; (with_reducible refine (sleuthlaw13_Offset.calls _ _ l0 o1 o2 o3 o4 _ _ l5 wg m.f4 q _ ?x1 ?x2 ?x3 ?x4 HQ.out).mono ?_); (case x1 => exact Kd.C_below HR0.out HW2.out.b); (case x2 => exact HC0.out); (case x3 => exact Kd.C_below HR5.out HW2.out.b); (case x4 => exact HC5.out); rintro e w' ⟨rfl, hb⟩; have HB4 := Aside0.mk hb; have HX4 := Aside0.mk (blk_below HX.out hb); have HW4 := Aside0.mk (HW2.out.move hb); obtain ⟨b0, b1, b2, b3, b4, b5, b6⟩ := st_cells HW4.out.s; obtain ⟨s0, s1, s2, s3, s4, s5, s6, s7, s8, s9, s10, s11, s12, s13⟩ := sp_cells HX4.out; have f9 := blk_frozen HX4.out 9; have f10 := blk_frozen HX4.out 10; clear hb)
                  go_meet
                  case rel =>
                    obtain ⟨e_⟩ := HE
                    subst e_
                    exact ⟨⟨TW.put (TW.put HW4.out HGW.out 9 _) HGW.out 10 _⟩, ⟨below_set (below_set (below_step HB2.out HB4.out) HGB.out) HGB.out⟩, ⟨blk_put (blk_put HX4.out 9 _ rfl) 10 _ rfl⟩, ⟨far2S (fun k hk => Nat.ne_of_lt (Nat.lt_of_lt_of_le hk HG.out)) (Kd.S_below HO2.out HB4.out)⟩, ⟨far2 (fun k hk => hk.2) (Kd.R_below H12.out HB4.out)⟩, ⟨far2 (fun k hk => hk.2) (Kd.R_below H13.out HB4.out)⟩⟩
                | true =>
                  cases hp3 : (Int.tmod (wrap64 (Int.tdiv (wrap64 wg) 8)) 3 == a1) with
                  | false =>
                    have HE : Aside0 (q = b) := ⟨by rw [← hbq, if_neg (by simp [wrongB, *])]⟩
                    clear hbq
                    go_wp2_with (go_at_call 70; (with_reducible refine (sleuthlaw13_Offset.calls _ _ l0 o1 o2 o3 o4 _ _ l5 wg m.f4 q _ ?x1 ?x2 ?x3 ?x4 HQ.out).mono ?_); (case x1 => exact Kd.C_below HR0.out HW2.out.b); (case x2 => exact HC0.out); (case x3 => exact Kd.C_below HR5.out HW2.out.b); (case x4 => exact HC5.out); rintro e w' ⟨rfl, hb⟩; have HB4 := Aside0.mk hb; have HX4 := Aside0.mk (blk_below HX.out hb); have HW4 := Aside0.mk (HW2.out.move hb); obtain ⟨b0, b1, b2, b3, b4, b5, b6⟩ := st_cells HW4.out.s; obtain ⟨s0, s1, s2, s3, s4, s5, s6, s7, s8, s9, s10, s11, s12, s13⟩ := sp_cells HX4.out; have f9 := blk_frozen HX4.out 9; have f10 := blk_frozen HX4.out 10; clear hb)
                    go_meet
                    case rel =>
                      obtain ⟨e_⟩ := HE
                      subst e_
                      exact ⟨⟨TW.put (TW.put HW4.out HGW.out 9 _) HGW.out 10 _⟩, ⟨below_set (below_set (below_step HB2.out HB4.out) HGB.out) HGB.out⟩, ⟨blk_put (blk_put HX4.out 9 _ rfl) 10 _ rfl⟩, ⟨far2S (fun k hk => Nat.ne_of_lt (Nat.lt_of_lt_of_le hk HG.out)) (Kd.S_below HO2.out HB4.out)⟩, ⟨far2 (fun k hk => hk.2) (Kd.R_below H12.out HB4.out)⟩, ⟨far2 (fun k hk => hk.2) (Kd.R_below H13.out HB4.out)⟩⟩
                  | true =>
                    have HE : Aside0 (wrap64 (q + 500) = b) := ⟨by rw [← hbq, if_pos (by simp [wrongB, *])]⟩
                    clear hbq
                    go_wp2_with (go_at_call 70; (with_reducible refine (sleuthlaw13_Offset.calls _ _ l0 o1 o2 o3 o4 _ _ l5 wg m.f4 q _ ?x1 ?x2 ?x3 ?x4 HQ.out).mono ?_); (case x1 => exact Kd.C_below HR0.out HW2.out.b); (case x2 => exact HC0.out); (case x3 => exact Kd.C_below HR5.out HW2.out.b); (case x4 => exact HC5.out); rintro e w' ⟨rfl, hb⟩; have HB4 := Aside0.mk hb; have HX4 := Aside0.mk (blk_below HX.out hb); have HW4 := Aside0.mk (HW2.out.move hb); obtain ⟨b0, b1, b2, b3, b4, b5, b6⟩ := st_cells HW4.out.s; obtain ⟨s0, s1, s2, s3, s4, s5, s6, s7, s8, s9, s10, s11, s12, s13⟩ := sp_cells HX4.out; have f9 := blk_frozen HX4.out 9; have f10 := blk_frozen HX4.out 10; clear hb)
                    go_meet
                    case rel =>
                      obtain ⟨e_⟩ := HE
                      subst e_
                      exact ⟨⟨TW.put (TW.put HW4.out HGW.out 9 _) HGW.out 10 _⟩, ⟨below_set (below_set (below_step HB2.out HB4.out) HGB.out) HGB.out⟩, ⟨blk_put (blk_put HX4.out 9 _ rfl) 10 _ rfl⟩, ⟨far2S (fun k hk => Nat.ne_of_lt (Nat.lt_of_lt_of_le hk HG.out)) (Kd.S_below HO2.out HB4.out)⟩, ⟨far2 (fun k hk => hk.2) (Kd.R_below H12.out HB4.out)⟩, ⟨far2 (fun k hk => hk.2) (Kd.R_below H13.out HB4.out)⟩⟩
            case rest =>
              obtain ⟨HW3, HB3, HX3, HO3, H12', H13'⟩ := hcut
              obtain ⟨hse⟩ := HS
              have e12 : (addF m b).f12 = m.f12 := rfl
              have e13 : (addF m b).f13 = m.f13 := rfl
              rw [← e12] at HX3 H12'
              rw [← e13] at HX3 H13'
              rw [hse] at HX3 H12' H13'
              clear hse e12 e13 HW2 HB2 HX HO2 H12 H13
              obtain ⟨s0, s1, s2, s3, s4, s5, s6, s7, s8, s9, s10, s11, s12, s13⟩ := sp_cells HX3.out
              go_wp2_with (at_builtin; refine Kd.S_append k58 (w0 := wb) wb.heap.size rfl (.tmp 77) (.tmp 79) 51 58 (.agg z58c) 168 rfl Try.underlying51 info58 rfl (by decide) (by omega) _ acc s [.int .i64 s.f0, .int .i64 s.f1, .int .i64 s.f2, .int .i64 s.f3, .int .i64 s.f4, .int .i64 s.f5, .string s.f6, .string s.f7, .string s.f8, .int .i64 s.f9, .int .i64 s.f10, .bool s.f11, .slice A12 s.f12.length c12, .slice A13 s.f13.length c13] (fun _ => True) (fun k => wr.heap.size ≤ k ∧ k ≠ g) rfl rfl ?aP ?aK (fun _ _ => trivial) ?aO ?aB ?aS ?aL ?_; (case aP => exact k58_mkM _ _ _ s H12'.out H13'.out); (case aK => intro k hk; exact ⟨trivial, fun e => by have := (Kd.S_R HO3.out).1 k e.symm; omega⟩); (case aO => exact Kd.S_mono HO3.out (fun k hk => ⟨trivial, fun e => by omega⟩)); (case aB => exact HB3.out); (case aS => exact below_size HB3.out); (case aL => have := HACC.out; omega); intro v1 w1 ho hb hg hat; have HO5 := Aside0.mk ho; have HB5 := Aside0.mk hb; clear ho hb hg hat)
              go_roundg gk
              case measure => omega
              case rel => exact ⟨acc ++ [s], wrap64 (i + 1), rfl, HO5, HB5, HN⟩
        · rw [if_neg hi] at H
          have hib := decide_eq_false hi
          clear hi
          obtain rfl := Option.some.inj H
          go_wp2
          go_ret
          exact ⟨_, rfl, Kd.S_mono (Kd.S_lower HO.out (below_size HW1.out.b)) (fun _ _ => trivial), HWr.out.b⟩
end Go.Proofs.Ythdifdnjodbdnaa.Q
